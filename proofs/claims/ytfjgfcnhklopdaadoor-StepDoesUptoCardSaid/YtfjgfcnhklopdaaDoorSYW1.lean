import Derived.Test.YtfjgfcnhklopdaaDoorSYC
set_option maxHeartbeats 4000000
set_option linter.unusedVariables false
set_option linter.unusedSimpArgs false
namespace Ld
open Go Go.Proofs Go.Abs
set_option maxRecDepth 8000
def c41 : ACode := .seq (.reg [] [] [.K 0 (.alloc [.im true [], .im true []] 2)]) (.seq (.reg [] [] [.T 1 (.build [(0, 1), (1, 1)] [.d (.v (.string ⟨#[]⟩)), .d (.v (.int .i64 0))] [(0, .const (.string { data := #[122, 101, 114, 111] }))]), .T 2 (.build [(0, 1), (1, 1)] [.d (.v (.string ⟨#[]⟩)), .d (.v (.int .i64 0))] [(0, .const (.string { data := #[115] })), (1, .const (.int .i64 1))]), .T 3 (.build [(0, 1), (1, 1)] [.d (.v (.string ⟨#[]⟩)), .d (.v (.int .i64 0))] [(0, .const (.string { data := #[112, 108, 117, 115] })), (1, .const (.int .i64 2))]), ⟨some (4, false), .lit 2 [(0, .tmp 1), (1, .tmp 2), (2, .tmp 3)], none, false, true⟩, ⟨some (5, false), .lit 1 [(0, .const (.int .i64 2)), (1, .const (.int .i64 0)), (2, .const (.int .i64 (-1)))], none, false, true⟩, ⟨some (6, false), .lit 1 [(0, .const (.int .i64 (-1)))], none, false, true⟩, .T 7 (.build [(0, 1), (1, 1)] [.im true [], .im true []] [(0, .tmp 5), (1, .tmp 6)]), ⟨some (8, false), .lit 1 [(0, .const (.int .i64 2)), (1, .const (.int .i64 1)), (2, .const (.int .i64 (-1))), (3, .const (.int .i64 (-2)))], none, false, true⟩, ⟨some (9, false), .lit 1 [(0, .const (.int .i64 1)), (1, .const (.int .i64 2)), (2, .const (.int .i64 (-1))), (3, .const (.int .i64 (-2)))], none, false, true⟩, .T 10 (.build [(0, 1), (1, 1)] [.im true [], .im true []] [(0, .tmp 8), (1, .tmp 9)]), ⟨some (11, false), .lit 2 [(0, .tmp 7), (1, .tmp 10)], none, false, true⟩, .T 12 (.build [(0, 1), (1, 1)] [.im true [], .im true []] [(0, .tmp 4), (1, .tmp 11)]), ⟨none, .store 2 (.tmp 0) (.tmp 12), none, false, false⟩]) (.ret))
theorem is41 : IsF C 41 13 1 c41 [.cell 0 25] := ⟨⟨Tryd.f41, _, C_P ▸ Tryd.func41, rfl, rfl, rfl, by kernel_rfl, rfl⟩⟩
theorem qsU9  {r : System} (hr : qjQ9 = some r) : Res C 41 [] (.d (.ag (qf9 r))) := by
  simp only [qjQ9] at hr
  obtain rfl := oiA hr
  refine run_V is41 (nbA rfl) ?_
  rotate_left
  all_goals (simp +decide only [go_sem, c41, *])
theorem qhN9 {a0 : ByteArray} {r : Bool} (hr : qbe9 a0 = some r) {h : AHeap} : callP C (Lim C) 114 [.d (.v (.string a0))] h = some (.d (.v (.bool r)), h) := by
  have e : C.prim 114 = some qbm9 := rfl
  simp only [callP, e, qbm9, hr]

def c115 : ACode := .seq (.reg [] [] [.K 2 (.mv (.const (.bool false)))]) (.seq (.reg [] [] [.M 3 0, .T 4 (.bin .leq (.const (.int .i32 97)) (.tmp 3)), .M 5 4, .MG 6 5 true 0, .TG 7 5 true (.bin .leq (.tmp 6) (.const (.int .i32 122))), .T 8 (.pick (.tmp 5) (.tmp 7) (.const (.bool false))), .M 9 8, .MG 10 9 false 0, .TG 11 9 false (.bin .leq (.const (.int .i32 65)) (.tmp 10)), .MG 12 9 false 11, .MG 13 12 true 0, .TG 14 12 true (.bin .leq (.tmp 13) (.const (.int .i32 90))), .TG 15 9 false (.pick (.tmp 12) (.tmp 14) (.const (.bool false))), .T 16 (.pick (.tmp 9) (.const (.bool true)) (.tmp 15)), .M 17 16, .MG 18 17 false 0, .TG 19 17 false (.bin .geq (.tmp 18) (.const (.int .i32 128))), .T 20 (.pick (.tmp 17) (.const (.bool true)) (.tmp 19)), .N 2 20]) (.ret))
theorem is115 : IsF C 115 21 5 c115 [.tmp 2] := ⟨⟨Tryd.f115, _, C_P ▸ Tryd.func115, rfl, rfl, rfl, by kernel_rfl, rfl⟩⟩
theorem qnM9 {a0 : Int} {r : Bool} (hr : qdR9 a0 = some r) : Res C 115 [.v (.int .i32 a0)] (PB r) := by
  simp only [qdR9] at hr
  rcases iteP hr with ⟨h1, hr⟩ | ⟨h1, hr⟩
  rcases iteP hr with ⟨h2, hr⟩ | ⟨h2, hr⟩
  obtain rfl := oiA hr
  refine run_V is115 (nbA rfl) ?_
  rotate_left
  rcases iteP hr with ⟨h3, hr⟩ | ⟨h3, hr⟩
  rcases iteP hr with ⟨h4, hr⟩ | ⟨h4, hr⟩
  obtain rfl := oiA hr
  refine run_V is115 (nbA rfl) ?_
  rotate_left
  obtain rfl := oiA hr
  refine run_V is115 (nbA rfl) ?_
  rotate_left
  obtain rfl := oiA hr
  refine run_V is115 (nbA rfl) ?_
  rotate_left
  rcases iteP hr with ⟨h5, hr⟩ | ⟨h5, hr⟩
  rcases iteP hr with ⟨h6, hr⟩ | ⟨h6, hr⟩
  obtain rfl := oiA hr
  refine run_V is115 (nbA rfl) ?_
  rotate_left
  obtain rfl := oiA hr
  refine run_V is115 (nbA rfl) ?_
  rotate_left
  obtain rfl := oiA hr
  refine run_V is115 (nbA rfl) ?_
  rotate_left
  all_goals (simp +decide only [go_sem, c115, *])
def b93_0 : ACode := .seq (.reg [] [] [.K 19 (.nxt (.tmp 18) true), .K 20 (.ext (.tmp 19) 0)]) (.seq (.cond (.tmp 20) (some 20) (.skip) (.exit 0)) (.block 1 77070360 (.seq (.reg [] [] [.T 21 (.ext (.tmp 19) 1), .T 22 (.ext (.tmp 19) 2), .N 3 21, .N 4 22]) (.block 2 77070360 (.seq (.reg [] [] [.M 24 4, .T 25 (.call 115 [.tmp 24]), .N 23 25]) (.cond (.tmp 23) (some 23) (.skip) (.seq (.reg [] [] [.M 27 3, .T 28 (.bin .gtr (.tmp 27) (cI 0)), .M 29 28, .MG 30 29 true 4, .TG 31 29 true (.bin .leq (.const (.int .i32 48)) (.tmp 30)), .MG 32 29 true 31, .MG 33 32 true 4, .TG 34 32 true (.bin .leq (.tmp 33) (.const (.int .i32 57))), .TG 35 29 true (.pick (.tmp 32) (.tmp 34) (.const (.bool false))), .MG 36 29 true 35, .MG 37 36 false 4, .TG 38 36 false (.bin .eql (.tmp 37) (.const (.int .i32 95))), .TG 39 29 true (.pick (.tmp 36) (.const (.bool true)) (.tmp 38)), .MG 40 29 true 39, .MG 41 40 false 4, .TG 42 40 false (.bin .eql (.tmp 41) (.const (.int .i32 39))), .TG 43 29 true (.pick (.tmp 40) (.const (.bool true)) (.tmp 42)), .T 44 (.pick (.tmp 29) (.tmp 43) (.const (.bool false))), .N 26 44]) (.cond (.tmp 26) (some 26) (.skip) (.seq (.reg [] [] [.K 2 (.mv (.const (.bool false)))]) (.ret))))))))))
def c93 : ACode := .seq (.reg [] [] [.K 2 (.mv (.const (.bool false)))]) (.seq (.seq (.reg [] [] [.M 5 0, .T 6 (.bin .eql (.tmp 5) (.const (.string { data := #[] }))), .M 7 6, .MG 8 7 false 0, .TG 9 7 false (.slen (.tmp 8)), .TG 10 7 false (.bin .gtr (.tmp 9) (cI 32)), .T 11 (.pick (.tmp 7) (.const (.bool true)) (.tmp 10)), .M 12 11, .MG 13 12 false 0, .TG 14 12 false (.call 114 [.tmp 13]), .TG 15 12 false (.not (.tmp 14)), .K 16 (.pick (.tmp 12) (.const (.bool true)) (.tmp 15))]) (.cond (.tmp 16) (some 16) (.seq (.reg [] [] [.K 2 (.mv (.const (.bool false)))]) (.ret)) (.skip))) (.seq (.seq (.reg [] [] [.M 17 0, .K 18 (.rng (.tmp 17))]) (.block 0 77070360 (.loop b93_0))) (.seq (.reg [] [] [.K 2 (.mv (.const (.bool true)))]) (.ret))))
theorem is93 : IsF C 93 45 77398045 c93 [.tmp 2] := ⟨⟨Tryd.f93, _, C_P ▸ Tryd.func93, rfl, rfl, rfl, by kernel_rfl, rfl⟩⟩
def qfR9 (s0 : ByteArray) (t18 : ByteArray) : Nat → Unit → St := fun q18 _ => ⟨[(0, .d (.v (.string s0))), (2, PB false), (18, .it 0)], (.siter t18 q18 :: [])⟩
def qnP9 (s0 : ByteArray) (t18 : ByteArray) : (Bool ⊕ Nat) → AExit × St → Prop
  | .inl r, q => XV C [.tmp 2] (PB r) q
  | .inr q18, q => ∃ d19 : PV, q = (.exit 0, ⟨[(0, .d (.v (.string s0))), (2, PB false), (18, .it 0), (19, d19)], (.siter t18 q18 :: [])⟩)
theorem qnE9 {s0 : ByteArray} {t18 : ByteArray} : Sim C 77398045 b93_0 (qbd9 s0 t18) (qfR9 s0 t18) (qnP9 s0 t18) := by
  intro s g r hr
  have ⟨q18, hs0⟩ : ∃ y, y = s := ⟨_, rfl⟩
  subst hs0
  simp only [qbd9] at hr
  rcases iteP hr with ⟨h1, hr⟩ | ⟨h1, hr⟩
  obtain ⟨x2, h2, hr⟩ := bsome hr
  have h2k := (qnM9 h2).k rfl rfl rfl
  try simp only [go_sem] at h2k
  rcases iteB hr with ⟨h3, hr⟩ | ⟨h3, hr⟩
  obtain rfl := oiA hr
  refine ⟨(), ?_⟩
  rotate_left
  rcases iteP hr with ⟨h4, hr⟩ | ⟨h4, hr⟩
  rcases iteP hr with ⟨h5, hr⟩ | ⟨h5, hr⟩
  rcases iteP hr with ⟨h6, hr⟩ | ⟨h6, hr⟩
  obtain rfl := oiA hr
  refine ⟨(), ?_⟩
  rotate_left
  rcases iteP hr with ⟨h7, hr⟩ | ⟨h7, hr⟩
  obtain rfl := oiA hr
  refine ⟨(), ?_⟩
  rotate_left
  rcases iteP hr with ⟨h8, hr⟩ | ⟨h8, hr⟩
  obtain rfl := oiA hr
  refine ⟨(), ?_⟩
  rotate_left
  obtain rfl := oiA hr
  refine xv_of ?_
  rotate_left
  rcases iteP hr with ⟨h9, hr⟩ | ⟨h9, hr⟩
  obtain rfl := oiA hr
  refine ⟨(), ?_⟩
  rotate_left
  rcases iteP hr with ⟨h10, hr⟩ | ⟨h10, hr⟩
  obtain rfl := oiA hr
  refine ⟨(), ?_⟩
  rotate_left
  obtain rfl := oiA hr
  refine xv_of ?_
  rotate_left
  obtain rfl := oiA hr
  refine xv_of ?_
  rotate_left
  obtain rfl := oiA hr
  refine xe_of ⟨.tp [PB false], rfl⟩ ?_
  rotate_left
  all_goals (simp +decide only [go_sem, qfR9, b93_0, *])
theorem qkf9 {a0 : ByteArray} {r : Bool} (hr : qW9 a0 = some r) : Res C 93 [.v (.string a0)] (PB r) := by
  simp only [qW9] at hr
  rcases iteP hr with ⟨h1, hr⟩ | ⟨h1, hr⟩
  obtain rfl := oiA hr
  refine run_V is93 (nbA rfl) ?_
  rotate_left
  rcases iteP hr with ⟨h2, hr⟩ | ⟨h2, hr⟩
  obtain rfl := oiA hr
  refine run_V is93 (nbA rfl) ?_
  rotate_left
  obtain ⟨x1, h3, hr⟩ := bsome hr
  have h3k := fun h => qhN9 (h := h) h3
  try simp only [go_sem] at h3k
  rcases iteB hr with ⟨h4, hr⟩ | ⟨h4, hr⟩
  obtain ⟨x3, h5, hr⟩ := bsome hr
  obtain ⟨q5, h5L, h5X⟩ := qnE9.L (g := ()) h5
  rcases x3 with x4 | x5
  try dsimp only at hr
  obtain ⟨st5, rfl, h5R⟩ := h5X
  simp only [qfR9, go_sem] at h5L
  obtain rfl := oiA hr
  refine run_V is93 (nbA rfl) ?_
  rotate_left
  try dsimp only at hr
  obtain ⟨z6, rfl⟩ := h5X
  simp only [qfR9, go_sem] at h5L
  obtain rfl := oiA hr
  refine run_V is93 (nbA rfl) ?_
  rotate_left
  obtain rfl := oiA hr
  refine run_V is93 (nbA rfl) ?_
  rotate_left
  all_goals (simp +decide only [go_sem, c93, *])
def c95 : ACode := .seq (.reg [] [] [.K 2 (.box (.tmp 0)), .K 3 (.mv (.const (.bool false)))]) (.seq (.reg [] [] [.T 4 (.fa 0 (.tmp 2)), .T 5 (.load none (.tmp 4)), .T 6 (.fa 0 (.tmp 1)), .T 7 (.load none (.tmp 6)), .T 8 (.bin .eql (.tmp 5) (.tmp 7)), .N 3 8]) (.ret))
theorem is95 : IsF C 95 9 15 c95 [.tmp 3] := ⟨⟨Tryd.f95, _, C_P ▸ Tryd.func95, rfl, rfl, rfl, by kernel_rfl, rfl⟩⟩
theorem qkk9 {a0 : Symbol} {a1 : Symbol} {r : Bool} (hr : qep9 a0 a1 = some r) : Res C 95 [.ag (qb9 a0), .bx (qb9 a1)] (PB r) := by
  simp only [qep9] at hr
  obtain rfl := oiA hr
  refine run_V is95 (nbA rfl) ?_
  rotate_left
  all_goals (simp +decide only [go_sem, c95, *])
def qkr9 : ACode := .seq (.reg [] [] [.K 9 (.bin .lss (.tmp 8) (.tmp 7))]) (.seq (.cond (.tmp 9) (some 9) (.skip) (.exit 0)) (.seq (.block 1 66080 (.seq (.reg [] [] [.M 10 8, .N 5 10]) (.seq (.reg [] [] [.M 11 1, .M 12 0, .M 13 5, .T 14 (.ix 2 (.tmp 12) (.tmp 13)), .T 15 (.load (some 2) (.tmp 14)), .K 16 (.callV (.tmp 11) [.tmp 15])]) (.cond (.tmp 16) (some 16) (.seq (.reg [] [] [.M 17 5, .N 4 17]) (.ret)) (.skip))))) (.reg [] [] [.T 18 (.bin .add (.tmp 8) (cI 1)), .N 8 18])))
def c116 : ACode := .seq (.reg [] [] [.K 4 (.mv (cI 0))]) (.seq (.seq (.reg [] [] [.M 6 0, .K 7 (.len (.tmp 6)), .K 8 (.mv (cI 0))]) (.block 0 66080 (.loop qkr9))) (.seq (.reg [] [] [.K 4 (.mv (cI (-1)))]) (.ret)))
theorem is116 : IsF C 116 19 66483 c116 [.tmp 4] := ⟨⟨Tryd.f116, _, C_P ▸ Tryd.func116, rfl, rfl, rfl, by kernel_rfl, rfl⟩⟩
def qs9 (s0 : List Symbol) (s1_0 : Symbol) (s7 : Int) : Int → Unit → St := fun s8 _ => ⟨[(0, .d (.rd (s0.map qb9))), (1, .d (.fn 95 [.bx (qb9 s1_0)])), (4, PI 0), (7, PI s7), (8, PI s8)], []⟩
def qcp9 (s0 : List Symbol) (s1_0 : Symbol) (s7 : Int) : (Int ⊕ Int) → AExit × St → Prop
  | .inl r, q => XV C [.tmp 4] (PI r) q
  | .inr s8, q => ∃ g, q = (.exit 0, qs9 s0 s1_0 s7 s8 g)
theorem qcn9 {s0 : List Symbol} {s1_0 : Symbol} {s7 : Int} : Sim C 66483 qkr9 (qk9 s0 s1_0 s7) (qs9 s0 s1_0 s7) (qcp9 s0 s1_0 s7) := by
  intro s g r hr
  have ⟨s8, hs0⟩ : ∃ y, y = s := ⟨_, rfl⟩
  subst hs0
  simp only [qk9] at hr
  rcases iteP hr with ⟨h1, hr⟩ | ⟨h1, hr⟩
  obtain ⟨x1, h2, x2, h3, hr⟩ := bs2 hr
  have h3k := fun h => (qkk9 h3).o rfl rfl rfl (h := h) (args := [.ag [.d (.v (.string x1.Name)), PI x1.Arity], .d (.bx (qb9 s1_0))]) rfl
  try simp only [go_sem] at h3k
  rcases iteB hr with ⟨h4, hr⟩ | ⟨h4, hr⟩
  obtain rfl := oiA hr
  refine xv_of ?_
  rotate_left
  obtain rfl := oiA hr
  refine ⟨(), ?_⟩
  rotate_left
  obtain rfl := oiA hr
  refine xe_of ⟨(), rfl⟩ ?_
  rotate_left
  all_goals (simp +decide only [go_sem, qs9, qkr9, *])
theorem qcy9 {a0 : List Symbol} {a1_0 : Symbol} {r : Int} (hr : qB9 a0 a1_0 = some r) : Res C 116 [.rd (a0.map qb9), .fn 95 [.bx (qb9 a1_0)]] (PI r) := by
  simp only [qB9] at hr
  obtain ⟨x3, h1, hr⟩ := bsome hr
  obtain ⟨q1, h1L, h1X⟩ := qcn9.L (g := ()) h1
  rcases x3 with x4 | x5
  try dsimp only at hr
  obtain ⟨st1, rfl, h1R⟩ := h1X
  simp only [qs9, go_sem] at h1L
  obtain rfl := oiA hr
  refine run_V is116 (nbA rfl) ?_
  rotate_left
  try dsimp only at hr
  obtain ⟨⟨⟩, rfl⟩ := h1X
  simp only [qs9, go_sem] at h1L
  obtain rfl := oiA hr
  refine run_V is116 (nbA rfl) ?_
  rotate_left
  all_goals (simp +decide only [go_sem, c116, *])
def c94 : ACode := .seq (.reg [] [] [.K 4 (.mv (.const (.bool false)))]) (.seq (.reg [] [] [.M 5 0, .M 6 1, .T 7 (.call 116 [.tmp 5, .tmp 6]), .T 8 (.bin .geq (.tmp 7) (cI 0)), .N 4 8]) (.ret))
theorem is94 : IsF C 94 9 19 c94 [.tmp 4] := ⟨⟨Tryd.f94, _, C_P ▸ Tryd.func94, rfl, rfl, rfl, by kernel_rfl, rfl⟩⟩
theorem qbc9 {a0 : List Symbol} {a1_0 : Symbol} {r : Bool} (hr : ql9 a0 a1_0 = some r) : Res C 94 [.rd (a0.map qb9), .fn 95 [.bx (qb9 a1_0)]] (PB r) := by
  simp only [ql9] at hr
  obtain ⟨x1, h1, hr⟩ := bsome hr
  have h1k := (qcy9 h1).k rfl rfl rfl
  try simp only [go_sem] at h1k
  obtain rfl := oiA hr
  refine run_V is94 (nbA rfl) ?_
  rotate_left
  all_goals (simp +decide only [go_sem, c94, *])
def b69_0 : ACode := .seq (.reg [] [] [.K 12 (.bin .lss (.tmp 11) (.tmp 10))]) (.seq (.cond (.tmp 12) (some 12) (.skip) (.exit 0)) (.seq (.block 1 18049582882099256 (.seq (.reg [] [] [.M 13 11, .T 14 (.ix 2 (.tmp 9) (.tmp 11)), .T 15 (.load (some 2) (.tmp 14)), .K 4 (.alloc [.d (.v (.string ⟨#[]⟩)), .d (.v (.int .i64 0))] 2), .N 3 13, ⟨none, .store 2 (.tmp 4) (.tmp 15), none, false, false⟩]) (.seq (.reg [] [] [.T 16 (.fa 0 (.tmp 4)), .T 17 (.load none (.tmp 16)), .T 18 (.slen (.tmp 17)), .N 5 18]) (.block 2 18049582882099256 (.seq (.reg [] [] [.T 20 (.fa 0 (.tmp 4)), .T 21 (.load none (.tmp 20)), .T 22 (.call 93 [.tmp 21]), .T 23 (.not (.tmp 22)), .M 24 23, .MG 25 24 true 5, .TG 26 24 true (.bin .eql (.tmp 25) (cI 0)), .MG 27 24 true 26, .TG 28 27 false (.fa 0 (.tmp 4)), .TG 29 27 false (.load none (.tmp 28)), .MG 30 27 false 5, .TG 31 27 false (.bin .sub (.tmp 30) (cI 1)), .TG 32 27 false (.ixS (.tmp 29) (.tmp 31)), .TG 33 27 false (.bin .neq (.tmp 32) (.const (.int .u8 35))), .TG 34 24 true (.pick (.tmp 27) (.const (.bool true)) (.tmp 33)), .MG 35 24 true 34, .TG 36 35 false (.fa 0 (.tmp 4)), .TG 37 35 false (.load none (.tmp 36)), .MG 38 35 false 5, .TG 39 35 false (.bin .sub (.tmp 38) (cI 1)), .TG 40 35 false (.cutS (.tmp 37) none (some (.tmp 39))), .TG 41 35 false (.call 93 [.tmp 40]), .TG 42 35 false (.not (.tmp 41)), .TG 43 24 true (.pick (.tmp 35) (.const (.bool true)) (.tmp 42)), .T 44 (.pick (.tmp 24) (.tmp 43) (.const (.bool false))), .N 19 44]) (.cond (.tmp 19) (some 19) (.seq (.reg [] [] [.K 2 (.mv (cI 34))]) (.ret)) (.seq (.reg [] [] [.T 46 (.fa 1 (.tmp 4)), .T 47 (.load none (.tmp 46)), .T 48 (.bin .lss (.tmp 47) (cI 0)), .M 49 48, .TG 50 49 false (.fa 1 (.tmp 4)), .TG 51 49 false (.load none (.tmp 50)), .TG 52 49 false (.bin .gtr (.tmp 51) (cI 8)), .T 53 (.pick (.tmp 49) (.const (.bool true)) (.tmp 52)), .N 45 53]) (.cond (.tmp 45) (some 45) (.seq (.reg [] [] [.K 2 (.mv (cI 35))]) (.ret)) (.seq (.reg [] [] [.M 55 0, .M 56 3, .T 57 (.cut 2 (.tmp 55) none (some (.tmp 56))), .T 58 (.mkF 95 [.tmp 4]), .T 59 (.call 94 [.tmp 57, .tmp 58]), .N 54 59]) (.cond (.tmp 54) (some 54) (.seq (.reg [] [] [.K 2 (.mv (cI 36))]) (.ret)) (.skip))))))))))) (.reg [] [] [.T 60 (.bin .add (.tmp 11) (cI 1)), .N 11 60])))
def c69 : ACode := .seq (.reg [] [] [.K 2 (.mv (cI 0))]) (.seq (.seq (.reg [] [] [.M 6 0, .T 7 (.len (.tmp 6)), .K 8 (.bin .gtr (.tmp 7) (cI 128))]) (.cond (.tmp 8) (some 8) (.seq (.reg [] [] [.K 2 (.mv (cI 37))]) (.ret)) (.skip))) (.seq (.seq (.reg [] [] [.N 9 0, .K 10 (.len (.tmp 9)), .K 11 (.mv (cI 0))]) (.block 0 18049582882099256 (.loop b69_0))) (.seq (.reg [] [] [.K 2 (.mv (cI 0))]) (.ret))))
theorem is69 : IsF C 69 61 18049582882103101 c69 [.tmp 2] := ⟨⟨Tryd.f69, _, C_P ▸ Tryd.func69, rfl, rfl, rfl, by kernel_rfl, rfl⟩⟩
def qdx9 (s0 : List Symbol) (s9 : List Symbol) (s10 : Int) : Int → AHeap → St := fun s11 gt => ⟨[(0, .d (.rd (s0.map qb9))), (2, PI 0), (9, .d (.rd (s9.map qb9))), (10, PI s10), (11, PI s11)], gt⟩
def qlo9 (s0 : List Symbol) (s9 : List Symbol) (s10 : Int) : (Int ⊕ Int) → AExit × St → Prop
  | .inl r, q => XV C [.tmp 2] (PI r) q
  | .inr s11, q => ∃ g, q = (.exit 0, qdx9 s0 s9 s10 s11 g)
theorem qlu9 {s0 : List Symbol} {s9 : List Symbol} {s10 : Int} : Sim C 18049582882103101 b69_0 (qE9 s0 s9 s10) (qdx9 s0 s9 s10) (qlo9 s0 s9 s10) := by
  intro s g r hr
  have ⟨s11, hs0⟩ : ∃ y, y = s := ⟨_, rfl⟩
  subst hs0
  have ⟨gt, hg0⟩ : ∃ y, y = g := ⟨_, rfl⟩
  subst hg0
  simp only [qE9] at hr
  rcases iteP hr with ⟨h1, hr⟩ | ⟨h1, hr⟩
  obtain ⟨x1, h2, x2, h3, hr⟩ := bs2 hr
  have h3k := (qkf9 h3).k rfl rfl rfl
  try simp only [go_sem] at h3k
  rcases iteB hr with ⟨h4, hr⟩ | ⟨h4, hr⟩
  rcases iteP hr with ⟨h5, hr⟩ | ⟨h5, hr⟩
  obtain rfl := oiA hr
  refine xv_of ?_
  rotate_left
  rcases iteP hr with ⟨h6, hr⟩ | ⟨h6, hr⟩
  obtain rfl := oiA hr
  refine xv_of ?_
  rotate_left
  obtain ⟨x3, h7, x4, h8, hr⟩ := bs2 hr
  have h8k := fun h args => (qbc9 h8).o rfl rfl rfl (h := h) (args := args)
  try simp only [go_sem] at h8k
  rcases iteB hr with ⟨h9, hr⟩ | ⟨h9, hr⟩
  obtain rfl := oiA hr
  refine xv_of ?_
  rotate_left
  obtain rfl := oiA hr
  refine ⟨(gt ++ (.row false 0 2 [[.d (.v (.string x1.Name)), PI x1.Arity]] :: [])), ?_⟩
  rotate_left
  rcases iteP hr with ⟨h10, hr⟩ | ⟨h10, hr⟩
  obtain rfl := oiA hr
  refine xv_of ?_
  rotate_left
  obtain ⟨x5, h11, hr⟩ := bsome hr
  rcases iteP hr with ⟨h12, hr⟩ | ⟨h12, hr⟩
  obtain ⟨x6, h13, x7, h14, hr⟩ := bs2 hr
  have h14k := (qkf9 h14).k rfl rfl rfl
  try simp only [go_sem] at h14k
  rcases iteB hr with ⟨h15, hr⟩ | ⟨h15, hr⟩
  rcases iteP hr with ⟨h16, hr⟩ | ⟨h16, hr⟩
  obtain rfl := oiA hr
  refine xv_of ?_
  rotate_left
  rcases iteP hr with ⟨h17, hr⟩ | ⟨h17, hr⟩
  obtain rfl := oiA hr
  refine xv_of ?_
  rotate_left
  obtain ⟨x8, h18, x9, h19, hr⟩ := bs2 hr
  have h19k := fun h args => (qbc9 h19).o rfl rfl rfl (h := h) (args := args)
  try simp only [go_sem] at h19k
  rcases iteB hr with ⟨h20, hr⟩ | ⟨h20, hr⟩
  obtain rfl := oiA hr
  refine xv_of ?_
  rotate_left
  obtain rfl := oiA hr
  refine ⟨(gt ++ (.row false 0 2 [[.d (.v (.string x1.Name)), PI x1.Arity]] :: [])), ?_⟩
  rotate_left
  obtain rfl := oiA hr
  refine xv_of ?_
  rotate_left
  obtain rfl := oiA hr
  refine xv_of ?_
  rotate_left
  obtain rfl := oiA hr
  refine xe_of ⟨gt, rfl⟩ ?_
  rotate_left
  all_goals (simp +decide only [go_sem, qdx9, b69_0, *])
theorem qgB9 {a0 : List Symbol} {r : Int} (hr : qw9 a0 = some r) : Res C 69 [.rd (a0.map qb9)] (PI r) := by
  simp only [qw9] at hr
  rcases iteP hr with ⟨h1, hr⟩ | ⟨h1, hr⟩
  obtain rfl := oiA hr
  refine run_V is69 (nbA rfl) ?_
  rotate_left
  obtain ⟨x10, h2, hr⟩ := bsome hr
  obtain ⟨q2, h2L, h2X⟩ := qlu9.L (g := []) h2
  rcases x10 with x11 | x12
  try dsimp only at hr
  obtain ⟨st2, rfl, h2R⟩ := h2X
  simp only [qdx9, go_sem] at h2L
  obtain rfl := oiA hr
  refine run_V is69 (nbA rfl) ?_
  rotate_left
  try dsimp only at hr
  obtain ⟨z13, rfl⟩ := h2X
  simp only [qdx9, go_sem] at h2L
  obtain rfl := oiA hr
  refine run_V is69 (nbA rfl) ?_
  rotate_left
  all_goals (simp +decide only [go_sem, c69, *])
def c134 : ACode := .seq (.reg [] [] [.K 4 (.mv (.const (.bool false)))]) (.seq (.reg [] [] [.M 5 0, .T 6 (.slen (.tmp 5)), .M 7 1, .T 8 (.slen (.tmp 7)), .T 9 (.bin .geq (.tmp 6) (.tmp 8)), .M 10 9, .MG 11 10 true 0, .MG 12 10 true 0, .TG 13 10 true (.slen (.tmp 12)), .MG 14 10 true 1, .TG 15 10 true (.slen (.tmp 14)), .TG 16 10 true (.bin .sub (.tmp 13) (.tmp 15)), .TG 17 10 true (.cutS (.tmp 11) (some (.tmp 16)) none), .MG 18 10 true 1, .TG 19 10 true (.bin .eql (.tmp 17) (.tmp 18)), .T 20 (.pick (.tmp 10) (.tmp 19) (.const (.bool false))), .N 4 20]) (.ret))
theorem is134 : IsF C 134 21 19 c134 [.tmp 4] := ⟨⟨Tryd.f134, _, C_P ▸ Tryd.func134, rfl, rfl, rfl, by kernel_rfl, rfl⟩⟩
theorem qgd9 {a0 : ByteArray} {a1 : ByteArray} {r : Bool} (hr : qbG9 a0 a1 = some r) : Res C 134 [.v (.string a0), .v (.string a1)] (PB r) := by
  simp only [qbG9] at hr
  rcases iteP hr with ⟨h1, hr⟩ | ⟨h1, hr⟩
  obtain ⟨x1, h2, hr⟩ := bsome hr
  obtain rfl := oiA hr
  refine run_V is134 (nbA rfl) ?_
  rotate_left
  obtain rfl := oiA hr
  refine run_V is134 (nbA rfl) ?_
  rotate_left
  all_goals (simp +decide only [go_sem, c134, *])
def c118 : ACode := .seq (.reg [] [] [.K 4 (.mv (.const (.bool false)))]) (.seq (.reg [] [] [.M 5 0, .M 6 1, .T 7 (.call 134 [.tmp 5, .tmp 6]), .N 4 7]) (.ret))
theorem is118 : IsF C 118 8 19 c118 [.tmp 4] := ⟨⟨Tryd.f118, _, C_P ▸ Tryd.func118, rfl, rfl, rfl, by kernel_rfl, rfl⟩⟩
theorem qkc9 {a0 : ByteArray} {a1 : ByteArray} {r : Bool} (hr : qdV9 a0 a1 = some r) : Res C 118 [.v (.string a0), .v (.string a1)] (PB r) := by
  simp only [qdV9] at hr
  obtain ⟨x1, h1, hr⟩ := bsome hr
  have h1k := (qgd9 h1).k rfl rfl rfl
  try simp only [go_sem] at h1k
  obtain rfl := oiA hr
  refine run_V is118 (nbA rfl) ?_
  rotate_left
  all_goals (simp +decide only [go_sem, c118, *])
def c117 : ACode := .seq (.reg [] [] [.K 1 (.box (.tmp 0)), .K 2 (.mv (.const (.bool false)))]) (.seq (.reg [] [] [.T 3 (.fa 0 (.tmp 1)), .T 4 (.load none (.tmp 3)), .T 5 (.call 118 [.tmp 4, .const (.string { data := #[35] })]), .N 2 5]) (.ret))
theorem is117 : IsF C 117 6 7 c117 [.tmp 2] := ⟨⟨Tryd.f117, _, C_P ▸ Tryd.func117, rfl, rfl, rfl, by kernel_rfl, rfl⟩⟩
theorem qkR9 {a0 : Symbol} {r : Bool} (hr : qdG9 a0 = some r) : Res C 117 [.ag (qb9 a0)] (PB r) := by
  simp only [qdG9] at hr
  obtain ⟨x1, h1, hr⟩ := bsome hr
  have h1k := (qkc9 h1).k rfl rfl rfl
  try simp only [go_sem] at h1k
  obtain rfl := oiA hr
  refine run_V is117 (nbA rfl) ?_
  rotate_left
  all_goals (simp +decide only [go_sem, c117, *])
def qu9 (s0 : List Symbol) (s7 : Int) : Int → Unit → St := fun s8 _ => ⟨[(0, .d (.rd (s0.map qb9))), (1, .d (.fn 117 [])), (4, PI 0), (7, PI s7), (8, PI s8)], []⟩
def qcx9 (s0 : List Symbol) (s7 : Int) : (Int ⊕ Int) → AExit × St → Prop
  | .inl r, q => XV C [.tmp 4] (PI r) q
  | .inr s8, q => ∃ g, q = (.exit 0, qu9 s0 s7 s8 g)
theorem qcw9 {s0 : List Symbol} {s7 : Int} : Sim C 66483 qkr9 (qn9 s0 s7) (qu9 s0 s7) (qcx9 s0 s7) := by
  intro s g r hr
  have ⟨s8, hs0⟩ : ∃ y, y = s := ⟨_, rfl⟩
  subst hs0
  simp only [qn9] at hr
  rcases iteP hr with ⟨h1, hr⟩ | ⟨h1, hr⟩
  obtain ⟨x1, h2, x2, h3, hr⟩ := bs2 hr
  have h3k := fun h => (qkR9 h3).o rfl rfl rfl (h := h) (args := [.ag [.d (.v (.string x1.Name)), PI x1.Arity]]) rfl
  try simp only [go_sem] at h3k
  rcases iteB hr with ⟨h4, hr⟩ | ⟨h4, hr⟩
  obtain rfl := oiA hr
  refine xv_of ?_
  rotate_left
  obtain rfl := oiA hr
  refine ⟨(), ?_⟩
  rotate_left
  obtain rfl := oiA hr
  refine xe_of ⟨(), rfl⟩ ?_
  rotate_left
  all_goals (simp +decide only [go_sem, qu9, qkr9, *])
theorem qcz9 {a0 : List Symbol} {r : Int} (hr : qD9 a0 = some r) : Res C 116 [.rd (a0.map qb9), .fn 117 []] (PI r) := by
  simp only [qD9] at hr
  obtain ⟨x3, h1, hr⟩ := bsome hr
  obtain ⟨q1, h1L, h1X⟩ := qcw9.L (g := ()) h1
  rcases x3 with x4 | x5
  try dsimp only at hr
  obtain ⟨st1, rfl, h1R⟩ := h1X
  simp only [qu9, go_sem] at h1L
  obtain rfl := oiA hr
  refine run_V is116 (nbA rfl) ?_
  rotate_left
  try dsimp only at hr
  obtain ⟨⟨⟩, rfl⟩ := h1X
  simp only [qu9, go_sem] at h1L
  obtain rfl := oiA hr
  refine run_V is116 (nbA rfl) ?_
  rotate_left
  all_goals (simp +decide only [go_sem, c116, *])
theorem qcl9 {a0 : List Symbol} {r : Bool} (hr : qt9 a0 = some r) : Res C 94 [.rd (a0.map qb9), .fn 117 []] (PB r) := by
  simp only [qt9] at hr
  obtain ⟨x1, h1, hr⟩ := bsome hr
  have h1k := (qcz9 h1).k rfl rfl rfl
  try simp only [go_sem] at h1k
  obtain rfl := oiA hr
  refine run_V is94 (nbA rfl) ?_
  rotate_left
  all_goals (simp +decide only [go_sem, c94, *])
def c100 : ACode := .seq (.reg [] [] [.K 2 (.mv (cI 0))]) (.seq (.seq (.reg [] [] [.M 4 0, .T 5 (.call 69 [.tmp 4]), .N 3 5]) (.seq (.reg [] [] [.M 6 3, .K 7 (.bin .neq (.tmp 6) (cI 0))]) (.cond (.tmp 7) (some 7) (.seq (.reg [] [] [.M 8 3, .N 2 8]) (.ret)) (.skip)))) (.seq (.seq (.reg [] [] [.M 9 0, .T 10 (.len (.tmp 9)), .K 11 (.bin .gtr (.tmp 10) (cI 64))]) (.cond (.tmp 11) (some 11) (.seq (.reg [] [] [.K 2 (.mv (cI 37))]) (.ret)) (.skip))) (.seq (.seq (.reg [] [] [.M 12 0, .K 13 (.call 94 [.tmp 12, .func 117])]) (.cond (.tmp 13) (some 13) (.seq (.reg [] [] [.K 2 (.mv (cI 34))]) (.ret)) (.skip))) (.seq (.reg [] [] [.K 2 (.mv (cI 0))]) (.ret)))))
theorem is100 : IsF C 100 14 10381 c100 [.tmp 2] := ⟨⟨Tryd.f100, _, C_P ▸ Tryd.func100, rfl, rfl, rfl, by kernel_rfl, rfl⟩⟩
theorem qmz9 {a0 : List Symbol} {r : Int} (hr : qdB9 a0 = some r) : Res C 100 [.rd (a0.map qb9)] (PI r) := by
  simp only [qdB9] at hr
  obtain ⟨x1, h1, hr⟩ := bsome hr
  have h1k := (qgB9 h1).k rfl rfl rfl
  try simp only [go_sem] at h1k
  rcases iteP hr with ⟨h2, hr⟩ | ⟨h2, hr⟩
  rcases iteP hr with ⟨h3, hr⟩ | ⟨h3, hr⟩
  obtain rfl := oiA hr
  refine run_V is100 (nbA rfl) ?_
  rotate_left
  obtain ⟨x2, h4, hr⟩ := bsome hr
  have h4k := fun h => (qcl9 h4).o rfl rfl rfl (h := h) (args := [.d (.rd (a0.map qb9)), .fn 117 []]) rfl
  try simp only [go_sem] at h4k
  rcases iteB hr with ⟨h5, hr⟩ | ⟨h5, hr⟩
  obtain rfl := oiA hr
  refine run_V is100 (nbA rfl) ?_
  rotate_left
  obtain rfl := oiA hr
  refine run_V is100 (nbA rfl) ?_
  rotate_left
  obtain rfl := oiA hr
  refine run_V is100 (nbA rfl) ?_
  rotate_left
  all_goals (simp +decide only [go_sem, c100, *])
def qeQ9 : ACode := .reg [] [] [.K 89 (.bin .lss (.tmp 88) (.tmp 87))]
def qeV9 : ACode := .reg [] [] [.M 90 0, .T 91 (.call 132 [.tmp 90]), .N 5 91]
def qde9 : ACode := .reg [] [] [.M 92 4, .M 93 4, .T 94 (.nilC (.tmp 93)), .T 95 (.fa 2 (.tmp 94)), .T 96 (.load none (.tmp 95)), .M 97 5, .T 98 (.lit 1 [(0, .tmp 97)]), .T 99 (.app 1 16 (.tmp 96) (.tmp 98)), .T 100 (.nilC (.tmp 92)), .T 101 (.fa 2 (.tmp 100)), ⟨none, .store 1 (.tmp 101) (.tmp 99), none, false, false⟩]
def qdv9 : ACode := .reg [] [] [.M 102 4, .T 103 (.nilC (.tmp 102)), .T 104 (.fa 1 (.tmp 103)), ⟨some (105, false), .load none (.tmp 104), none, true, false⟩, .M 106 5, ⟨some (107, false), .inv (.tmp 106) "lodestone/term.size" [], none, true, false⟩, .T 108 (.bin .add (.tmp 105) (.tmp 107)), .T 109 (.nilC (.tmp 102)), .T 110 (.fa 1 (.tmp 109)), ⟨none, .store 1 (.tmp 110) (.tmp 108), none, false, false⟩]
def qgf9 : ACode := .reg [] [] [.T 111 (.bin .add (.tmp 88) (cI 1)), .N 88 111]
def qgO9 : ACode := .reg [] [] [.K 2 (.mv (.const Go.Value.nilIface))]
def qgR9 : ACode := .reg [] [] [.M 7 0, .T 8 (.nilC (.tmp 7)), .T 9 (.fa 3 (.tmp 8)), .T 10 (.load none (.tmp 9)), .T 11 (.bin .neq (.tmp 10) (cI 0)), .N 6 11]
def qhd9 : ACode := .reg [] [] [.T 12 (.mkI 183 (cI 0)), .N 2 12]
def qgS9 : ACode := .reg [] [] [.M 14 0, .T 15 (.nilC (.tmp 14)), .T 16 (.fa 2 (.tmp 15)), ⟨some (17, false), .load none (.tmp 16), none, true, false⟩, .M 18 0, .T 19 (.nilC (.tmp 18)), .T 20 (.fa 1 (.tmp 19)), ⟨some (21, false), .load none (.tmp 20), none, true, false⟩, ⟨some (22, false), .len (.tmp 21), none, true, false⟩, .T 23 (.bin .eql (.tmp 17) (.tmp 22)), .N 13 23]
def qhb9 : ACode := .reg [] [] [.M 24 0, .T 25 (.nilC (.tmp 24)), .T 26 (.fa 3 (.tmp 25)), ⟨none, .store 1 (.tmp 26) (cI 31), none, false, false⟩]
def qgY9 : ACode := .reg [] [] [.T 27 (.mkI 183 (cI 0)), .N 2 27]
def qhe9 : ACode := .reg [] [] [.M 28 0, .T 29 (.nilC (.tmp 28)), .T 30 (.fa 1 (.tmp 29)), ⟨some (31, false), .load none (.tmp 30), none, true, false⟩, .M 32 0, .T 33 (.nilC (.tmp 32)), .T 34 (.fa 2 (.tmp 33)), ⟨some (35, false), .load none (.tmp 34), none, true, false⟩, ⟨some (36, false), .ix 1 (.tmp 31) (.tmp 35), none, true, false⟩, ⟨some (37, false), .load none (.tmp 36), none, true, false⟩, .N 3 37]
def qgT9 : ACode := .reg [] [] [.M 39 3, .M 40 0, .T 41 (.nilC (.tmp 40)), .T 42 (.fa 0 (.tmp 41)), .T 43 (.load none (.tmp 42)), .T 44 (.len (.tmp 43)), .T 45 (.bin .geq (.tmp 39) (.tmp 44)), .M 46 45, .MG 47 46 false 3, .TG 48 46 false (.bin .lss (.tmp 47) (cI (-1048576))), .T 49 (.pick (.tmp 46) (.const (.bool true)) (.tmp 48)), .N 38 49]
def qgM9 : ACode := .reg [] [] [.M 50 0, .T 51 (.nilC (.tmp 50)), .T 52 (.fa 3 (.tmp 51)), ⟨none, .store 1 (.tmp 52) (cI 30), none, false, false⟩]
def qgU9 : ACode := .reg [] [] [.T 53 (.mkI 183 (cI 0)), .N 2 53]
def qfU9 : ACode := .reg [] [] [.M 55 3, .T 56 (.bin .lss (.tmp 55) (cI 0)), .N 54 56]
def qge9 : ACode := .reg [] [] [.M 57 0, .T 58 (.nilC (.tmp 57)), .T 59 (.fa 2 (.tmp 58)), .T 60 (.load none (.tmp 59)), .T 61 (.bin .add (.tmp 60) (cI 1)), .T 62 (.nilC (.tmp 57)), .T 63 (.fa 2 (.tmp 62)), ⟨none, .store 1 (.tmp 63) (.tmp 61), none, false, false⟩]
def qfX9 : ACode := .reg [] [] [.M 64 3, .T 65 (.bin .sub (cI (-1)) (.tmp 64)), .T 66 (.mkI 183 (.tmp 65)), .N 2 66]
def qgc9 : ACode := .reg [] [] [.M 67 0, .T 68 (.nilC (.tmp 67)), .T 69 (.fa 2 (.tmp 68)), .T 70 (.load none (.tmp 69)), .T 71 (.build [(0, 1), (1, 1), (2, 1)] [.d (.v (.int .i64 0)), .d (.v (.int .i64 0)), .im true []] [(0, .tmp 70), (1, .const (.int .i64 1))]), .T 72 (.box (.tmp 71)), .N 4 72]
def qfV9 : ACode := .reg [] [] [.M 73 0, .T 74 (.nilC (.tmp 73)), .T 75 (.fa 2 (.tmp 74)), .T 76 (.load none (.tmp 75)), .T 77 (.bin .add (.tmp 76) (cI 1)), .T 78 (.nilC (.tmp 73)), .T 79 (.fa 2 (.tmp 78)), ⟨none, .store 1 (.tmp 79) (.tmp 77), none, false, false⟩]
def qga9 : ACode := .reg [] [] [.M 80 0, .T 81 (.nilC (.tmp 80)), .T 82 (.fa 0 (.tmp 81)), .T 83 (.load none (.tmp 82)), .M 84 3, .T 85 (.ix 2 (.tmp 83) (.tmp 84)), .T 86 (.fa 1 (.tmp 85)), .K 87 (.load none (.tmp 86)), .K 88 (.mv (cI 0))]
def qfW9 : ACode := .reg [] [] [.M 112 4, .T 113 (.mkI 103 (.tmp 112)), .N 2 113]
def qiu9 : ACode := .seq (qeQ9) (.seq (.cond (.tmp 89) (some 89) (.skip) (.exit 2)) (.seq (.block 3 618970019642690137449562144 (.seq (qeV9) (.seq (qde9) (qdv9)))) (qgf9)))
def c132 : ACode := .seq (qgO9) (.seq (.block 0 8256 (.seq (qgR9) (.cond (.tmp 6) (some 6) (.seq (qhd9) (.ret)) (.seq (qgS9) (.cond (.tmp 13) (some 13) (.seq (qhb9) (.seq (qgY9) (.ret))) (.skip)))))) (.seq (qhe9) (.seq (.block 1 18014673387388928 (.seq (qgT9) (.cond (.tmp 38) (some 38) (.seq (qgM9) (.seq (qgU9) (.ret))) (.seq (qfU9) (.cond (.tmp 54) (some 54) (.seq (qge9) (.seq (qfX9) (.ret))) (.skip)))))) (.seq (qgc9) (.seq (qfV9) (.seq (.seq (qga9) (.block 2 618970019642690137449562144 (.loop qiu9))) (.seq (qfW9) (.ret))))))))
theorem is132 : IsF C 132 114 1083197534392722413924130941 c132 [.tmp 2] := ⟨⟨Tryd.f132, _, C_P ▸ Tryd.func132, rfl, rfl, rfl, by kernel_rfl, rfl⟩⟩
def qrQ9 : ACode := .reg [] [] [.K 2 (.mv (cI 0))]
def qrL9 : ACode := .reg [] [] [.K 2 (.mv (cI 1))]
def c160 : ACode := .seq (qrQ9) (.seq (qrL9) (.ret))
theorem is160 : IsF C 160 3 4 c160 [.tmp 2] := ⟨⟨Tryd.f160, _, C_P ▸ Tryd.func160, rfl, rfl, rfl, by kernel_rfl, rfl⟩⟩
def qrN9 : ACode := .reg [] [] [.K 2 (.mv (cI 0))]
def qrS9 : ACode := .reg [] [] [.M 3 0, .T 4 (.nilC (.tmp 3)), .T 5 (.fa 1 (.tmp 4)), .T 6 (.load none (.tmp 5)), .N 2 6]
def c157 : ACode := .seq (qrN9) (.seq (qrS9) (.ret))
theorem is157 : IsF C 157 7 5 c157 [.tmp 2] := ⟨⟨Tryd.f157, _, C_P ▸ Tryd.func157, rfl, rfl, rfl, by kernel_rfl, rfl⟩⟩
def qkP9 : ACode := .reg [] [] [.K 4 (.mv (.const Go.Value.nilIface)), .K 5 (.mv (cI 0))]
def qkC9 : ACode := .reg [] [] [.M 8 0, .M 9 1, .T 10 (.build [(0, 1), (1, 1), (2, 1), (3, 1)] [.im true [], .im true [], .d (.v (.int .i64 0)), .d (.v (.int .i64 0))] [(0, .tmp 8), (1, .tmp 9)]), .T 11 (.box (.tmp 10)), .N 6 11]
def qkO9 : ACode := .reg [] [] [.M 12 6, .T 13 (.call 132 [.tmp 12]), .N 7 13]
def qkK9 : ACode := .reg [] [] [.M 14 6, .T 15 (.nilC (.tmp 14)), .T 16 (.fa 3 (.tmp 15)), .T 17 (.load none (.tmp 16)), .T 18 (.bin .eql (.tmp 17) (cI 0)), .M 19 18, .MG 20 19 true 6, .TG 21 19 true (.nilC (.tmp 20)), .TG 22 19 true (.fa 2 (.tmp 21)), .TG 23 19 true (.load none (.tmp 22)), .MG 24 19 true 1, .TG 25 19 true (.len (.tmp 24)), .TG 26 19 true (.bin .lss (.tmp 23) (.tmp 25)), .K 27 (.pick (.tmp 19) (.tmp 26) (.const (.bool false)))]
def qkL9 : ACode := .reg [] [] [.M 28 6, .T 29 (.nilC (.tmp 28)), .T 30 (.fa 3 (.tmp 29)), ⟨none, .store 1 (.tmp 30) (cI 32), none, false, false⟩]
def qkG9 : ACode := .reg [] [] [.M 31 7, .M 32 6, .T 33 (.nilC (.tmp 32)), .T 34 (.fa 3 (.tmp 33)), ⟨some (35, false), .load none (.tmp 34), none, true, false⟩, .N 4 31, .N 5 35]
def c113 : ACode := .seq (qkP9) (.seq (qkC9) (.seq (qkO9) (.seq (.seq (qkK9) (.cond (.tmp 27) (some 27) (qkL9) (.skip))) (.seq (qkG9) (.ret)))))
theorem is113 : IsF C 113 36 134217971 c113 [.tmp 4, .tmp 5] := ⟨⟨Tryd.f113, _, C_P ▸ Tryd.func113, rfl, rfl, rfl, by kernel_rfl, rfl⟩⟩
def qnX9 : ACode := .reg [] [] [.K 4 (.mv (.const Go.Value.nilIface)), .K 5 (.mv (cI 0))]
def qou9 : ACode := .reg [] [] [.M 7 0, .T 8 (.call 69 [.tmp 7]), .N 6 8]
def qoL9 : ACode := .reg [] [] [.M 9 6, .K 10 (.bin .neq (.tmp 9) (cI 0))]
def qoF9 : ACode := .reg [] [] [.M 11 6, .K 4 (.mv (.const Go.Value.nilIface)), .N 5 11]
def qpa9 : ACode := .reg [] [] [.M 12 0, .M 13 1, .T 14 (.call 113 [.tmp 12, .tmp 13]), .T 15 (.ext (.tmp 14) 0), .T 16 (.ext (.tmp 14) 1), .N 4 15, .N 5 16]
def c91 : ACode := .seq (qnX9) (.seq (.seq (qou9) (.seq (qoL9) (.cond (.tmp 10) (some 10) (.seq (qoF9) (.ret)) (.skip)))) (.seq (qpa9) (.ret)))
theorem is91 : IsF C 91 17 1139 c91 [.tmp 4, .tmp 5] := ⟨⟨Tryd.f91, _, C_P ▸ Tryd.func91, rfl, rfl, rfl, by kernel_rfl, rfl⟩⟩
section
variable {sig : List Symbol} {t : List Int} {h : AHeap} {r : Nat}
abbrev RO (sig : List Symbol) (t : List Int) (a b : Int) : AObj := .row false 0 4 [[.d (.rd (sig.map qb9)), .d (.rd (t.map intD)), PI a, PI b]]
theorem quN9 : qeC9 C.P 183 "lodestone/term.size" = some 160 := by kernel_rfl
theorem qsd9 : qeC9 C.P 103 "lodestone/term.size" = some 157 := by kernel_rfl
theorem quh9 {n : Int} {h : AHeap} : callP C (Lim C) 160 [PI n] h = some (PI 1, h) := by
  refine qkI9 (ds := [.v (.int .i64 n)]) rfl rfl rfl ?_ h
  refine qtS9 is160 (nbA rfl) (q := (.ret, ⟨[(2, PI 1)], []⟩)) ?_ (.inr rfl) ⟨[PI 1], rfl, rfl⟩
  simp +decide only [c160, qrQ9, qrL9, qL9, go_sem]
theorem qsZ9 {id : Nat} {a b : Int} {K : PV} (ho : h[id]? = some (.row false 0 3 [[PI a, PI b, K]])) : callP C (Lim C) 157 [.ptr id 0 0 0] h = some (PI b, h) := by
  have e : callP C (Lim C) 157 [.ptr id 0 0 0] h = Lim C 157 [.ptr id 0 0 0] h := rfl
  rw [e]
  refine Lim_A is157 (nbA rfl) (env := [(0, .ptr id 0 0 0), (2, PI b)]) (e := .ret) ?_ (.inr rfl) (vs := [PI b]) rfl
  simp +decide only [c157, qrN9, qrS9, qL9, go_sem, opNil, ho]
abbrev Lf (n : Int) : PV := .ifc 183 (PI n)
abbrev rdr (r : Nat) : PV := .ptr r 0 0 0
theorem rdA {a b : Int} (ho : h[r]? = some (RO sig t a b)) (hb : b ≠ 0) : Lim C 132 [rdr r] h = some (Lf 0, h) := by
  have hb' : (b = 0) = False := eq_false hb
  refine Lim_A is132 (nbA rfl) (env := [(0, rdr r), (2, Lf 0)]) (e := .ret) ?_ (.inr rfl) (vs := [Lf 0]) rfl
  simp +decide only [c132, qgO9, qgR9, qhd9, qgS9, qhb9, qgY9, qhe9, qgT9, qgM9, qgU9, qfU9, qge9, qfX9, qgc9, qfV9, qga9, qeQ9, qeV9, qde9, qdv9, qgf9, qfW9, qL9, go_sem, opNil, ho, hb']
theorem rdB {a : Int} (ho : h[r]? = some (RO sig t a 0)) (ha : a = (t.length : Int)) : Lim C 132 [rdr r] h = some (Lf 0, h.set r (RO sig t a 31)) := by
  have ha' : (a = (t.length : Int)) = True := eq_true ha
  refine Lim_A is132 (nbA rfl) (env := [(0, rdr r), (2, Lf 0)]) (e := .ret) ?_ (.inr rfl) (vs := [Lf 0]) rfl
  simp +decide only [c132, qgO9, qgR9, qhd9, qgS9, qhb9, qgY9, qhe9, qgT9, qgM9, qgU9, qfU9, qge9, qfX9, qgc9, qfV9, qga9, qeQ9, qeV9, qde9, qdv9, qgf9, qfW9, qL9, go_sem, opNil, ho, ha']
theorem rdC {a c : Int} (ho : h[r]? = some (RO sig t a 0)) (ha : a ≠ (t.length : Int)) (hx : idx t a = some c) (hc : (sig.length : Int) ≤ c ∨ c < -1048576) : Lim C 132 [rdr r] h = some (Lf 0, h.set r (RO sig t a 30)) := by
  have ha' : (a = (t.length : Int)) = False := eq_false ha
  refine Lim_A is132 (nbA rfl) (env := [(0, rdr r), (2, Lf 0), (3, PI c)]) (e := .ret) ?_ (.inr rfl) (vs := [Lf 0]) rfl
  rcases pcA ((sig.length : Int) ≤ c) with h1 | h1
  · simp +decide only [c132, qgO9, qgR9, qhd9, qgS9, qhb9, qgY9, qhe9, qgT9, qgM9, qgU9, qfU9, qge9, qfX9, qgc9, qfV9, qga9, qeQ9, qeV9, qde9, qdv9, qgf9, qfW9, qL9, go_sem, opNil, ho, ha', hx, h1]
  · have h2 : (c < -1048576) = True := eq_true (hc.resolve_left (of_eq_false h1))
    simp +decide only [c132, qgO9, qgR9, qhd9, qgS9, qhb9, qgY9, qhe9, qgT9, qgM9, qgU9, qfU9, qge9, qfX9, qgc9, qfV9, qga9, qeQ9, qeV9, qde9, qdv9, qgf9, qfW9, qL9, go_sem, opNil, ho, ha', hx, h1, h2]
theorem rdD {a c : Int} (ho : h[r]? = some (RO sig t a 0)) (ha : a ≠ (t.length : Int)) (hx : idx t a = some c) (hc : ¬ ((sig.length : Int) ≤ c ∨ c < -1048576)) (hn : c < 0) : Lim C 132 [rdr r] h = some (Lf (w64 (-1 - c)), h.set r (RO sig t (w64 (a + 1)) 0)) := by
  have ha' : (a = (t.length : Int)) = False := eq_false ha
  have h1 : ((sig.length : Int) ≤ c) = False := eq_false fun e => hc (.inl e)
  have h2 : (c < -1048576) = False := eq_false fun e => hc (.inr e)
  have h3 : (c < 0) = True := eq_true hn
  refine Lim_A is132 (nbA rfl) (env := [(0, rdr r), (2, Lf (w64 (-1 - c))), (3, PI c)]) (e := .ret) ?_ (.inr rfl) (vs := [Lf (w64 (-1 - c))]) rfl
  simp +decide only [c132, qgO9, qgR9, qhd9, qgS9, qhb9, qgY9, qhe9, qgT9, qgM9, qgU9, qfU9, qge9, qfX9, qgc9, qfV9, qga9, qeQ9, qeV9, qde9, qdv9, qgf9, qfW9, qL9, go_sem, opNil, ho, ha', hx, h1, h2, h3]
abbrev St5 (r X : Nat) (c ar j : Int) (h : AHeap) : St := ⟨[(0, rdr r), (2, .d (.v .nilIface)), (3, PI c), (4, .ptr X 0 0 0), (87, PI ar), (88, PI j)], h⟩
abbrev St6 (r X : Nat) (c ar j : Int) (x : PV) (h : AHeap) : St := ⟨[(0, rdr r), (2, .d (.v .nilIface)), (3, PI c), (4, .ptr X 0 0 0), (5, x), (87, PI ar), (88, PI j)], h⟩
abbrev In (id : Nat) : PV := .ifc 103 (.ptr id 0 0 0)
abbrev XO (a n : Int) (K : PV) : AObj := .row false 0 3 [[PI a, PI n, K]]
inductive SizeOk (h : AHeap) : PV → Int → Prop where
  | leaf (n : Int) : SizeOk h (Lf n) 1
  | inner (id : Nat) (a s : Int) (K : PV) (ho : h[id]? = some (XO a s K)) : SizeOk h (In id) s
theorem rd17 {X : Nat} {c ar j : Int} {x : PV} {h1 : AHeap} (hc : Lim C 132 [rdr r] h = some (x, h1)) : semA C (Lim C) 1083197534392722413924130941 qeV9 (St5 r X c ar j h) = some (.normal, St6 r X c ar j x h1) := by
  have e : callP C (Lim C) 132 [rdr r] h = some (x, h1) := hc
  simp +decide only [qeV9, go_sem, e]
theorem rd18a {X : Nat} {c ar j a n s : Int} {x : PV} (hx : SizeOk h x s) (ho : h[X]? = some (XO a n (.im true []))) : semA C (Lim C) 1083197534392722413924130941 qde9 (St6 r X c ar j x h) = some (.normal, St6 r X c ar j x ((h ++ [AObj.row false 0 1 [[x]]]).set X (XO a n (.ref h.length 0 0 1)))) := by
  have hlt := (List.getElem?_eq_some_iff.1 ho).1
  have ho2 : ∀ o, (h ++ [o])[X]? = some (XO a n (.im true [])) := fun o => by rw [List.getElem?_append_left hlt]; exact ho
  cases hx <;> simp +decide only [qde9, go_sem, opNil, ho, ho2]
theorem rd18b {X kid v : Nat} {c ar j a n s : Int} {x : PV} {es : List (List PV)} (hx : SizeOk h x s) (ho : h[X]? = some (XO a n (.ref kid v 0 es.length))) (hk : h[kid]? = some (.row false v 1 es)) (hne : X ≠ kid) (hb : (es.length + 1) * 16 ≤ 140737488355328) :
    semA C (Lim C) 1083197534392722413924130941 qde9 (St6 r X c ar j x h) = some (.normal, St6 r X c ar j x ((h.set kid (.row false (v + 1) 1 (es ++ [[x]]))).set X (XO a n (.ref kid (v + 1) 0 (es ++ [[x]]).length)))) := by
  have hb' := eq_true hb
  have ho2 : ∀ o, (h.set kid o)[X]? = some (XO a n (.ref kid v 0 es.length)) := fun o => by rw [List.getElem?_set_ne (Ne.symm hne)]; exact ho
  cases hx <;> simp +decide only [qde9, go_sem, opNil, ho, ho2, hk, hb', List.take_length]
theorem rd19 {X : Nat} {c ar j a n s : Int} {K x : PV} (hx : SizeOk h x s) (ho : h[X]? = some (XO a n K)) : semA C (Lim C) 1083197534392722413924130941 qdv9 (St6 r X c ar j x h) = some (.normal, St6 r X c ar j x (h.set X (XO a (w64 (n + s)) K))) := by
  cases hx with
  | leaf m => simp +decide only [qdv9, go_sem, opNil, ho, quN9, quh9]
  | inner id a' s K' hi => simp +decide only [qdv9, go_sem, opNil, ho, qsd9, qsZ9 hi]
theorem qvD9 (l : List Int) : ∀ k, ∃ m, m ≤ l.length ∧ (rdT sig l k).1 = l.drop m := by
  induction l with
  | nil => intro k; cases k <;> exact ⟨0, Nat.le_refl _, rfl⟩
  | cons c l ih =>
    intro k
    cases k with
    | zero => exact ⟨0, Nat.zero_le _, rfl⟩
    | succ k =>
      rw [rdT]
      split
      · exact ⟨0, Nat.zero_le _, rfl⟩
      · obtain ⟨m, h1, h2⟩ := ih (k + arOf sig c)
        exact ⟨m + 1, by simp; omega, by rw [h2, List.drop_succ_cons]⟩
theorem qir9 (l : List Int) : ∀ j k, rdT sig l (j + k) = if (rdT sig l j).2 = 0 then rdT sig (rdT sig l j).1 k else rdT sig l j := by
  induction l with
  | nil =>
    intro j k
    cases j with
    | zero => rw [Nat.zero_add]; rfl
    | succ j => rw [show j + 1 + k = (j + k) + 1 by omega]; rfl
  | cons c l ih =>
    intro j k
    cases j with
    | zero => rw [Nat.zero_add]; rfl
    | succ j =>
      rw [show j + 1 + k = (j + k) + 1 by omega, rdT, rdT]
      by_cases hc : (sig.length : Int) ≤ c ∨ c < -1048576
      · simp only [if_pos hc]; rfl
      · simp only [if_neg hc]
        rw [show j + k + arOf sig c = (j + arOf sig c) + k by omega]
        exact ih _ _
inductive KV (S : Nat → Prop) (h : AHeap) : PV → List PV → Prop where
  | none : KV S h (.im true []) []
  | row (kid v : Nat) (ks : List PV) (hS : S kid) (ho : h[kid]? = some (.row false v 1 (ks.map fun x => [x]))) : KV S h (.ref kid v 0 ks.length) ks
inductive Forest (sig : List Symbol) (t : List Int) (S : Nat → Prop) (h : AHeap) : List PV → Nat → Nat → Prop where
  | nil (i : Nat) : Forest sig t S h [] i i
  | leaf (xs : List PV) (i e : Nat) (c : Int) (hc : t[i]? = some c) (hn : c < 0) (hf : Forest sig t S h xs (i + 1) e) : Forest sig t S h (Lf (w64 (-1 - c)) :: xs) i e
  | node (xs ks : List PV) (i j e c id : Nat) (s : Symbol) (K : PV) (hc : t[i]? = some (c : Int)) (hs : sig[c]? = some s) (hS : S id) (ho : h[id]? = some (XO i ((j : Int) - i) K)) (hK : KV S h K ks) (hl : ks.length = s.Arity.toNat)
      (hk : Forest sig t S h ks (i + 1) j) (hf : Forest sig t S h xs j e) : Forest sig t S h (In id :: xs) i e
theorem KV.mono {S S' : Nat → Prop} {h h' : AHeap} (hh : ∀ id, S id → S' id ∧ h'[id]? = h[id]?) {K : PV} {ks : List PV} (hk : KV S h K ks) : KV S' h' K ks := by
  cases hk with
  | none => exact .none
  | row kid v ks hS ho => exact .row kid v ks (hh _ hS).1 ((hh _ hS).2.trans ho)
theorem Forest.mono {S S' : Nat → Prop} {h h' : AHeap} (hh : ∀ id, S id → S' id ∧ h'[id]? = h[id]?) {xs : List PV} {i e : Nat} (hf : Forest sig t S h xs i e) : Forest sig t S' h' xs i e := by
  induction hf with
  | nil i => exact .nil i
  | leaf xs i e c hc hn hf ih => exact .leaf xs i e c hc hn ih
  | node xs ks i j e c id s K hc hs hS ho hK hl hk hf ih1 ih2 => exact .node xs ks i j e c id s K hc hs (hh _ hS).1 ((hh _ hS).2.trans ho) (hK.mono hh) hl ih1 ih2
theorem Forest.append {S : Nat → Prop} {h : AHeap} {xs ys : List PV} {i j e : Nat} (h1 : Forest sig t S h xs i j) (h2 : Forest sig t S h ys j e) : Forest sig t S h (xs ++ ys) i e := by
  induction h1 with
  | nil i => exact h2
  | leaf xs i e c hc hn hf ih => exact .leaf _ i _ c hc hn (ih h2)
  | node xs ks i j e c id s K hc hs hS ho hK hl hk hf ih1 ih2 => exact .node _ ks i j _ c id s K hc hs hS ho hK hl hk (ih2 h2)
theorem Forest.size {S : Nat → Prop} {h : AHeap} {x : PV} {i e : Nat} (hf : Forest sig t S h [x] i e) : SizeOk h x ((e : Int) - i) := by
  cases hf with
  | leaf _ _ _ c hc hn hf => cases hf; rw [show ((i + 1 : Nat) : Int) - i = 1 by omega]; exact .leaf _
  | node _ ks _ j _ c id s K hc hs hS ho hK hl hk hf => cases hf; exact .inner _ _ _ _ ho
theorem SizeOk.inj {h : AHeap} {x : PV} {s s' : Int} (h1 : SizeOk h x s) (h2 : SizeOk h x s') : s = s' := by
  cases h1 with
  | leaf n => cases h2; rfl
  | inner id a s K ho =>
    cases h2 with
    | inner _ a' _ K' ho' =>
      rw [ho] at ho'
      simp only [Option.some.injEq, AObj.row.injEq, List.cons.injEq, PV.d.injEq, D.v.injEq, Value.int.injEq] at ho'
      exact ho'.2.2.2.1.2.1.2
theorem SizeOk.stay {h h' : AHeap} {x : PV} {s : Int} (h1 : SizeOk h x s) (hh : ∀ id o, h[id]? = some o → x = In id → h'[id]? = some o) : SizeOk h' x s := by
  cases h1 with
  | leaf n => exact .leaf n
  | inner id a s K ho => exact .inner id a s K (hh id _ ho rfl)
def RdOk (sig : List Symbol) (t : List Int) (r : Nat) (h : AHeap) (i : Nat) : Prop := ∃ x h', Lim C 132 [rdr r] h = some (x, h') ∧ h'[r]? = some (RO sig t ((t.length - (rdT sig (t.drop i) 1).1.length : Nat) : Int) (rdT sig (t.drop i) 1).2) ∧ h.length ≤ h'.length ∧
  (∀ id, id < h.length → id ≠ r → h'[id]? = h[id]?) ∧ (∃ s id, SizeOk h' x s ∧ h.length ≤ id ∧ (∀ k, x = In k → h.length ≤ k ∧ k < h'.length)) ∧ ((rdT sig (t.drop i) 1).2 = 0 → Forest sig t (fun id => h.length ≤ id ∧ id < h'.length) h' [x] i (t.length - (rdT sig (t.drop i) 1).1.length))
def KVk (X : Nat) (h : AHeap) (K : PV) (ks : List PV) (kd : Option Nat) : Prop := (kd = none ∧ K = .im true [] ∧ ks = []) ∨ ∃ kid v, kd = some kid ∧ X < kid ∧ K = .ref kid v 0 ks.length ∧ h[kid]? = some (.row false v 1 (ks.map fun x => [x]))
theorem KVk.stay {X : Nat} {h h' : AHeap} {K : PV} {ks : List PV} {kd : Option Nat} (hk : KVk X h K ks kd) (hh : ∀ id, kd = some id → h'[id]? = h[id]?) : KVk X h' K ks kd := by
  rcases hk with h1 | ⟨kid, v, h1, h2, h3, h4⟩
  · exact .inl h1
  · exact .inr ⟨kid, v, h1, h2, h3, (hh _ h1).trans h4⟩
theorem qhc9 {h : AHeap} {o : AObj} {id : Nat} (hlt : id < h.length) : (h ++ [o])[id]? = h[id]? := List.getElem?_append_left hlt
theorem step18 {X i : Nat} {c ar j n s : Int} {K x : PV} {ks : List PV} {kd : Option Nat} (hX : h[X]? = some (XO i n K)) (hK : KVk X h K ks kd) (hx : SizeOk h x s) (hxk : ∀ k, x = In k → k ≠ X ∧ kd ≠ some k) (hb : (ks.length + 1) * 16 ≤ 140737488355328) :
    ∃ h2 h3 K' kd', semA C (Lim C) 1083197534392722413924130941 qde9 (St6 r X c ar j x h) = some (.normal, St6 r X c ar j x h2) ∧ semA C (Lim C) 1083197534392722413924130941 qdv9 (St6 r X c ar j x h2) = some (.normal, St6 r X c ar j x h3) ∧
      h3[X]? = some (XO i (w64 (n + s)) K') ∧ KVk X h3 K' (ks ++ [x]) kd' ∧ h.length ≤ h3.length ∧ (∀ id, id < h.length → id ≠ X → kd ≠ some id → h3[id]? = h[id]?) ∧ (∀ id, kd' = some id → kd = some id ∨ id = h.length) ∧ (∀ id, kd' = some id → id < h3.length) := by
  have hlt := (List.getElem?_eq_some_iff.1 hX).1
  rcases hK with ⟨rfl, rfl, rfl⟩ | ⟨kid, v, rfl, hXk, rfl, hkid⟩
  · have e18 := rd18a (r := r) (c := c) (ar := ar) (j := j) hx hX
    have hx2 : SizeOk ((h ++ [AObj.row false 0 1 [[x]]]).set X (XO i n (.ref h.length 0 0 1))) x s := hx.stay fun id o ho he => by
      rw [List.getElem?_set_ne (Ne.symm (hxk id he).1), qhc9 (List.getElem?_eq_some_iff.1 ho).1]; exact ho
    have hX2 : ((h ++ [AObj.row false 0 1 [[x]]]).set X (XO i n (.ref h.length 0 0 1)))[X]? = some (XO i n (.ref h.length 0 0 1)) := by
      rw [List.getElem?_set_self (by simp; omega)]
    have e19 := rd19 (r := r) (c := c) (ar := ar) (j := j) hx2 hX2
    refine ⟨_, _, .ref h.length 0 0 1, some h.length, e18, e19, ?_, ?_, by simp, fun id h1 h2 _ => ?_, fun id e => .inr (oiA e).symm, fun id e => by cases e; simp⟩
    · rw [List.getElem?_set_self (by simp; omega)]
    · refine .inr ⟨h.length, 0, rfl, hlt, rfl, ?_⟩
      rw [List.getElem?_set_ne (by omega), List.getElem?_set_ne (by omega)]
      simp
    · rw [List.getElem?_set_ne (Ne.symm h2), List.getElem?_set_ne (Ne.symm h2), qhc9 h1]
  · have hne : X ≠ kid := by omega
    have hl : (ks.map fun x => [x]).length = ks.length := by simp
    have hX' : h[X]? = some (XO i n (.ref kid v 0 (ks.map fun x => [x]).length)) := by rw [hl]; exact hX
    have e18 := rd18b (r := r) (c := c) (ar := ar) (j := j) hx hX' hkid hne (by rw [hl]; exact hb)
    have hkl := (List.getElem?_eq_some_iff.1 hkid).1
    have hx2 : SizeOk ((h.set kid (.row false (v + 1) 1 ((ks.map fun x => [x]) ++ [[x]]))).set X (XO i n (.ref kid (v + 1) 0 ((ks.map fun x => [x]) ++ [[x]]).length))) x s := hx.stay fun id o ho he => by
      have h1 := (hxk id he).1
      have h2 : kid ≠ id := fun e => (hxk id he).2 (by rw [e])
      rw [List.getElem?_set_ne (Ne.symm h1), List.getElem?_set_ne h2]; exact ho
    have hX2 : ((h.set kid (.row false (v + 1) 1 ((ks.map fun x => [x]) ++ [[x]]))).set X (XO i n (.ref kid (v + 1) 0 ((ks.map fun x => [x]) ++ [[x]]).length)))[X]? = some (XO i n (.ref kid (v + 1) 0 ((ks.map fun x => [x]) ++ [[x]]).length)) := by
      rw [List.getElem?_set_self (by simp; omega)]
    have e19 := rd19 (r := r) (c := c) (ar := ar) (j := j) hx2 hX2
    refine ⟨_, _, .ref kid (v + 1) 0 ((ks.map fun x => [x]) ++ [[x]]).length, some kid, e18, e19, ?_, ?_, by simp, fun id h1 h2 h3 => ?_, fun id e => .inl e, fun id e => by cases e; simp; omega⟩
    · rw [List.getElem?_set_self (by simp; omega)]
    · refine .inr ⟨kid, v + 1, rfl, hXk, by simp, ?_⟩
      rw [List.getElem?_set_ne (by omega), List.getElem?_set_ne (by omega), List.getElem?_set_self (by omega)]
      simp
    · have h4 : kid ≠ id := fun e => h3 (by rw [e])
      rw [List.getElem?_set_ne (Ne.symm h2), List.getElem?_set_ne (Ne.symm h2), List.getElem?_set_ne h4]
theorem round101 {X : Nat} {c ar j : Int} {x : PV} {h1 h2 h3 : AHeap} (hj : j < ar) (hc : Lim C 132 [rdr r] h = some (x, h1)) (e18 : semA C (Lim C) 1083197534392722413924130941 qde9 (St6 r X c ar j x h1) = some (.normal, St6 r X c ar j x h2))
    (e19 : semA C (Lim C) 1083197534392722413924130941 qdv9 (St6 r X c ar j x h2) = some (.normal, St6 r X c ar j x h3)) : semA C (Lim C) 1083197534392722413924130941 qiu9 (St5 r X c ar j h) = some (.normal, St5 r X c ar (w64 (j + 1)) h3) := by
  have hj' := eq_true hj
  have e17 := rd17 (X := X) (c := c) (ar := ar) (j := j) hc
  simp +decide only [qiu9, qeQ9, qgf9, go_sem, e17, e18, e19, hj']
theorem leave101 {X : Nat} {c ar j : Int} (hj : ¬ j < ar) : semA C (Lim C) 1083197534392722413924130941 qiu9 (St5 r X c ar j h) = some (.exit 2, St5 r X c ar j h) := by
  have hj' := eq_false hj
  simp +decide only [qiu9, qeQ9, go_sem, hj']
theorem rdE {a c ar : Int} {f : Symbol} {h' : AHeap} (hlt : r < h.length) (ho : h[r]? = some (RO sig t a 0)) (ha : a ≠ (t.length : Int)) (hx : idx t a = some c) (hc : ¬ ((sig.length : Int) ≤ c ∨ c < -1048576)) (hn : ¬ c < 0) (hf : idx sig c = some f) (hl : qby9 (semA C (Lim C) 1083197534392722413924130941 qiu9) (St5 r h.length c f.Arity 0 ((h ++ [XO a 1 (.im true [])]).set r (RO sig t (w64 (a + 1)) 0))) = some (.exit 2, St5 r h.length c f.Arity ar h')) :
    Lim C 132 [rdr r] h = some (In h.length, h') := by
  have ha' : (a = (t.length : Int)) = False := eq_false ha
  have h1 : ((sig.length : Int) ≤ c) = False := eq_false fun e => hc (.inl e)
  have h2 : (c < -1048576) = False := eq_false fun e => hc (.inr e)
  have h3 : (c < 0) = False := eq_false hn
  have ho2 : ∀ o, (h ++ [o])[r]? = some (RO sig t a 0) := fun o => by rw [qhc9 hlt]; exact ho
  have ho3 : ∀ o o', ((h ++ [o]).set r o')[r]? = some o' := fun o o' => List.getElem?_set_self (by simp; omega)
  refine Lim_A is132 (nbA rfl) (env := [(0, rdr r), (2, In h.length), (3, PI c), (4, .ptr h.length 0 0 0), (87, PI f.Arity), (88, PI ar)]) (e := .ret) ?_ (.inr rfl) (vs := [In h.length]) rfl
  simp +decide only [c132, qgO9, qgR9, qhd9, qgS9, qhb9, qgY9, qhe9, qgT9, qgM9, qgU9, qfU9, qge9, qfX9, qgc9, qfV9, qga9, qfW9, qL9, go_sem, opNil, ho, ho2, ho3, ha', hx, h1, h2, h3, hf, hl]
structure LInv (sig : List Symbol) (t : List Int) (r X i : Nat) (h0 : AHeap) (j : Nat) (h : AHeap) : Prop where
  rx : r < X
  xl : X < h.length
  fr : ∀ id, id < X → id ≠ r → h[id]? = h0[id]?
  rd : h[r]? = some (RO sig t ((t.length - (rdT sig (t.drop (i + 1)) j).1.length : Nat) : Int) (rdT sig (t.drop (i + 1)) j).2)
  ex : ∃ (n : Int) (K : PV) (ks : List PV) (kd : Option Nat), h[X]? = some (XO i n K) ∧ ks.length = j ∧ KVk X h K ks kd ∧ (∀ id, kd = some id → id < h.length) ∧
    ((rdT sig (t.drop (i + 1)) j).2 = 0 → n = ((t.length - (rdT sig (t.drop (i + 1)) j).1.length : Nat) : Int) - i ∧ Forest sig t (fun id => X < id ∧ id < h.length ∧ kd ≠ some id) h ks (i + 1) (t.length - (rdT sig (t.drop (i + 1)) j).1.length))
theorem qpz9 {l : List Int} {i k : Nat} (hi : i ≤ t.length) : i ≤ t.length - (rdT sig (t.drop i) k).1.length ∧ t.length - (rdT sig (t.drop i) k).1.length ≤ t.length ∧ t.drop (t.length - (rdT sig (t.drop i) k).1.length) = (rdT sig (t.drop i) k).1 := by
  obtain ⟨m, h1, h2⟩ := qvD9 (sig := sig) (t.drop i) k
  rw [h2]
  rw [List.length_drop] at h1
  rw [List.drop_drop, List.length_drop]
  refine ⟨by omega, by omega, ?_⟩
  congr 1
  omega
theorem loop101 {X i : Nat} {c ar : Int} {h0 : AHeap} (hL : t.length < 4611686018427387904) (hi : i + 1 ≤ t.length) (hA : ar ≤ 1099511627776) (IH : ∀ (i' : Nat) (h' : AHeap), i < i' → i' ≤ t.length → h'[r]? = some (RO sig t i' 0) → RdOk sig t r h' i') :
    ∀ (m j : Nat) (h : AHeap), j + m = ar.toNat → LInv sig t r X i h0 j h → ∃ h', qby9 (semA C (Lim C) 1083197534392722413924130941 qiu9) (St5 r X c ar j h) = some (.exit 2, St5 r X c ar ar.toNat h') ∧ LInv sig t r X i h0 ar.toNat h' := by
  intro m
  induction m with
  | zero =>
    intro j h hj hv
    have : j = ar.toNat := by omega
    subst this
    exact ⟨h, qlr9 (leave101 (by omega)) (by simp), hv⟩
  | succ m ih =>
    intro j h hj hv
    have hlt : (j : Int) < ar := by omega
    obtain ⟨n, K, ks, kd, k1, k2, k3, k3b, k4⟩ := hv.ex
    obtain ⟨p1, p2, p3⟩ := qpz9 (sig := sig) (l := t) (k := j) hi
    have hadd := qir9 (sig := sig) (t.drop (i + 1)) j 1
    have hw : w64 ((j : Int) + 1) = ((j + 1 : Nat) : Int) := by unfold w64; rw [IntKind.wrap_i64]; omega
    have hbd : (ks.length + 1) * 16 ≤ 140737488355328 := by omega
    -- one argument is read
    have step : ∃ x h1 s, Lim C 132 [rdr r] h = some (x, h1) ∧ h1[r]? = some (RO sig t ((t.length - (rdT sig (t.drop (i + 1)) (j + 1)).1.length : Nat) : Int) (rdT sig (t.drop (i + 1)) (j + 1)).2) ∧ h.length ≤ h1.length ∧ (∀ id, id < h.length → id ≠ r → h1[id]? = h[id]?) ∧
        SizeOk h1 x s ∧ (∀ k, x = In k → h.length ≤ k ∧ k < h1.length) ∧ ((rdT sig (t.drop (i + 1)) (j + 1)).2 = 0 → (rdT sig (t.drop (i + 1)) j).2 = 0 ∧ Forest sig t (fun id => h.length ≤ id ∧ id < h1.length) h1 [x] (t.length - (rdT sig (t.drop (i + 1)) j).1.length) (t.length - (rdT sig (t.drop (i + 1)) (j + 1)).1.length)) := by
      have hrd := hv.rd
      by_cases hb : (rdT sig (t.drop (i + 1)) j).2 = 0
      · rw [hb] at hrd
        rw [if_pos hb] at hadd
        obtain ⟨x, h1, q1, q2, q3, q4, ⟨s, _, q5, _, q6⟩, q7⟩ := IH _ h (by omega) p2 hrd
        rw [p3, ← hadd] at q2 q7
        exact ⟨x, h1, s, q1, q2, q3, q4, q5, q6, fun e => ⟨hb, q7 e⟩⟩
      · rw [if_neg hb] at hadd
        rw [hadd]
        exact ⟨Lf 0, h, 1, rdA hrd hb, hrd, Nat.le_refl _, fun _ _ _ => rfl, .leaf 0, fun k e => (by cases e), fun e => absurd e hb⟩
    obtain ⟨x, h1, s, s1, s2, s3, s4, s5, s6, s7⟩ := step
    have hXr : X ≠ r := by have := hv.rx; omega
    have hkr : ∀ id, kd = some id → X < id := by
      intro id e
      rcases k3 with ⟨e1, _⟩ | ⟨kid, v, e1, e2, _⟩
      · rw [e1] at e; cases e
      · rw [e1] at e; cases e; exact e2
    have hX1 : h1[X]? = some (XO i n K) := (s4 X hv.xl hXr).trans k1
    have hK1 : KVk X h1 K ks kd := k3.stay fun id e => s4 id (k3b id e) (by have := hkr id e; have := hv.rx; omega)
    have hxk : ∀ k, x = In k → k ≠ X ∧ kd ≠ some k := fun k e => by
      have h1' := s6 k e
      have := hv.xl
      exact ⟨by omega, fun e' => by have := k3b k e'; omega⟩
    obtain ⟨h2, h3, K', kd', e18, e19, g1, g2, g3, g4, g5, g6⟩ := step18 (r := r) (c := c) (ar := ar) (j := j) hX1 hK1 s5 hxk hbd
    have hr3 : h3[r]? = h1[r]? := g4 r (by have := hv.rx; have := hv.xl; omega) (Ne.symm hXr) (fun e => by have := hkr r e; have := hv.rx; omega)
    have hv' : LInv sig t r X i h0 (j + 1) h3 := by
      refine ⟨hv.rx, by have := hv.xl; omega, fun id hid hne => ?_, by rw [hr3]; exact s2, w64 (n + s), K', ks ++ [x], kd', g1, by simp [k2], g2, g6, fun hb => ?_⟩
      · rw [g4 id (by have := hv.xl; omega) (by omega) (fun e => by have := hkr id e; omega), s4 id (by have := hv.xl; omega) hne]
        exact hv.fr id hid hne
      · obtain ⟨hb0, hF⟩ := s7 hb
        obtain ⟨c1, c2⟩ := k4 hb0
        have hsz := s5.inj hF.size
        obtain ⟨p1', p2', _⟩ := qpz9 (sig := sig) (l := t) (k := j + 1) hi
        refine ⟨?_, ?_⟩
        · rw [c1, hsz]
          unfold w64
          rw [IntKind.wrap_i64]
          omega
        · refine Forest.append (c2.mono fun id hid => ?_) (hF.mono fun id hid => ?_)
          · obtain ⟨a1, a2, a3⟩ := hid
            refine ⟨⟨a1, by omega, fun e => ?_⟩, ?_⟩
            · rcases g5 id e with e' | e'
              · exact a3 e'
              · omega
            · rw [g4 id (by omega) (by omega) a3, s4 id a2 (by have := hv.rx; omega)]
          · obtain ⟨a1, a2⟩ := hid
            have hne : kd ≠ some id := fun e => by have := k3b id e; omega
            refine ⟨⟨by have := hv.xl; omega, by omega, fun e => ?_⟩, ?_⟩
            · rcases g5 id e with e' | e'
              · exact hne e'
              · omega
            · rw [g4 id a2 (by have := hv.xl; omega) hne]
    obtain ⟨h', f1, f2⟩ := ih (j + 1) h3 (by omega) hv'
    have hround := round101 hlt s1 e18 e19
    rw [hw] at hround
    exact ⟨h', qmA9 hround f1, f2⟩
theorem rd_ok (hL : t.length < 4611686018427387904) (hA : ∀ s ∈ sig, s.Arity ≤ 1099511627776) : ∀ (n i : Nat) (h : AHeap), i ≤ t.length → t.length - i ≤ n → h[r]? = some (RO sig t i 0) → RdOk sig t r h i := by
  intro n
  induction n with
  | zero =>
    intro i h hi hn ho
    have : i = t.length := by omega
    subst this
    have hlt := (List.getElem?_eq_some_iff.1 ho).1
    have e : rdT sig (t.drop t.length) 1 = ([], 31) := by rw [List.drop_eq_nil_of_le (Nat.le_refl _)]; rfl
    rw [RdOk, e]
    refine ⟨_, _, rdB ho rfl, ?_, by simp, fun id h1 h2 => by rw [List.getElem?_set_ne (Ne.symm h2)], ⟨1, h.length, .leaf 0, Nat.le_refl _, fun k e => by cases e⟩, fun e => by cases e⟩
    rw [List.getElem?_set_self hlt]; rfl
  | succ n ih =>
    intro i h hi hn ho
    have hlt := (List.getElem?_eq_some_iff.1 ho).1
    by_cases hil : i = t.length
    · exact ih i h hi (by omega) ho
    have hit : i < t.length := by omega
    have ha : (i : Int) ≠ (t.length : Int) := by omega
    have hd := List.drop_eq_getElem_cons hit
    have hget : t[i]? = some t[i] := List.getElem?_eq_getElem hit
    have hx : idx t (i : Int) = some t[i] := by unfold idx; rw [if_pos (by omega)]; simp
    have hw : w64 ((i : Int) + 1) = ((i + 1 : Nat) : Int) := by unfold w64; rw [IntKind.wrap_i64]; omega
    by_cases hc : (sig.length : Int) ≤ t[i] ∨ t[i] < -1048576
    · have e : rdT sig (t.drop i) 1 = (t.drop i, 30) := by rw [hd]; simp only [rdT, if_pos hc]
      rw [RdOk, e]
      refine ⟨_, _, rdC ho ha hx hc, ?_, by simp, fun id h1 h2 => by rw [List.getElem?_set_ne (Ne.symm h2)], ⟨1, h.length, .leaf 0, Nat.le_refl _, fun k e => by cases e⟩, fun e => by cases e⟩
      rw [List.getElem?_set_self hlt, List.length_drop, show t.length - (t.length - i) = i by omega]
    by_cases hneg : t[i] < 0
    · have har : arOf sig t[i] = 0 := by unfold arOf; rw [if_neg (by omega)]
      have e : rdT sig (t.drop i) 1 = (t.drop (i + 1), 0) := by
        rw [hd]; simp only [rdT, if_neg hc, har]
        cases t.drop (i + 1) <;> rfl
      rw [RdOk, e]
      have hp : t.length - (t.drop (i + 1)).length = i + 1 := by rw [List.length_drop]; omega
      simp only [hp]
      refine ⟨_, _, rdD ho ha hx hc hneg, ?_, by simp, fun id h1 h2 => by rw [List.getElem?_set_ne (Ne.symm h2)], ⟨1, h.length, .leaf _, Nat.le_refl _, fun k e => by cases e⟩, fun _ => .leaf _ _ _ _ hget hneg (.nil _)⟩
      rw [List.getElem?_set_self hlt, hw]
    · obtain ⟨c, hcn⟩ : ∃ c : Nat, t[i] = (c : Int) := ⟨t[i].toNat, by omega⟩
      have hcs : c < sig.length := by rw [hcn] at hc; omega
      have hs : sig[c]? = some sig[c] := List.getElem?_eq_getElem hcs
      have hf : idx sig t[i] = some sig[c] := by unfold idx; rw [if_pos (by omega), hcn]; simp
      have har : arOf sig t[i] = sig[c].Arity.toNat := by unfold arOf; rw [if_pos (by omega), hcn]; simp [hs]
      have e : rdT sig (t.drop i) 1 = rdT sig (t.drop (i + 1)) sig[c].Arity.toNat := by
        rw [hd]; simp only [rdT, if_neg hc, har, Nat.zero_add]
      have hi1 : i + 1 ≤ t.length := hit
      have hr0 : ((h ++ [XO (i : Int) 1 (.im true [])]).set r (RO sig t (w64 ((i : Int) + 1)) 0))[h.length]? = some (XO (i : Int) 1 (.im true [])) := by
        rw [List.getElem?_set_ne (by omega)]; simp
      have hv0 : LInv sig t r h.length i h 0 ((h ++ [XO (i : Int) 1 (.im true [])]).set r (RO sig t (w64 ((i : Int) + 1)) 0)) := by
        have e0 : rdT sig (t.drop (i + 1)) 0 = (t.drop (i + 1), 0) := by cases t.drop (i + 1) <;> rfl
        have hp : t.length - (t.drop (i + 1)).length = i + 1 := by rw [List.length_drop]; omega
        refine ⟨hlt, by simp, fun id h1 h2 => ?_, ?_, 1, .im true [], [], none, hr0, rfl, .inl ⟨rfl, rfl, rfl⟩, fun id e => (by cases e), fun _ => ?_⟩
        · rw [List.getElem?_set_ne (Ne.symm h2), qhc9 h1]
        · rw [e0, hp, List.getElem?_set_self (by simp; omega), hw]
        · rw [e0, hp]
          exact ⟨by omega, .nil _⟩
      obtain ⟨h', f1, f2⟩ := loop101 (c := t[i]) (ar := sig[c].Arity) hL hi1 (hA _ (List.getElem_mem hcs)) (fun i' h'' h1 h2 h3 => ih i' h'' h2 (by omega) h3) sig[c].Arity.toNat 0 _ (by omega) hv0
      have hE := rdE hlt ho ha hx hc hneg hf (by simpa using f1)
      rw [RdOk, e]
      obtain ⟨n', K, ks, kd, k1, k2, k3, k3b, k4⟩ := f2.ex
      refine ⟨_, _, hE, f2.rd, by have := f2.xl; omega, fun id h1 h2 => f2.fr id h1 h2, ⟨n', h.length, .inner _ _ _ _ k1, Nat.le_refl _, fun k e => by cases e; exact ⟨Nat.le_refl _, f2.xl⟩⟩, fun hb => ?_⟩
      obtain ⟨c1, c2⟩ := k4 hb
      refine .node [] ks i _ _ c h.length sig[c] K (by rw [hget, hcn]) hs ⟨Nat.le_refl _, f2.xl⟩ (by rw [k1, c1]) ?_ k2 (c2.mono fun id hid => ⟨⟨by omega, hid.2.1⟩, rfl⟩) (.nil _)
      rcases k3 with ⟨_, rfl, rfl⟩ | ⟨kid, v, e1, e2, rfl, e4⟩
      · exact .none
      · exact .row kid v ks ⟨by omega, k3b _ e1⟩ e4
abbrev TArgs (sig : List Symbol) (t : List Int) : List PV := [.d (.rd (sig.map qb9)), .d (.rd (t.map intD))]
theorem qpZ9 (hL : t.length < 4611686018427387904) (hA : ∀ s ∈ sig, s.Arity ≤ 1099511627776) (h : AHeap) : ∃ x h', Lim C 113 (TArgs sig t) h = some (.tp [x, PI (qo9 sig t)], h') ∧ h.length ≤ h'.length ∧ (∀ id, id < h.length → h'[id]? = h[id]?) ∧
    (∃ s, SizeOk h' x s) ∧ (qo9 sig t = 0 → Forest sig t (fun id => h.length < id ∧ id < h'.length) h' [x] 0 t.length) := by
  have ho : (h ++ [RO sig t 0 0])[h.length]? = some (RO sig t ((0 : Nat) : Int) 0) := by simp
  obtain ⟨x, h1, q1, q2, q3, q4, ⟨s, _, q5, _, q6⟩, q7⟩ := rd_ok (r := h.length) hL hA t.length 0 _ (Nat.zero_le _) (by omega) ho
  have hcall : callP C (Lim C) 132 [.ptr h.length 0 0 0] (h ++ [RO sig t 0 0]) = some (x, h1) := q1
  obtain ⟨p1, p2, p3⟩ := qpz9 (sig := sig) (l := t) (k := 1) (Nat.zero_le t.length)
  rw [List.drop_zero] at *
  have hle : h.length + 1 ≤ h1.length := by simpa using q3
  have hself : ∀ o, (h1.set h.length o)[h.length]? = some o := fun o => List.getElem?_set_self (by omega)
  have hst : ∀ o, SizeOk (h1.set h.length o) x s := fun o => q5.stay fun id ob hob he => by
    have := (q6 id he).1
    rw [List.length_append] at this
    rw [List.getElem?_set_ne (by simp at this; omega)]; exact hob
  by_cases hb : (rdT sig t 1).2 = 0
  · by_cases hn : (rdT sig t 1).1 = []
    · have e : qo9 sig t = 0 := by unfold qo9; simp [hb, hn]
      rw [e]
      have hlen : t.length - (rdT sig t 1).1.length = t.length := by rw [hn]; simp
      rw [hb, hlen] at q2
      have hlt : ((t.length : Int) < (t.length : Int)) = False := eq_false (by omega)
      refine ⟨x, h1, Lim_A is113 (nbA rfl) (env := [(0, .d (.rd (sig.map qb9))), (1, .d (.rd (t.map intD))), (4, x), (5, PI 0), (6, .ptr h.length 0 0 0), (7, x)]) (e := .ret) ?_ (.inr rfl) (vs := [x, PI 0]) rfl, by omega, fun id hid => ?_, ⟨s, q5⟩, fun _ => ?_⟩
      · simp +decide only [c113, qkP9, qkC9, qkO9, qkK9, qkL9, qkG9, qL9, go_sem, opNil, hcall, q2, hlt]
      · rw [q4 id (by simp; omega) (by omega), qhc9 hid]
      · have := q7 hb
        rw [hlen] at this
        exact this.mono fun id hid => ⟨⟨by have := hid.1; simp at this; omega, hid.2⟩, rfl⟩
    · have e : qo9 sig t = 32 := by unfold qo9; simp [hb, hn]
      rw [e]
      rw [hb] at q2
      have hlt : (((t.length - (rdT sig t 1).1.length : Nat) : Int) < (t.length : Int)) = True := by
        have h1 : 0 < (rdT sig t 1).1.length := List.length_pos_iff.2 hn
        have h2 : (rdT sig t 1).1.length ≤ t.length := by
          have := congrArg List.length p3
          rw [List.length_drop] at this
          omega
        exact eq_true (by omega)
      refine ⟨x, _, Lim_A is113 (h' := h1.set h.length (RO sig t ((t.length - (rdT sig t 1).1.length : Nat) : Int) 32)) (nbA rfl) (env := [(0, .d (.rd (sig.map qb9))), (1, .d (.rd (t.map intD))), (4, x), (5, PI 32), (6, .ptr h.length 0 0 0), (7, x)]) (e := .ret) ?_ (.inr rfl) (vs := [x, PI 32]) rfl, by simp; omega, fun id hid => ?_, ⟨s, hst _⟩, fun e => by cases e⟩
      · simp +decide only [c113, qkP9, qkC9, qkO9, qkK9, qkL9, qkG9, qL9, go_sem, opNil, hcall, q2, hlt, hself]
      · rw [List.getElem?_set_ne (by omega), q4 id (by simp; omega) (by omega), qhc9 hid]
  · have e : qo9 sig t = (rdT sig t 1).2 := by unfold qo9; simp [hb]
    rw [e]
    have hb' := eq_false hb
    refine ⟨x, h1, Lim_A is113 (nbA rfl) (env := [(0, .d (.rd (sig.map qb9))), (1, .d (.rd (t.map intD))), (4, x), (5, PI (rdT sig t 1).2), (6, .ptr h.length 0 0 0), (7, x)]) (e := .ret) ?_ (.inr rfl) (vs := [x, PI (rdT sig t 1).2]) rfl, by omega, fun id hid => ?_, ⟨s, q5⟩, fun e => absurd e hb⟩
    · simp +decide only [c113, qkP9, qkC9, qkO9, qkK9, qkL9, qkG9, qL9, go_sem, opNil, hcall, q2, hb']
    · rw [q4 id (by simp; omega) (by omega), qhc9 hid]
theorem qxX9 (hL : t.length < 4611686018427387904) (hA : ∀ s ∈ sig, s.Arity ≤ 1099511627776) (hs : qw9 sig = some 0) (h : AHeap) : ∃ x h', Lim C 91 (TArgs sig t) h = some (.tp [x, PI (qo9 sig t)], h') ∧ h.length ≤ h'.length ∧ (∀ id, id < h.length → h'[id]? = h[id]?) ∧
    (∃ s, SizeOk h' x s) ∧ (qo9 sig t = 0 → Forest sig t (fun id => h.length < id ∧ id < h'.length) h' [x] 0 t.length) := by
  obtain ⟨x, h', q1, q2⟩ := qpZ9 hL hA h
  have hcall : callP C (Lim C) 113 (TArgs sig t) h = some (.tp [x, PI (qo9 sig t)], h') := q1
  have hk := (qgB9 hs).k rfl rfl rfl
  simp only [List.map_cons, List.map_nil] at hk
  refine ⟨x, h', Lim_A is91 (nbA rfl) (env := [(0, .d (.rd (sig.map qb9))), (1, .d (.rd (t.map intD))), (4, x), (5, PI (qo9 sig t)), (6, PI 0)]) (e := .ret) ?_ (.inr rfl) (vs := [x, PI (qo9 sig t)]) rfl, q2⟩
  simp +decide only [c91, qnX9, qou9, qoL9, qoF9, qpa9, qL9, go_sem, opNil, hcall, hk]
theorem qxl9 {e : Int} (hs : qw9 sig = some e) (he : e ≠ 0) (h : AHeap) : Lim C 91 (TArgs sig t) h = some (.tp [.d (.v .nilIface), PI e], h) := by
  have hk := (qgB9 hs).k rfl rfl rfl
  simp only [List.map_cons, List.map_nil] at hk
  have he' := eq_false he
  refine Lim_A is91 (nbA rfl) (env := [(0, .d (.rd (sig.map qb9))), (1, .d (.rd (t.map intD))), (4, .d (.v .nilIface)), (5, PI e), (6, PI e)]) (e := .ret) ?_ (.inr rfl) (vs := [.d (.v .nilIface), PI e]) rfl
  simp +decide only [c91, qnX9, qou9, qoL9, qoF9, qpa9, qL9, go_sem, opNil, hk, he']
end

def qrI9 : ACode := .reg [] [] [.K 4 (.mv (cI 0))]
def qrU9 : ACode := .reg [] [] [.M 8 0, .M 9 1, .T 10 (.call 113 [.tmp 8, .tmp 9]), .M 7 10, .T 11 (.ext (.tmp 7) 0), .T 12 (.ext (.tmp 7) 1), .M 5 11, .N 6 12]
def qrH9 : ACode := .reg [] [] [.M 13 6, .N 4 13]
def c119 : ACode := .seq (qrI9) (.seq (qrU9) (.seq (qrH9) (.ret)))
theorem is119 : IsF C 119 14 83 c119 [.tmp 4] := ⟨⟨Tryd.f119, _, C_P ▸ Tryd.func119, rfl, rfl, rfl, by kernel_rfl, rfl⟩⟩
theorem qpm9 {sig : List Symbol} {t : List Int} {r : Int} (hr : qem9 sig t = some r) : ∃ p hp, Lim C 119 (TArgs sig t) [] = some (p, hp) ∧ rsT hp p = some (PI r) := by
  simp only [qem9] at hr
  obtain ⟨hL, hr⟩ := gsome hr
  replace hL := of_eq_true hL
  replace hr := oiA hr
  subst hr
  obtain ⟨x, h', q1, _⟩ := qpZ9 hL.1 (fun s hs => by have := List.all_eq_true.1 hL.2 s hs; exact of_decide_eq_true this) []
  have hcall : callP C (Lim C) 113 (TArgs sig t) [] = some (.tp [x, PI (qo9 sig t)], h') := q1
  refine ⟨_, _, Lim_A is119 (h' := h') (nbA rfl) (env := [(0, .d (.rd (sig.map qb9))), (1, .d (.rd (t.map intD))), (4, PI (qo9 sig t)), (6, PI (qo9 sig t))]) (e := .ret) ?_ (.inr rfl) (vs := [PI (qo9 sig t)]) rfl, rfl⟩
  simp +decide only [c119, qrI9, qrU9, qrH9, qL9, go_sem, opNil, hcall]
theorem qkt9 {a0 : List Symbol} {a1 : List Int} {r : Int} (hr : qem9 a0 a1 = some r) {h : AHeap} : callP C (Lim C) 119 (TArgs a0 a1) h = some (PI r, h) := qkI9 (ds := [.rd (a0.map qb9), .rd (a1.map intD)]) rfl rfl rfl (qpm9 hr) h

def qoG9 : ACode := .seq (.reg [] [] [.K 13 (.bin .lss (.tmp 12) (.tmp 11))]) (.seq (.cond (.tmp 13) (some 13) (.skip) (.exit 0)) (.seq (.block 1 268444000 (.seq (.reg [] [] [.M 14 12, .T 15 (.ix 1 (.tmp 10) (.tmp 12)), .T 16 (.load none (.tmp 15)), .N 5 14, .N 6 16]) (.seq (.reg [] [] [.M 18 3, .M 19 6, .T 20 (.look (Go.TypeDesc.int .i64) (.d (.v (.int .i64 0))) (.tmp 18) (.tmp 19) true), .M 17 20, .T 21 (.ext (.tmp 17) 0), .T 22 (.ext (.tmp 17) 1), .M 7 21, .N 8 22]) (.seq (.reg [] [] [.M 23 6, .T 24 (.bin .lss (.tmp 23) (cI 0)), .M 25 24, .MG 26 25 true 8, .TG 27 25 true (.not (.tmp 26)), .K 28 (.pick (.tmp 25) (.tmp 27) (.const (.bool false)))]) (.cond (.tmp 28) (some 28) (.seq (.reg [] [] [.M 29 3, .M 30 6, .M 31 5, ⟨none, .mput (Go.TypeDesc.int .i64) (.tmp 29) (.tmp 30) (.tmp 31), none, false, false⟩]) (.reg [] [] [.M 32 4, .M 33 6, .T 34 (.bin .sub (cI (-1)) (.tmp 33)), .T 35 (.lit 1 [(0, .tmp 34)]), .T 36 (.app 1 8 (.tmp 32) (.tmp 35)), .N 4 36])) (.skip)))))) (.reg [] [] [.T 37 (.bin .add (.tmp 12) (cI 1)), .N 12 37])))
def c120 : ACode := .seq (.reg [] [(2, 0)] [.K 2 (.mv (.const (.slice none 0 0)))]) (.seq (.reg [] [] [.T 9 (.mkMap), .N 3 9]) (.seq (.reg [] [(4, 1)] [.K 4 (.mv (.const (.slice none 0 0)))]) (.seq (.seq (.reg [] [] [.N 10 0, .K 11 (.len (.tmp 10)), .K 12 (.mv (cI 0))]) (.block 0 268444000 (.loop qoG9))) (.seq (.reg [] [(2, 0)] [.M 38 4, .N 2 38]) (.ret)))))
theorem is120 : IsF C 120 39 268451197 c120 [.tmp 2] := ⟨⟨Tryd.f120, _, C_P ▸ Tryd.func120, rfl, rfl, rfl, by kernel_rfl, rfl⟩⟩
def qgH9 (s0 : List Int) (s2 : List Int) (s10 : List Int) (s11 : Int) : Int × (List (Int × Int)) × (List Int) → Nat → St := fun (s12, m3, o4) v4 => ⟨[(0, .d (.rd (s0.map intD))), (2, .d (.rd (s2.map intD))), (3, .mp 0), (4, .ref 1 v4 0 o4.length), (10, .d (.rd (s10.map intD))), (11, PI s11), (12, PI s12)], (.map (mapP keyI intD m3) :: (.row false v4 1 (rowP intD o4) :: []))⟩
def qnY9 (s0 : List Int) (s2 : List Int) (s10 : List Int) (s11 : Int) : (Int × (List (Int × Int)) × (List Int)) → AExit × St → Prop := fun (s12, m3, o4) q => ∃ g, q = (.exit 0, qgH9 s0 s2 s10 s11 (s12, m3, o4) g)
theorem qqb9 {s0 : List Int} {s2 : List Int} {s10 : List Int} {s11 : Int} : Sim C 268451197 qoG9 (qbK9 s0 s2 s10 s11) (qgH9 s0 s2 s10 s11) (qnY9 s0 s2 s10 s11) := by
  intro s g r hr
  obtain ⟨s12, m3, o4⟩ := s
  have ⟨v4, hg0⟩ : ∃ y, y = g := ⟨_, rfl⟩
  subst hg0
  simp only [qbK9] at hr
  rcases iteP hr with ⟨h1, hr⟩ | ⟨h1, hr⟩
  obtain ⟨x1, h2, hr⟩ := bsome hr
  rcases h3 : mget m3 x1 with _ | x2
  simp only [h3] at hr
  rcases iteP hr with ⟨h4, hr⟩ | ⟨h4, hr⟩
  obtain ⟨h5, hr⟩ := gsome hr
  obtain rfl := oiA hr
  refine ⟨(v4 + 1), ?_⟩
  rotate_left
  obtain rfl := oiA hr
  refine ⟨v4, ?_⟩
  rotate_left
  simp only [h3] at hr
  rcases iteP hr with ⟨h6, hr⟩ | ⟨h6, hr⟩
  obtain rfl := oiA hr
  refine ⟨v4, ?_⟩
  rotate_left
  obtain rfl := oiA hr
  refine ⟨v4, ?_⟩
  rotate_left
  obtain rfl := oiA hr
  refine xe_of ⟨v4, rfl⟩ ?_
  rotate_left
  all_goals (simp +decide only [go_sem, qgH9, qoG9, *])
theorem qlg9 {a0 : List Int} {r : (List Int)} (hr : qgk9 a0 = some r) : Res C 120 [.rd (a0.map intD)] (.d (.rd (r.map intD))) := by
  simp only [qgk9] at hr
  obtain ⟨x3, h1, hr⟩ := bsome hr
  obtain ⟨q1, h1L, h1X⟩ := qqb9.L (g := 0) h1
  obtain ⟨x4, x5, x6⟩ := x3
  try dsimp only at hr
  obtain ⟨z7, rfl⟩ := h1X
  simp only [qgH9, go_sem] at h1L
  obtain rfl := oiA hr
  refine run_V is120 (nbA rfl) ?_
  rotate_left
  all_goals (simp +decide only [go_sem, c120, *])
def qpc9 : ACode := .seq (.reg [] [] [.K 9 (.bin .lss (.tmp 8) (.tmp 7))]) (.seq (.cond (.tmp 9) (some 9) (.skip) (.exit 0)) (.seq (.block 1 66080 (.seq (.reg [] [] [.M 10 8, .N 5 10]) (.seq (.reg [] [] [.M 11 1, .M 12 0, .M 13 5, .T 14 (.ix 1 (.tmp 12) (.tmp 13)), .T 15 (.load none (.tmp 14)), .K 16 (.bin .eql (.tmp 11) (.tmp 15))]) (.cond (.tmp 16) (some 16) (.seq (.reg [] [] [.M 17 5, .N 4 17]) (.ret)) (.skip))))) (.reg [] [] [.T 18 (.bin .add (.tmp 8) (cI 1)), .N 8 18])))
def c135 : ACode := .seq (.reg [] [] [.K 4 (.mv (cI 0))]) (.seq (.seq (.reg [] [] [.M 6 0, .K 7 (.len (.tmp 6)), .K 8 (.mv (cI 0))]) (.block 0 66080 (.loop qpc9))) (.seq (.reg [] [] [.K 4 (.mv (cI (-1)))]) (.ret)))
theorem is135 : IsF C 135 19 66483 c135 [.tmp 4] := ⟨⟨Tryd.f135, _, C_P ▸ Tryd.func135, rfl, rfl, rfl, by kernel_rfl, rfl⟩⟩
def qbH9 (s0 : List Int) (s1 : Int) (s7 : Int) : Int → Unit → St := fun s8 _ => ⟨[(0, .d (.rd (s0.map intD))), (1, PI s1), (4, PI 0), (7, PI s7), (8, PI s8)], []⟩
def qig9 (s0 : List Int) (s1 : Int) (s7 : Int) : (Int ⊕ Int) → AExit × St → Prop
  | .inl r, q => XV C [.tmp 4] (PI r) q
  | .inr s8, q => ∃ g, q = (.exit 0, qbH9 s0 s1 s7 s8 g)
theorem qie9 {s0 : List Int} {s1 : Int} {s7 : Int} : Sim C 66483 qpc9 (qbl9 s0 s1 s7) (qbH9 s0 s1 s7) (qig9 s0 s1 s7) := by
  intro s g r hr
  have ⟨s8, hs0⟩ : ∃ y, y = s := ⟨_, rfl⟩
  subst hs0
  simp only [qbl9] at hr
  rcases iteP hr with ⟨h1, hr⟩ | ⟨h1, hr⟩
  obtain ⟨x1, h2, hr⟩ := bsome hr
  rcases iteP hr with ⟨h3, hr⟩ | ⟨h3, hr⟩
  obtain rfl := oiA hr
  refine xv_of ?_
  rotate_left
  obtain rfl := oiA hr
  refine ⟨(), ?_⟩
  rotate_left
  obtain rfl := oiA hr
  refine xe_of ⟨(), rfl⟩ ?_
  rotate_left
  all_goals (simp +decide only [go_sem, qbH9, qpc9, *])
theorem qiE9 {a0 : List Int} {a1 : Int} {r : Int} (hr : qcO9 a0 a1 = some r) : Res C 135 [.rd (a0.map intD), .v (.int .i64 a1)] (PI r) := by
  simp only [qcO9] at hr
  obtain ⟨x2, h1, hr⟩ := bsome hr
  obtain ⟨q1, h1L, h1X⟩ := qie9.L (g := ()) h1
  rcases x2 with x3 | x4
  try dsimp only at hr
  obtain ⟨st1, rfl, h1R⟩ := h1X
  simp only [qbH9, go_sem] at h1L
  obtain rfl := oiA hr
  refine run_V is135 (nbA rfl) ?_
  rotate_left
  try dsimp only at hr
  obtain ⟨⟨⟩, rfl⟩ := h1X
  simp only [qbH9, go_sem] at h1L
  obtain rfl := oiA hr
  refine run_V is135 (nbA rfl) ?_
  rotate_left
  all_goals (simp +decide only [go_sem, c135, *])
def c121 : ACode := .seq (.reg [] [] [.K 4 (.mv (.const (.bool false)))]) (.seq (.reg [] [] [.M 5 0, .M 6 1, .T 7 (.call 135 [.tmp 5, .tmp 6]), .T 8 (.bin .geq (.tmp 7) (cI 0)), .N 4 8]) (.ret))
theorem is121 : IsF C 121 9 19 c121 [.tmp 4] := ⟨⟨Tryd.f121, _, C_P ▸ Tryd.func121, rfl, rfl, rfl, by kernel_rfl, rfl⟩⟩
theorem qhp9 {a0 : List Int} {a1 : Int} {r : Bool} (hr : qbD9 a0 a1 = some r) : Res C 121 [.rd (a0.map intD), .v (.int .i64 a1)] (PB r) := by
  simp only [qbD9] at hr
  obtain ⟨x1, h1, hr⟩ := bsome hr
  have h1k := (qiE9 h1).k rfl rfl rfl
  try simp only [go_sem] at h1k
  obtain rfl := oiA hr
  refine run_V is121 (nbA rfl) ?_
  rotate_left
  all_goals (simp +decide only [go_sem, c121, *])
def qqg9 : ACode := .seq (.reg [] [] [.K 47 (.bin .lss (.tmp 46) (.tmp 45))]) (.seq (.cond (.tmp 47) (some 47) (.skip) (.exit 1)) (.seq (.block 2 9147936743096832 (.seq (.reg [] [] [.T 48 (.ix 1 (.tmp 44) (.tmp 46)), .T 49 (.load none (.tmp 48)), .N 9 49]) (.seq (.reg [] [] [.M 50 7, .M 51 9, .T 52 (.call 121 [.tmp 50, .tmp 51]), .K 53 (.not (.tmp 52))]) (.cond (.tmp 53) (some 53) (.seq (.reg [] [] [.K 4 (.mv (cI 72))]) (.ret)) (.skip))))) (.reg [] [] [.T 54 (.bin .add (.tmp 46) (cI 1)), .N 46 54])))
def c101 : ACode := .seq (.reg [] [] [.K 3 (.box (.tmp 1)), .K 4 (.mv (cI 0))]) (.seq (.seq (.reg [] [] [.M 10 0, .T 11 (.fa 0 (.tmp 3)), .T 12 (.load none (.tmp 11)), .T 13 (.call 119 [.tmp 10, .tmp 12]), .N 5 13]) (.seq (.reg [] [] [.M 14 5, .K 15 (.bin .neq (.tmp 14) (cI 0))]) (.cond (.tmp 15) (some 15) (.seq (.reg [] [] [.M 16 5, .N 4 16]) (.ret)) (.skip)))) (.seq (.seq (.reg [] [] [.M 17 0, .T 18 (.fa 1 (.tmp 3)), .T 19 (.load none (.tmp 18)), .T 20 (.call 119 [.tmp 17, .tmp 19]), .N 6 20]) (.seq (.reg [] [] [.M 21 6, .K 22 (.bin .neq (.tmp 21) (cI 0))]) (.cond (.tmp 22) (some 22) (.seq (.reg [] [] [.M 23 6, .N 4 23]) (.ret)) (.skip)))) (.seq (.block 0 8606711808 (.seq (.reg [] [] [.T 25 (.fa 0 (.tmp 3)), .T 26 (.load none (.tmp 25)), .T 27 (.len (.tmp 26)), .T 28 (.fa 1 (.tmp 3)), .T 29 (.load none (.tmp 28)), .T 30 (.len (.tmp 29)), .T 31 (.raw ({ dst := some 31, op := Go.Op.call { callee := Go.Callee.builtin Go.Builtin.max, args := #[.tmp 27, .tmp 30], argTypes := #[3, 3] }, type := 3, pos := "system.go:37", after := #[{ on := 2, ground := Go.Ground.data }, { on := 5, ground := Go.Ground.data }], guard := none })), .T 32 (.bin .gtr (.tmp 31) (cI 512)), .N 24 32]) (.cond (.tmp 24) (some 24) (.seq (.reg [] [] [.K 4 (.mv (cI 2))]) (.ret)) (.seq (.reg [] [] [.T 34 (.fa 0 (.tmp 3)), .T 35 (.load none (.tmp 34)), .T 36 (.ix 1 (.tmp 35) (cI 0)), .T 37 (.load none (.tmp 36)), .T 38 (.bin .lss (.tmp 37) (cI 0)), .N 33 38]) (.cond (.tmp 33) (some 33) (.seq (.reg [] [] [.K 4 (.mv (cI 71))]) (.ret)) (.skip)))))) (.seq (.reg [] [] [.T 39 (.fa 0 (.tmp 3)), .T 40 (.load none (.tmp 39)), .T 41 (.call 120 [.tmp 40]), .N 7 41]) (.seq (.seq (.reg [] [] [.T 42 (.fa 1 (.tmp 3)), .T 43 (.load none (.tmp 42)), .K 44 (.call 120 [.tmp 43]), .K 45 (.len (.tmp 44)), .K 46 (.mv (cI 0))]) (.block 1 9147936743096832 (.loop qqg9))) (.seq (.reg [] [] [.K 4 (.mv (cI 0))]) (.ret)))))))
theorem is101 : IsF C 101 55 9271090656346875 c101 [.tmp 4] := ⟨⟨Tryd.f101, _, C_P ▸ Tryd.func101, rfl, rfl, rfl, by kernel_rfl, rfl⟩⟩
def qei9 (s0 : List Symbol) (s1 : Rule) (s5 : Int) (s6 : Int) (s7 : List Int) (s44 : List Int) (s45 : Int) (b3_0 : List Int) (b3_1 : List Int) : Int → Unit → St := fun s46 _ => ⟨[(0, .d (.rd (s0.map qb9))), (1, .d (.ag (qd9 s1))), (3, .ptr 0 0 0 0), (4, PI 0), (5, PI s5), (6, PI s6), (7, .d (.rd (s7.map intD))), (44, .d (.rd (s44.map intD))), (45, PI s45), (46, PI s46)], (.row false 0 2 [[.d (.rd (b3_0.map intD)), .d (.rd (b3_1.map intD))]] :: [])⟩
def qmG9 (s0 : List Symbol) (s1 : Rule) (s5 : Int) (s6 : Int) (s7 : List Int) (s44 : List Int) (s45 : Int) (b3_0 : List Int) (b3_1 : List Int) : (Int ⊕ Int) → AExit × St → Prop
  | .inl r, q => XV C [.tmp 4] (PI r) q
  | .inr s46, q => ∃ g, q = (.exit 1, qei9 s0 s1 s5 s6 s7 s44 s45 b3_0 b3_1 s46 g)
theorem qmD9 {s0 : List Symbol} {s1 : Rule} {s5 : Int} {s6 : Int} {s7 : List Int} {s44 : List Int} {s45 : Int} {b3_0 : List Int} {b3_1 : List Int} : Sim C 9271090656346875 qqg9 (qbN9 s0 s1 s5 s6 s7 s44 s45 b3_0 b3_1) (qei9 s0 s1 s5 s6 s7 s44 s45 b3_0 b3_1) (qmG9 s0 s1 s5 s6 s7 s44 s45 b3_0 b3_1) := by
  intro s g r hr
  have ⟨s46, hs0⟩ : ∃ y, y = s := ⟨_, rfl⟩
  subst hs0
  simp only [qbN9] at hr
  rcases iteP hr with ⟨h1, hr⟩ | ⟨h1, hr⟩
  obtain ⟨x6, h2, x7, h3, hr⟩ := bs2 hr
  have h3k := (qhp9 h3).k rfl rfl rfl
  try simp only [go_sem] at h3k
  rcases iteB hr with ⟨h4, hr⟩ | ⟨h4, hr⟩
  obtain rfl := oiA hr
  refine ⟨(), ?_⟩
  rotate_left
  obtain rfl := oiA hr
  refine xv_of ?_
  rotate_left
  obtain rfl := oiA hr
  refine xe_of ⟨(), rfl⟩ ?_
  rotate_left
  all_goals (simp +decide only [go_sem, qei9, qqg9, *])
theorem qnA9 {a0 : List Symbol} {a1 : Rule} {r : Int} (hr : qP9 a0 a1 = some r) : Res C 101 [.rd (a0.map qb9), .ag (qd9 a1)] (PI r) := by
  simp only [qP9] at hr
  obtain ⟨x1, h1, hr⟩ := bsome hr
  have h1k := fun h => qkt9 (h := h) h1
  try simp only [go_sem] at h1k
  rcases iteP hr with ⟨h2, hr⟩ | ⟨h2, hr⟩
  obtain ⟨x2, h3, hr⟩ := bsome hr
  have h3k := fun h => qkt9 (h := h) h3
  try simp only [go_sem] at h3k
  rcases iteP hr with ⟨h4, hr⟩ | ⟨h4, hr⟩
  rcases iteP hr with ⟨h5, hr⟩ | ⟨h5, hr⟩
  obtain rfl := oiA hr
  refine run_V is101 (nbA rfl) ?_
  rotate_left
  obtain ⟨x3, h6, hr⟩ := bsome hr
  rcases iteP hr with ⟨h7, hr⟩ | ⟨h7, hr⟩
  obtain rfl := oiA hr
  refine run_V is101 (nbA rfl) ?_
  rotate_left
  obtain ⟨x4, h8, x5, h9, hr⟩ := bs2 hr
  have h8k := (qlg9 h8).k rfl rfl rfl
  try simp only [go_sem] at h8k
  have h9k := (qlg9 h9).k rfl rfl rfl
  try simp only [go_sem] at h9k
  obtain ⟨x8, h10, hr⟩ := bsome hr
  obtain ⟨q10, h10L, h10X⟩ := qmD9.L (g := ()) h10
  rcases x8 with x9 | x10
  try dsimp only at hr
  obtain ⟨st10, rfl, h10R⟩ := h10X
  simp only [qei9, go_sem] at h10L
  obtain rfl := oiA hr
  refine run_V is101 (nbA rfl) ?_
  rotate_left
  try dsimp only at hr
  obtain ⟨⟨⟩, rfl⟩ := h10X
  simp only [qei9, go_sem] at h10L
  obtain rfl := oiA hr
  refine run_V is101 (nbA rfl) ?_
  rotate_left
  obtain rfl := oiA hr
  refine run_V is101 (nbA rfl) ?_
  rotate_left
  obtain rfl := oiA hr
  refine run_V is101 (nbA rfl) ?_
  rotate_left
  all_goals (simp +decide only [go_sem, c101, *])
def b77_0 : ACode := .seq (.reg [] [] [.K 22 (.bin .lss (.tmp 21) (.tmp 20))]) (.seq (.cond (.tmp 22) (some 22) (.skip) (.exit 0)) (.seq (.block 1 2151678176 (.seq (.reg [] [] [.M 23 21, .T 24 (.ix 2 (.tmp 19) (.tmp 21)), .T 25 (.load (some 2) (.tmp 24)), .K 6 (.alloc [.im true [], .im true []] 2), .N 5 23, ⟨none, .store 2 (.tmp 6) (.tmp 25), none, false, false⟩]) (.seq (.reg [] [] [.T 26 (.fa 0 (.tmp 1)), .T 27 (.load none (.tmp 26)), .T 28 (.load (some 2) (.tmp 6)), .T 29 (.call 101 [.tmp 27, .tmp 28]), .N 7 29]) (.seq (.reg [] [] [.M 30 7, .K 31 (.bin .neq (.tmp 30) (cI 0))]) (.cond (.tmp 31) (some 31) (.seq (.reg [] [] [.M 32 7, .M 33 5, .N 2 32, .N 3 33]) (.ret)) (.skip)))))) (.reg [] [] [.T 34 (.bin .add (.tmp 21) (cI 1)), .N 21 34])))
def c77 : ACode := .seq (.reg [] [] [.K 1 (.box (.tmp 0)), .K 2 (.mv (cI 0)), .K 3 (.mv (cI 0))]) (.seq (.seq (.reg [] [] [.T 8 (.fa 0 (.tmp 1)), .T 9 (.load none (.tmp 8)), .T 10 (.call 100 [.tmp 9]), .N 4 10]) (.seq (.reg [] [] [.M 11 4, .K 12 (.bin .neq (.tmp 11) (cI 0))]) (.cond (.tmp 12) (some 12) (.seq (.reg [] [] [.M 13 4, .N 2 13, .K 3 (.mv (cI (-1)))]) (.ret)) (.skip)))) (.seq (.seq (.reg [] [] [.T 14 (.fa 1 (.tmp 1)), .T 15 (.load none (.tmp 14)), .T 16 (.len (.tmp 15)), .K 17 (.bin .gtr (.tmp 16) (cI 64))]) (.cond (.tmp 17) (some 17) (.seq (.reg [] [] [.K 2 (.mv (cI 70)), .K 3 (.mv (cI (-1)))]) (.ret)) (.skip))) (.seq (.seq (.reg [] [] [.T 18 (.fa 1 (.tmp 1)), .K 19 (.load none (.tmp 18)), .K 20 (.len (.tmp 19)), .K 21 (.mv (cI 0))]) (.block 0 2151678176 (.loop b77_0))) (.seq (.reg [] [] [.K 2 (.mv (cI 0)), .K 3 (.mv (cI 0))]) (.ret)))))
theorem is77 : IsF C 77 35 2155483391 c77 [.tmp 2, .tmp 3] := ⟨⟨Tryd.f77, _, C_P ▸ Tryd.func77, rfl, rfl, rfl, by kernel_rfl, rfl⟩⟩
def qdK9 (s0 : System) (s4 : Int) (s19 : List Rule) (s20 : Int) (b1_0 : List Symbol) (b1_1 : List Rule) : Int → AHeap → St := fun s21 gt => ⟨[(0, .d (.ag (qf9 s0))), (1, .ptr 0 0 0 0), (2, PI 0), (3, PI 0), (4, PI s4), (19, .d (.rd (s19.map qd9))), (20, PI s20), (21, PI s21)], (.row false 0 2 [[.d (.rd (b1_0.map qb9)), .d (.rd (b1_1.map qd9))]] :: gt)⟩
def qmj9 (s0 : System) (s4 : Int) (s19 : List Rule) (s20 : Int) (b1_0 : List Symbol) (b1_1 : List Rule) : ((Int × Int) ⊕ Int) → AExit × St → Prop
  | .inl r, q => XV C [.tmp 2, .tmp 3] (.tp [PI r.1, PI r.2]) q
  | .inr s21, q => ∃ g, q = (.exit 0, qdK9 s0 s4 s19 s20 b1_0 b1_1 s21 g)
theorem qmf9 {s0 : System} {s4 : Int} {s19 : List Rule} {s20 : Int} {b1_0 : List Symbol} {b1_1 : List Rule} : Sim C 2155483391 b77_0 (qbC9 s0 s4 s19 s20 b1_0 b1_1) (qdK9 s0 s4 s19 s20 b1_0 b1_1) (qmj9 s0 s4 s19 s20 b1_0 b1_1) := by
  intro s g r hr
  have ⟨s21, hs0⟩ : ∃ y, y = s := ⟨_, rfl⟩
  subst hs0
  have ⟨gt, hg0⟩ : ∃ y, y = g := ⟨_, rfl⟩
  subst hg0
  simp only [qbC9] at hr
  rcases iteP hr with ⟨h1, hr⟩ | ⟨h1, hr⟩
  obtain ⟨x2, h2, x3, h3, hr⟩ := bs2 hr
  have h3k := fun h => (qnA9 h3).o rfl rfl rfl (h := h) (args := [.d (.rd (b1_0.map qb9)), .ag [.d (.rd (x2.L.map intD)), .d (.rd (x2.R.map intD))]]) rfl
  try simp only [go_sem] at h3k
  rcases iteP hr with ⟨h4, hr⟩ | ⟨h4, hr⟩
  obtain rfl := oiA hr
  refine ⟨(gt ++ (.row false 0 2 [[.d (.rd (x2.L.map intD)), .d (.rd (x2.R.map intD))]] :: [])), ?_⟩
  rotate_left
  obtain rfl := oiA hr
  refine xv_of ?_
  rotate_left
  obtain rfl := oiA hr
  refine xe_of ⟨gt, rfl⟩ ?_
  rotate_left
  all_goals (simp +decide only [go_sem, qdK9, b77_0, *])
theorem qmF9 {a0 : System} {r : Int × Int} (hr : qdt9 a0 = some r) : Res C 77 [.ag (qf9 a0)] (.tp [PI r.1, PI r.2]) := by
  simp only [qdt9] at hr
  obtain ⟨x1, h1, hr⟩ := bsome hr
  have h1k := (qmz9 h1).k rfl rfl rfl
  try simp only [go_sem] at h1k
  rcases iteP hr with ⟨h2, hr⟩ | ⟨h2, hr⟩
  rcases iteP hr with ⟨h3, hr⟩ | ⟨h3, hr⟩
  obtain rfl := oiA hr
  refine run_V is77 (nbA rfl) ?_
  rotate_left
  obtain ⟨x4, h4, hr⟩ := bsome hr
  obtain ⟨q4, h4L, h4X⟩ := qmf9.L (g := []) h4
  rcases x4 with x5 | x6
  try dsimp only at hr
  obtain ⟨st4, rfl, h4R⟩ := h4X
  simp only [qdK9, go_sem] at h4L
  obtain rfl := oiA hr
  refine run_V is77 (nbA rfl) ?_
  rotate_left
  try dsimp only at hr
  obtain ⟨z7, rfl⟩ := h4X
  simp only [qdK9, go_sem] at h4L
  obtain rfl := oiA hr
  refine run_V is77 (nbA rfl) ?_
  rotate_left
  obtain rfl := oiA hr
  refine run_V is77 (nbA rfl) ?_
  rotate_left
  all_goals (simp +decide only [go_sem, c77, *])
def qpb9 : ACode := .reg [] [] [.K 4 (.mv (cI 0))]
def qoj9 : ACode := .reg [] [] [.M 8 0, .M 9 1, .T 10 (.call 91 [.tmp 8, .tmp 9]), .M 7 10, .T 11 (.ext (.tmp 7) 0), .T 12 (.ext (.tmp 7) 1), .M 5 11, .N 6 12]
def qoW9 : ACode := .reg [] [] [.M 13 6, .N 4 13]
def c62 : ACode := .seq (qpb9) (.seq (qoj9) (.seq (qoW9) (.ret)))
theorem is62 : IsF C 62 14 83 c62 [.tmp 4] := ⟨⟨Tryd.f62, _, C_P ▸ Tryd.func62, rfl, rfl, rfl, by kernel_rfl, rfl⟩⟩
theorem qpN9 {sig : List Symbol} {t : List Int} {r : Int} (hr : qbM9 sig t = some r) : ∃ p hp, Lim C 62 (TArgs sig t) [] = some (p, hp) ∧ rsT hp p = some (PI r) := by
  simp only [qbM9] at hr
  obtain ⟨e, he, hr⟩ := bsome hr
  by_cases h0 : e = 0
  · subst h0
    simp only [if_true] at hr
    obtain ⟨hL, hr⟩ := gsome hr
    replace hr := oiA hr
    subst hr
    obtain ⟨x, h', q1, _⟩ := qxX9 (of_eq_true hL) (fun s hs => by have := qca9 he s hs; omega) he []
    have hcall : callP C (Lim C) 91 (TArgs sig t) [] = some (.tp [x, PI (qo9 sig t)], h') := q1
    refine ⟨_, _, Lim_A is62 (h' := h') (nbA rfl) (env := [(0, .d (.rd (sig.map qb9))), (1, .d (.rd (t.map intD))), (4, PI (qo9 sig t)), (6, PI (qo9 sig t))]) (e := .ret) ?_ (.inr rfl) (vs := [PI (qo9 sig t)]) rfl, rfl⟩
    simp +decide only [c62, qpb9, qoj9, qoW9, qL9, go_sem, opNil, hcall]
  · rw [if_neg h0] at hr
    replace hr := oiA hr
    subst hr
    have hcall : callP C (Lim C) 91 (TArgs sig t) [] = some (.tp [.d (.v .nilIface), PI e], []) := qxl9 he h0 []
    refine ⟨_, _, Lim_A is62 (h' := []) (nbA rfl) (env := [(0, .d (.rd (sig.map qb9))), (1, .d (.rd (t.map intD))), (4, PI e), (6, PI e)]) (e := .ret) ?_ (.inr rfl) (vs := [PI e]) rfl, rfl⟩
    simp +decide only [c62, qpb9, qoj9, qoW9, qL9, go_sem, opNil, hcall]
theorem qix9 {a0 : List Symbol} {a1 : List Int} {r : Int} (hr : qbM9 a0 a1 = some r) {h : AHeap} : callP C (Lim C) 62 (TArgs a0 a1) h = some (PI r, h) := qkI9 (ds := [.rd (a0.map qb9), .rd (a1.map intD)]) rfl rfl rfl (qpN9 hr) h

def c42 : ACode := .seq (.reg [] [] [.K 2 (.box (.tmp 0)), .K 4 (.mv (cI 0))]) (.seq (.seq (.reg [] [] [.T 8 (.load (some 2) (.tmp 2)), .T 9 (.call 77 [.tmp 8]), .M 7 9, .T 10 (.ext (.tmp 7) 0), .T 11 (.ext (.tmp 7) 1), .N 5 10, .M 6 11]) (.seq (.reg [] [] [.M 12 5, .K 13 (.bin .neq (.tmp 12) (cI 0))]) (.cond (.tmp 13) (some 13) (.seq (.reg [] [] [.M 14 5, .N 4 14]) (.ret)) (.skip)))) (.seq (.reg [] [] [.T 15 (.fa 0 (.tmp 2)), .T 16 (.load none (.tmp 15)), .M 17 1, .T 18 (.call 62 [.tmp 16, .tmp 17]), .N 4 18]) (.ret)))
theorem is42 : IsF C 42 19 8247 c42 [.tmp 4] := ⟨⟨Tryd.f42, _, C_P ▸ Tryd.func42, rfl, rfl, rfl, by kernel_rfl, rfl⟩⟩
theorem qiG9 {a0 : System} {a1 : List Int} {r : Int} (hr : qdi9 a0 a1 = some r) : Res C 42 [.ag (qf9 a0), .rd (a1.map intD)] (PI r) := by
  simp only [qdi9] at hr
  obtain ⟨x1, h1, hr⟩ := bsome hr
  have h1k := fun h => (qmF9 h1).o rfl rfl rfl (h := h) (args := [.ag [.d (.rd (a0.Sig.map qb9)), .d (.rd (a0.Rules.map qd9))]]) rfl
  try simp only [go_sem] at h1k
  rcases iteP hr with ⟨h2, hr⟩ | ⟨h2, hr⟩
  obtain ⟨x2, h3, hr⟩ := bsome hr
  have h3k := fun h => qix9 (h := h) h3
  try simp only [go_sem] at h3k
  obtain rfl := oiA hr
  refine run_V is42 (nbA rfl) ?_
  rotate_left
  obtain rfl := oiA hr
  refine run_V is42 (nbA rfl) ?_
  rotate_left
  all_goals (simp +decide only [go_sem, c42, *])
def b78_0 : ACode := .seq (.reg [] [] [.K 24 (.bin .lss (.tmp 23) (.tmp 22))]) (.seq (.cond (.tmp 24) (some 24) (.skip) (.exit 0)) (.seq (.block 1 16777216 (.reg [] [] [.T 25 (.load none (.tmp 3)), .M 26 7, .T 27 (.callV (.tmp 25) [.tmp 26]), .N 7 27])) (.reg [] [] [.T 28 (.bin .add (.tmp 23) (cI 1)), .N 23 28])))
def c78 : ACode := .seq (.reg [] [] [.K 6 (.mv (cI 0))]) (.seq (.reg [] [] [.M 8 0, .T 9 (.bin .add (.tmp 8) (cI 1)), .N 7 9]) (.seq (.seq (.reg [] [] [.T 10 (.load none (.tmp 1)), .M 11 0, .T 12 (.ix 1 (.tmp 10) (.tmp 11)), .T 13 (.load none (.tmp 12)), .K 14 (.bin .geq (.tmp 13) (cI 0))]) (.cond (.tmp 14) (some 14) (.seq (.reg [] [] [⟨some (15, false), .load none (.tmp 2), none, true, false⟩, ⟨some (16, false), .load none (.tmp 1), none, true, false⟩, .M 17 0, ⟨some (18, false), .ix 1 (.tmp 16) (.tmp 17), none, true, false⟩, ⟨some (19, false), .load none (.tmp 18), none, true, false⟩, ⟨some (20, false), .ix 2 (.tmp 15) (.tmp 19), none, true, false⟩, .T 21 (.fa 1 (.tmp 20)), ⟨some (22, true), .load none (.tmp 21), none, true, false⟩, .K 23 (.mv (cI 0))]) (.block 0 16777216 (.loop b78_0))) (.skip))) (.seq (.reg [] [] [.T 29 (.load none (.tmp 4)), .M 30 0, .M 31 7, .T 32 (.ix 1 (.tmp 29) (.tmp 30)), ⟨none, .store 1 (.tmp 32) (.tmp 31), none, false, false⟩]) (.seq (.reg [] [] [.M 33 7, .N 6 33]) (.ret)))))
theorem is78 : IsF C 78 34 29376735 c78 [.tmp 6] := ⟨⟨Tryd.f78, _, C_P ▸ Tryd.func78, rfl, rfl, rfl, by kernel_rfl, rfl⟩⟩
def qeH9 (s0 : Int) (s22 : Int) (g1 : AHeap) (g2 : AHeap) (g3 : AHeap) (v3_0_3_0 : Nat) (n3_0_3_0 : Nat) (g4 : AHeap) (g5 : AHeap) (g6 : AHeap) : Int × Int × (List Symbol) × (List Int) × (List Int) → AHeap → St := fun (s7, s23, b2_0, b1_0, o3_0_3_0) gt => ⟨[(0, PI s0), (1, .ptr (g1.length + g2.length + 1) 0 0 0), (2, .ptr g1.length 0 0 0), (3, .ptr (g1.length + g2.length + g3.length + g4.length + g5.length + 4) 0 0 0), (4, .ptr (g1.length + g2.length + g3.length + g4.length + 3) 0 0 0), (6, PI 0), (7, PI s7), (22, PI s22), (23, PI s23)], (g1 ++ (.row false 0 1 [[.d (.rd (b2_0.map qb9))]] :: (g2 ++ (.row false 0 1 [[.d (.rd (b1_0.map intD))]] :: (g3 ++ (.row false v3_0_3_0 1 (rowP intD o3_0_3_0) :: (g4 ++ (.row false 0 1 [[.ref (g1.length + g2.length + g3.length + 2) v3_0_3_0 0 n3_0_3_0]] :: (g5 ++ (.row false 0 1 [[.fn 78 [.ptr (g1.length + g2.length + 1) 0 0 0, .ptr g1.length 0 0 0, .ptr (g1.length + g2.length + g3.length + g4.length + g5.length + 4) 0 0 0, .ptr (g1.length + g2.length + g3.length + g4.length + 3) 0 0 0]]] :: (g6 ++ gt)))))))))))⟩
def qiS9 (s0 : Int) (s22 : Int) (g1 : AHeap) (g2 : AHeap) (g3 : AHeap) (v3_0_3_0 : Nat) (n3_0_3_0 : Nat) (g4 : AHeap) (g5 : AHeap) (g6 : AHeap) : Int × Int × (List Symbol) × (List Int) × (List Int) → Prop := fun (s7, s23, b2_0, b1_0, o3_0_3_0) => o3_0_3_0.length = n3_0_3_0
def qlR9 (s0 : Int) (s22 : Int) (g1 : AHeap) (g2 : AHeap) (g3 : AHeap) (v3_0_3_0 : Nat) (n3_0_3_0 : Nat) (g4 : AHeap) (g5 : AHeap) (g6 : AHeap) : (Int × Int × (List Symbol) × (List Int) × (List Int)) → AExit × St → Prop := fun (s7, s23, b2_0, b1_0, o3_0_3_0) q => ∃ g, q = (.exit 0, qeH9 s0 s22 g1 g2 g3 v3_0_3_0 n3_0_3_0 g4 g5 g6 (s7, s23, b2_0, b1_0, o3_0_3_0) g) ∧ o3_0_3_0.length = n3_0_3_0
theorem qlB9 {rec : Int × (List Symbol) × (List Int) × (List Int) → Option (Int × (List Symbol) × (List Int) × (List Int))} (hrec : ∀ {s0 : Int} {b2_0 : List Symbol} {b1_0 : List Int} {o3_0_3_0 : List Int} {g1 : AHeap} {g2 : AHeap} {g3 : AHeap} {v3_0_3_0 : Nat} {n3_0_3_0 : Nat} {g4 : AHeap} {g5 : AHeap} {g6 : AHeap} (hln3_0_3_0 : o3_0_3_0.length = n3_0_3_0) {r : Int × (List Symbol) × (List Int) × (List Int)} (_ : rec (s0, b2_0, b1_0, o3_0_3_0) = some r), ∃ hz : AHeap, callP C (Lim C) 78 [PI s0, .ptr (g1.length + g2.length + 1) 0 0 0, .ptr g1.length 0 0 0, .ptr (g1.length + g2.length + g3.length + g4.length + g5.length + 4) 0 0 0, .ptr (g1.length + g2.length + g3.length + g4.length + 3) 0 0 0] (g1 ++ (.row false 0 1 [[.d (.rd (b2_0.map qb9))]] :: (g2 ++ (.row false 0 1 [[.d (.rd (b1_0.map intD))]] :: (g3 ++ (.row false v3_0_3_0 1 (rowP intD o3_0_3_0) :: (g4 ++ (.row false 0 1 [[.ref (g1.length + g2.length + g3.length + 2) v3_0_3_0 0 n3_0_3_0]] :: (g5 ++ (.row false 0 1 [[.fn 78 [.ptr (g1.length + g2.length + 1) 0 0 0, .ptr g1.length 0 0 0, .ptr (g1.length + g2.length + g3.length + g4.length + g5.length + 4) 0 0 0, .ptr (g1.length + g2.length + g3.length + g4.length + 3) 0 0 0]]] :: g6)))))))))) = some (resOf [PI r.1], (g1 ++ (.row false 0 1 [[.d (.rd (r.2.1.map qb9))]] :: (g2 ++ (.row false 0 1 [[.d (.rd (r.2.2.1.map intD))]] :: (g3 ++ (.row false v3_0_3_0 1 (rowP intD r.2.2.2) :: (g4 ++ (.row false 0 1 [[.ref (g1.length + g2.length + g3.length + 2) v3_0_3_0 0 n3_0_3_0]] :: (g5 ++ (.row false 0 1 [[.fn 78 [.ptr (g1.length + g2.length + 1) 0 0 0, .ptr g1.length 0 0 0, .ptr (g1.length + g2.length + g3.length + g4.length + g5.length + 4) 0 0 0, .ptr (g1.length + g2.length + g3.length + g4.length + 3) 0 0 0]]] :: (g6 ++ hz)))))))))))) ∧ r.2.2.2.length = n3_0_3_0) {s0 : Int} {s22 : Int} {g1 : AHeap} {g2 : AHeap} {g3 : AHeap} {v3_0_3_0 : Nat} {n3_0_3_0 : Nat} {g4 : AHeap} {g5 : AHeap} {g6 : AHeap} : SimI C 29376735 b78_0 (qiS9 s0 s22 g1 g2 g3 v3_0_3_0 n3_0_3_0 g4 g5 g6) (qbU9 rec s0 s22) (qeH9 s0 s22 g1 g2 g3 v3_0_3_0 n3_0_3_0 g4 g5 g6) (qlR9 s0 s22 g1 g2 g3 v3_0_3_0 n3_0_3_0 g4 g5 g6) := by
  intro s g r hI hr
  obtain ⟨s7, s23, b2_0, b1_0, o3_0_3_0⟩ := s
  have ⟨gt, hg0⟩ : ∃ y, y = g := ⟨_, rfl⟩
  subst hg0
  simp only [qiS9] at hI
  have hI0 := hI
  simp only [qbU9] at hr
  rcases iteP hr with ⟨h1, hr⟩ | ⟨h1, hr⟩
  obtain ⟨x3, h2, hr⟩ := bsome hr
  obtain ⟨z4, h2k, h2l0⟩ := hrec (g1 := g1) (g2 := g2) (g3 := g3) (v3_0_3_0 := v3_0_3_0) (n3_0_3_0 := n3_0_3_0) (g4 := g4) (g5 := g5) (g6 := (g6 ++ gt)) (show o3_0_3_0.length = n3_0_3_0 by first | assumption | (simp only [llA, lrA]; first | done | assumption | omega) | omega) h2
  try simp only [go_sem] at h2k
  obtain rfl := oiA hr
  refine ⟨⟨(gt ++ z4), ?_⟩, (show x3.2.2.2.length = n3_0_3_0 by first | assumption | (simp only [llA, lrA]; first | done | assumption | omega) | omega)⟩
  rotate_left
  obtain rfl := oiA hr
  refine xe_of ⟨gt, rfl, (show o3_0_3_0.length = n3_0_3_0 by first | assumption | (simp only [llA, lrA]; first | done | assumption | omega) | omega)⟩ ?_
  rotate_left
  all_goals (simp +decide only [go_sem, qeH9, b78_0, *])
theorem qlG9 {rec : Int × (List Symbol) × (List Int) × (List Int) → Option (Int × (List Symbol) × (List Int) × (List Int))} (hrec : ∀ {s0 : Int} {b2_0 : List Symbol} {b1_0 : List Int} {o3_0_3_0 : List Int} {g1 : AHeap} {g2 : AHeap} {g3 : AHeap} {v3_0_3_0 : Nat} {n3_0_3_0 : Nat} {g4 : AHeap} {g5 : AHeap} {g6 : AHeap} (hln3_0_3_0 : o3_0_3_0.length = n3_0_3_0) {r : Int × (List Symbol) × (List Int) × (List Int)} (_ : rec (s0, b2_0, b1_0, o3_0_3_0) = some r), ∃ hz : AHeap, callP C (Lim C) 78 [PI s0, .ptr (g1.length + g2.length + 1) 0 0 0, .ptr g1.length 0 0 0, .ptr (g1.length + g2.length + g3.length + g4.length + g5.length + 4) 0 0 0, .ptr (g1.length + g2.length + g3.length + g4.length + 3) 0 0 0] (g1 ++ (.row false 0 1 [[.d (.rd (b2_0.map qb9))]] :: (g2 ++ (.row false 0 1 [[.d (.rd (b1_0.map intD))]] :: (g3 ++ (.row false v3_0_3_0 1 (rowP intD o3_0_3_0) :: (g4 ++ (.row false 0 1 [[.ref (g1.length + g2.length + g3.length + 2) v3_0_3_0 0 n3_0_3_0]] :: (g5 ++ (.row false 0 1 [[.fn 78 [.ptr (g1.length + g2.length + 1) 0 0 0, .ptr g1.length 0 0 0, .ptr (g1.length + g2.length + g3.length + g4.length + g5.length + 4) 0 0 0, .ptr (g1.length + g2.length + g3.length + g4.length + 3) 0 0 0]]] :: g6)))))))))) = some (resOf [PI r.1], (g1 ++ (.row false 0 1 [[.d (.rd (r.2.1.map qb9))]] :: (g2 ++ (.row false 0 1 [[.d (.rd (r.2.2.1.map intD))]] :: (g3 ++ (.row false v3_0_3_0 1 (rowP intD r.2.2.2) :: (g4 ++ (.row false 0 1 [[.ref (g1.length + g2.length + g3.length + 2) v3_0_3_0 0 n3_0_3_0]] :: (g5 ++ (.row false 0 1 [[.fn 78 [.ptr (g1.length + g2.length + 1) 0 0 0, .ptr g1.length 0 0 0, .ptr (g1.length + g2.length + g3.length + g4.length + g5.length + 4) 0 0 0, .ptr (g1.length + g2.length + g3.length + g4.length + 3) 0 0 0]]] :: (g6 ++ hz)))))))))))) ∧ r.2.2.2.length = n3_0_3_0) {s0 : Int} {b2_0 : List Symbol} {b1_0 : List Int} {o3_0_3_0 : List Int} {g1 : AHeap} {g2 : AHeap} {g3 : AHeap} {v3_0_3_0 : Nat} {n3_0_3_0 : Nat} {g4 : AHeap} {g5 : AHeap} {g6 : AHeap} (hln3_0_3_0 : o3_0_3_0.length = n3_0_3_0) {r : Int × (List Symbol) × (List Int) × (List Int)} (hr : qbB9 rec s0 b2_0 b1_0 o3_0_3_0 = some r) : ∃ hz : AHeap, Lim C 78 [PI s0, .ptr (g1.length + g2.length + 1) 0 0 0, .ptr g1.length 0 0 0, .ptr (g1.length + g2.length + g3.length + g4.length + g5.length + 4) 0 0 0, .ptr (g1.length + g2.length + g3.length + g4.length + 3) 0 0 0] (g1 ++ (.row false 0 1 [[.d (.rd (b2_0.map qb9))]] :: (g2 ++ (.row false 0 1 [[.d (.rd (b1_0.map intD))]] :: (g3 ++ (.row false v3_0_3_0 1 (rowP intD o3_0_3_0) :: (g4 ++ (.row false 0 1 [[.ref (g1.length + g2.length + g3.length + 2) v3_0_3_0 0 n3_0_3_0]] :: (g5 ++ (.row false 0 1 [[.fn 78 [.ptr (g1.length + g2.length + 1) 0 0 0, .ptr g1.length 0 0 0, .ptr (g1.length + g2.length + g3.length + g4.length + g5.length + 4) 0 0 0, .ptr (g1.length + g2.length + g3.length + g4.length + 3) 0 0 0]]] :: g6)))))))))) = some (resOf [PI r.1], (g1 ++ (.row false 0 1 [[.d (.rd (r.2.1.map qb9))]] :: (g2 ++ (.row false 0 1 [[.d (.rd (r.2.2.1.map intD))]] :: (g3 ++ (.row false v3_0_3_0 1 (rowP intD r.2.2.2) :: (g4 ++ (.row false 0 1 [[.ref (g1.length + g2.length + g3.length + 2) v3_0_3_0 0 n3_0_3_0]] :: (g5 ++ (.row false 0 1 [[.fn 78 [.ptr (g1.length + g2.length + 1) 0 0 0, .ptr g1.length 0 0 0, .ptr (g1.length + g2.length + g3.length + g4.length + g5.length + 4) 0 0 0, .ptr (g1.length + g2.length + g3.length + g4.length + 3) 0 0 0]]] :: (g6 ++ hz)))))))))))) ∧ r.2.2.2.length = n3_0_3_0 := by
  simp only [qbB9] at hr
  obtain ⟨x1, h1, hr⟩ := bsome hr
  rcases iteP hr with ⟨h2, hr⟩ | ⟨h2, hr⟩
  obtain ⟨x2, h3, hr⟩ := bsome hr
  obtain ⟨x5, h4, hr⟩ := bsome hr
  obtain ⟨q4, h4L, h4X⟩ := (qlB9 hrec (g1 := g1) (g2 := g2) (g3 := g3) (v3_0_3_0 := v3_0_3_0) (n3_0_3_0 := n3_0_3_0) (g4 := g4) (g5 := g5) (g6 := g6)).L (g := []) h4 (show o3_0_3_0.length = n3_0_3_0 by first | assumption | (simp only [llA, lrA]; first | done | assumption | omega) | omega)
  obtain ⟨x6, x7, x8, x9, x10⟩ := x5
  try dsimp only at hr
  obtain ⟨z11, rfl, h4l0⟩ := h4X
  simp only [qeH9, go_sem] at h4L
  try simp only [hln3_0_3_0] at h4L
  obtain ⟨x12, h5, hr⟩ := bsome hr
  have h5a := eq_true (qa9 h5).1
  have h5b : (s0 < (n3_0_3_0 : Int)) = True := eq_true (by have hb : s0 < (x10.length : Int) := (qa9 h5).2.1; omega)
  have h5c := (qa9 h5).2.2
  obtain rfl := oiA hr
  refine ⟨z11, run_L is78 (nbA rfl) ?_, (show (x10.set (s0).toNat x6).length = n3_0_3_0 by first | assumption | (simp only [llA, lrA]; first | done | assumption | omega) | omega)⟩
  rotate_left
  obtain ⟨x13, h6, hr⟩ := bsome hr
  have h6a := eq_true (qa9 h6).1
  have h6b : (s0 < (n3_0_3_0 : Int)) = True := eq_true (by have hb : s0 < (o3_0_3_0.length : Int) := (qa9 h6).2.1; omega)
  have h6c := (qa9 h6).2.2
  obtain rfl := oiA hr
  refine ⟨[], run_L is78 (nbA rfl) ?_, (show (o3_0_3_0.set (s0).toNat (w64 (s0 + 1))).length = n3_0_3_0 by first | assumption | (simp only [llA, lrA]; first | done | assumption | omega) | omega)⟩
  rotate_left
  all_goals (simp +decide only [go_sem, c78, *])
theorem qmI9 {s0 : Int} {b2_0 : List Symbol} {b1_0 : List Int} {o3_0_3_0 : List Int} {g1 : AHeap} {g2 : AHeap} {g3 : AHeap} {v3_0_3_0 : Nat} {n3_0_3_0 : Nat} {g4 : AHeap} {g5 : AHeap} {g6 : AHeap} (hln3_0_3_0 : o3_0_3_0.length = n3_0_3_0) {r : Int × (List Symbol) × (List Int) × (List Int)} (hr : qiB9 s0 b2_0 b1_0 o3_0_3_0 = some r) : ∃ hz : AHeap, Lim C 78 [PI s0, .ptr (g1.length + g2.length + 1) 0 0 0, .ptr g1.length 0 0 0, .ptr (g1.length + g2.length + g3.length + g4.length + g5.length + 4) 0 0 0, .ptr (g1.length + g2.length + g3.length + g4.length + 3) 0 0 0] (g1 ++ (.row false 0 1 [[.d (.rd (b2_0.map qb9))]] :: (g2 ++ (.row false 0 1 [[.d (.rd (b1_0.map intD))]] :: (g3 ++ (.row false v3_0_3_0 1 (rowP intD o3_0_3_0) :: (g4 ++ (.row false 0 1 [[.ref (g1.length + g2.length + g3.length + 2) v3_0_3_0 0 n3_0_3_0]] :: (g5 ++ (.row false 0 1 [[.fn 78 [.ptr (g1.length + g2.length + 1) 0 0 0, .ptr g1.length 0 0 0, .ptr (g1.length + g2.length + g3.length + g4.length + g5.length + 4) 0 0 0, .ptr (g1.length + g2.length + g3.length + g4.length + 3) 0 0 0]]] :: g6)))))))))) = some (resOf [PI r.1], (g1 ++ (.row false 0 1 [[.d (.rd (r.2.1.map qb9))]] :: (g2 ++ (.row false 0 1 [[.d (.rd (r.2.2.1.map intD))]] :: (g3 ++ (.row false v3_0_3_0 1 (rowP intD r.2.2.2) :: (g4 ++ (.row false 0 1 [[.ref (g1.length + g2.length + g3.length + 2) v3_0_3_0 0 n3_0_3_0]] :: (g5 ++ (.row false 0 1 [[.fn 78 [.ptr (g1.length + g2.length + 1) 0 0 0, .ptr g1.length 0 0 0, .ptr (g1.length + g2.length + g3.length + g4.length + g5.length + 4) 0 0 0, .ptr (g1.length + g2.length + g3.length + g4.length + 3) 0 0 0]]] :: (g6 ++ hz)))))))))))) ∧ r.2.2.2.length = n3_0_3_0 := by
  obtain ⟨n, hn⟩ := qkj9 hr
  clear hr
  induction n generalizing s0 b2_0 b1_0 o3_0_3_0 g1 g2 g3 v3_0_3_0 n3_0_3_0 g4 g5 g6 r with
  | zero => cases hn
  | succ n ih =>
    refine qlG9 (rec := fixN _ n) (fun {s0} {b2_0} {b1_0} {o3_0_3_0} {g1} {g2} {g3} {v3_0_3_0} {n3_0_3_0} {g4} {g5} {g6} hln3_0_3_0 {r} hr => ?_) hln3_0_3_0 (g1 := g1) (g2 := g2) (g3 := g3) (v3_0_3_0 := v3_0_3_0) (n3_0_3_0 := n3_0_3_0) (g4 := g4) (g5 := g5) (g6 := g6) hn
    obtain ⟨hz, h1, f0⟩ := ih hln3_0_3_0 (g1 := g1) (g2 := g2) (g3 := g3) (v3_0_3_0 := v3_0_3_0) (n3_0_3_0 := n3_0_3_0) (g4 := g4) (g5 := g5) (g6 := g6) hr
    exact ⟨hz, qi9 rfl rfl rfl h1, f0⟩
def c43 : ACode := .seq (.reg [] [(4, 0)] [.K 2 (.box (.tmp 0)), .K 3 (.box (.tmp 1)), .K 4 (.mv (.const (.slice none 0 0)))]) (.seq (.reg [] [] [.T 7 (.load none (.tmp 3)), .T 8 (.len (.tmp 7)), .T 9 (.mkSl [.d (.v (.int .i64 0))] 1 8 (.tmp 8) (.tmp 8)), .K 5 (.alloc [.im true []] 1), ⟨none, .store 1 (.tmp 5) (.tmp 9), none, false, false⟩]) (.seq (.reg [] [] [.K 6 (.alloc [.d (.v .nilFunc)] 1)]) (.seq (.reg [] [] [.T 10 (.mkF 78 [.tmp 3, .tmp 2, .tmp 6, .tmp 5]), ⟨none, .store 1 (.tmp 6) (.tmp 10), none, false, false⟩]) (.seq (.reg [] [] [.T 11 (.load none (.tmp 6)), .T 12 (.callV (.tmp 11) [.const (.int .i64 0)])]) (.seq (.reg [] [(4, 0)] [.T 13 (.load none (.tmp 5)), .N 4 13]) (.ret))))))
theorem is43 : IsF C 43 14 127 c43 [.tmp 4] := ⟨⟨Tryd.f43, _, C_P ▸ Tryd.func43, rfl, rfl, rfl, by kernel_rfl, rfl⟩⟩
theorem qja9 {a0 : List Symbol} {a1 : List Int} {r : (List Int)} (hr : qeK9 a0 a1 = some r) : Res C 43 [.rd (a0.map qb9), .rd (a1.map intD)] (.d (.rd (r.map intD))) := by
  simp only [qeK9] at hr
  obtain ⟨h1, hr⟩ := gsome hr
  obtain ⟨h2, hr⟩ := gsome hr
  obtain ⟨x1, h3, hr⟩ := bsome hr
  obtain ⟨z2, h3k, h3l0⟩ := qmI9 (g1 := []) (g2 := []) (g3 := []) (v3_0_3_0 := 0) (n3_0_3_0 := (List.replicate ((a1.length : Int)).toNat 0).length) (g4 := []) (g5 := []) (g6 := []) rfl h3
  replace h3k := qi9 rfl rfl rfl h3k
  try simp only [go_sem] at h3k
  obtain rfl := oiA hr
  refine run_V is43 (nbA rfl) ?_
  rotate_left
  all_goals (simp +decide only [go_sem, c43, *])
def c80 : ACode := .seq (.reg [] [(2, 0)] [.K 2 (.mv (.const Go.Value.nilIface))]) (.seq (.seq (.reg [] [] [.M 3 0, .K 4 (.bin .lss (.tmp 3) (cI 0))]) (.cond (.tmp 4) (some 4) (.seq (.reg [] [(2, 0)] [.M 5 0, .T 6 (.bin .sub (cI (-1)) (.tmp 5)), .T 7 (.mkI 130 (.tmp 6)), .N 2 7]) (.ret)) (.skip))) (.seq (.reg [] [(2, 0)] [.M 8 0, .T 9 (.mkI 128 (.tmp 8)), .N 2 9]) (.ret)))
theorem is80 : IsF C 80 10 21 c80 [.tmp 2] := ⟨⟨Tryd.f80, _, C_P ▸ Tryd.func80, rfl, rfl, rfl, by kernel_rfl, rfl⟩⟩
theorem qpu9 {a0 : Int} {r : D} (hr : qen9 a0 = some r) : Res C 80 [.v (.int .i64 a0)] (.d (r)) := by
  simp only [qen9] at hr
  rcases iteP hr with ⟨h1, hr⟩ | ⟨h1, hr⟩
  obtain rfl := oiA hr
  refine run_V is80 (nbA rfl) ?_
  rotate_left
  obtain rfl := oiA hr
  refine run_V is80 (nbA rfl) ?_
  rotate_left
  all_goals (simp +decide only [go_sem, c80, *])
def b81_0 : ACode := .seq (.seq (.reg [] [] [.M 8 6, .K 9 (.bin .gtr (.tmp 8) (cI 0))]) (.cond (.tmp 9) (some 9) (.skip) (.exit 0))) (.seq (.block 1 131712 (.seq (.seq (.reg [] [] [.M 12 1, .M 13 5, .T 14 (.ix 1 (.tmp 12) (.tmp 13)), .T 15 (.load none (.tmp 14)), .N 7 15]) (.seq (.reg [] [] [.M 16 7, .K 17 (.bin .geq (.tmp 16) (cI 0))]) (.cond (.tmp 17) (some 17) (.reg [] [] [.M 18 6, .M 19 0, .M 20 7, .T 21 (.ix 2 (.tmp 19) (.tmp 20)), .T 22 (.fa 1 (.tmp 21)), .T 23 (.load none (.tmp 22)), .T 24 (.bin .add (.tmp 18) (.tmp 23)), .N 6 24]) (.skip)))) (.reg [] [] [.M 25 5, .T 26 (.bin .add (.tmp 25) (cI 1)), .N 5 26]))) (.reg [] [] [.M 10 6, .T 11 (.bin .sub (.tmp 10) (cI 1)), .N 6 11]))
def c81 : ACode := .seq (.reg [] [] [.K 4 (.mv (cI 0))]) (.seq (.reg [] [] [.K 5 (.mv (cI 0))]) (.seq (.seq (.reg [] [] [.K 6 (.mv (cI 1))]) (.block 0 131712 (.loop b81_0))) (.seq (.reg [] [] [.M 27 5, .N 4 27]) (.ret))))
theorem is81 : IsF C 81 28 131827 c81 [.tmp 4] := ⟨⟨Tryd.f81, _, C_P ▸ Tryd.func81, rfl, rfl, rfl, by kernel_rfl, rfl⟩⟩
def qfk9 (s0 : List Symbol) (s1 : List Int) : Int × Int → Unit → St := fun (s5, s6) _ => ⟨[(0, .d (.rd (s0.map qb9))), (1, .d (.rd (s1.map intD))), (4, PI 0), (5, PI s5), (6, PI s6)], []⟩
def qmo9 (s0 : List Symbol) (s1 : List Int) : (Int × Int) → AExit × St → Prop := fun (s5, s6) q => ∃ g, q = (.exit 0, qfk9 s0 s1 (s5, s6) g)
theorem qmP9 {s0 : List Symbol} {s1 : List Int} : Sim C 131827 b81_0 (qcm9 s0 s1) (qfk9 s0 s1) (qmo9 s0 s1) := by
  intro s g r hr
  obtain ⟨s5, s6⟩ := s
  simp only [qcm9] at hr
  rcases iteP hr with ⟨h1, hr⟩ | ⟨h1, hr⟩
  obtain ⟨x1, h2, hr⟩ := bsome hr
  rcases iteP hr with ⟨h3, hr⟩ | ⟨h3, hr⟩
  obtain ⟨x2, h4, hr⟩ := bsome hr
  obtain rfl := oiA hr
  refine ⟨(), ?_⟩
  rotate_left
  obtain rfl := oiA hr
  refine ⟨(), ?_⟩
  rotate_left
  obtain rfl := oiA hr
  refine xe_of ⟨(), rfl⟩ ?_
  rotate_left
  all_goals (simp +decide only [go_sem, qfk9, b81_0, *])
theorem qnH9 {a0 : List Symbol} {a1 : List Int} {r : Int} (hr : qfO9 a0 a1 = some r) : Res C 81 [.rd (a0.map qb9), .rd (a1.map intD)] (PI r) := by
  simp only [qfO9] at hr
  obtain ⟨x3, h1, hr⟩ := bsome hr
  obtain ⟨q1, h1L, h1X⟩ := qmP9.L (g := ()) h1
  obtain ⟨x4, x5⟩ := x3
  try dsimp only at hr
  obtain ⟨⟨⟩, rfl⟩ := h1X
  simp only [qfk9, go_sem] at h1L
  obtain rfl := oiA hr
  refine run_V is81 (nbA rfl) ?_
  rotate_left
  all_goals (simp +decide only [go_sem, c81, *])
def b82_0 : ACode := .seq (.reg [] [] [.K 14 (.bin .lss (.tmp 13) (.tmp 12))]) (.seq (.cond (.tmp 14) (some 14) (.skip) (.exit 0)) (.seq (.block 1 16793632 (.seq (.reg [] [] [.M 15 13, .N 5 15]) (.seq (.reg [] [] [.M 16 0, .M 17 5, ⟨some (18, false), .ix 1 (.tmp 16) (.tmp 17), none, true, false⟩, ⟨some (19, false), .load none (.tmp 18), none, true, false⟩, .M 20 1, .M 21 5, ⟨some (22, false), .ix 1 (.tmp 20) (.tmp 21), none, true, false⟩, ⟨some (23, false), .load none (.tmp 22), none, true, false⟩, .K 24 (.bin .neq (.tmp 19) (.tmp 23))]) (.cond (.tmp 24) (some 24) (.seq (.reg [] [] [.K 4 (.mv (.const (.bool false)))]) (.ret)) (.skip))))) (.reg [] [] [.T 25 (.bin .add (.tmp 13) (cI 1)), .N 13 25])))
def c82 : ACode := .seq (.reg [] [] [.K 4 (.mv (.const (.bool false)))]) (.seq (.seq (.reg [] [] [.M 6 0, .T 7 (.len (.tmp 6)), .M 8 1, .T 9 (.len (.tmp 8)), .K 10 (.bin .neq (.tmp 7) (.tmp 9))]) (.cond (.tmp 10) (some 10) (.seq (.reg [] [] [.K 4 (.mv (.const (.bool false)))]) (.ret)) (.skip))) (.seq (.seq (.reg [] [] [.M 11 0, .K 12 (.len (.tmp 11)), .K 13 (.mv (cI 0))]) (.block 0 16793632 (.loop b82_0))) (.seq (.reg [] [] [.K 4 (.mv (.const (.bool true)))]) (.ret))))
theorem is82 : IsF C 82 26 16806963 c82 [.tmp 4] := ⟨⟨Tryd.f82, _, C_P ▸ Tryd.func82, rfl, rfl, rfl, by kernel_rfl, rfl⟩⟩
def qbE9 (s0 : List Int) (s1 : List Int) (s12 : Int) : Int → Unit → St := fun s13 _ => ⟨[(0, .d (.rd (s0.map intD))), (1, .d (.rd (s1.map intD))), (4, PB false), (12, PI s12), (13, PI s13)], []⟩
def qhY9 (s0 : List Int) (s1 : List Int) (s12 : Int) : (Bool ⊕ Int) → AExit × St → Prop
  | .inl r, q => XV C [.tmp 4] (PB r) q
  | .inr s13, q => ∃ g, q = (.exit 0, qbE9 s0 s1 s12 s13 g)
theorem qhZ9 {s0 : List Int} {s1 : List Int} {s12 : Int} : Sim C 16806963 b82_0 (qcu9 s0 s1 s12) (qbE9 s0 s1 s12) (qhY9 s0 s1 s12) := by
  intro s g r hr
  have ⟨s13, hs0⟩ : ∃ y, y = s := ⟨_, rfl⟩
  subst hs0
  simp only [qcu9] at hr
  rcases iteP hr with ⟨h1, hr⟩ | ⟨h1, hr⟩
  obtain ⟨x1, h2, x2, h3, hr⟩ := bs2 hr
  rcases iteP hr with ⟨h4, hr⟩ | ⟨h4, hr⟩
  obtain rfl := oiA hr
  refine ⟨(), ?_⟩
  rotate_left
  obtain rfl := oiA hr
  refine xv_of ?_
  rotate_left
  obtain rfl := oiA hr
  refine xe_of ⟨(), rfl⟩ ?_
  rotate_left
  all_goals (simp +decide only [go_sem, qbE9, b82_0, *])
theorem qit9 {a0 : List Int} {a1 : List Int} {r : Bool} (hr : qbz9 a0 a1 = some r) : Res C 82 [.rd (a0.map intD), .rd (a1.map intD)] (PB r) := by
  simp only [qbz9] at hr
  rcases iteP hr with ⟨h1, hr⟩ | ⟨h1, hr⟩
  obtain ⟨x3, h2, hr⟩ := bsome hr
  obtain ⟨q2, h2L, h2X⟩ := qhZ9.L (g := ()) h2
  rcases x3 with x4 | x5
  try dsimp only at hr
  obtain ⟨st2, rfl, h2R⟩ := h2X
  simp only [qbE9, go_sem] at h2L
  obtain rfl := oiA hr
  refine run_V is82 (nbA rfl) ?_
  rotate_left
  try dsimp only at hr
  obtain ⟨⟨⟩, rfl⟩ := h2X
  simp only [qbE9, go_sem] at h2L
  obtain rfl := oiA hr
  refine run_V is82 (nbA rfl) ?_
  rotate_left
  obtain rfl := oiA hr
  refine run_V is82 (nbA rfl) ?_
  rotate_left
  all_goals (simp +decide only [go_sem, c82, *])

theorem qiT9 {a0 r : Int} (hr : qdE9 a0 = some r) {h : AHeap} : callP C (Lim C) 106 [.d (.v (.int .u64 a0))] h = some (.d (.v (.int .i64 r)), h) := by
  have e : C.prim 106 = some qcQ9 := rfl
  obtain ⟨h1, h2⟩ := gsome hr
  simp only [callP, e, qcQ9]
  rw [if_pos (of_eq_true h1)]
  rw [← oiA h2]

def c107 : ACode := .seq (.reg [] [] [.K 2 (.mv (.const (.bool false)))]) (.seq (.reg [] [] [.M 3 0, .M 4 0, .T 5 (.bin .neq (.tmp 3) (.tmp 4)), .N 2 5]) (.ret))
theorem is107 : IsF C 107 6 5 c107 [.tmp 2] := ⟨⟨Tryd.f107, _, C_P ▸ Tryd.func107, rfl, rfl, rfl, by kernel_rfl, rfl⟩⟩
theorem qiR9 {a0 : Int} {r : Bool} (hr : qdC9 a0 = some r) : Res C 107 [.v (.int .i64 a0)] (PB r) := by
  simp only [qdC9] at hr
  obtain rfl := oiA hr
  refine run_V is107 (nbA rfl) ?_
  rotate_left
  all_goals (simp +decide only [go_sem, c107, *])
def c85 : ACode := .seq (.reg [] [] [.K 4 (.mv (cI 0))]) (.seq (.reg [] [] [.M 7 0, .T 8 (.call 107 [.tmp 7]), .N 5 8]) (.seq (.reg [] [] [.M 9 1, .T 10 (.call 107 [.tmp 9]), .N 6 10]) (.seq (.seq (.reg [] [] [.N 11 5]) (.cond (.tmp 11) (some 11) (.seq (.seq (.reg [] [] [.N 12 6]) (.cond (.tmp 12) (some 12) (.seq (.reg [] [] [.K 4 (.mv (cI 0))]) (.ret)) (.skip))) (.seq (.reg [] [] [.K 4 (.mv (cI (-1)))]) (.ret))) (.skip))) (.seq (.seq (.reg [] [] [.N 13 6]) (.cond (.tmp 13) (some 13) (.seq (.reg [] [] [.K 4 (.mv (cI 1))]) (.ret)) (.skip))) (.seq (.seq (.reg [] [] [.M 14 0, .M 15 1, .K 16 (.bin .lss (.tmp 14) (.tmp 15))]) (.cond (.tmp 16) (some 16) (.seq (.reg [] [] [.K 4 (.mv (cI (-1)))]) (.ret)) (.skip))) (.seq (.seq (.reg [] [] [.M 17 0, .M 18 1, .K 19 (.bin .gtr (.tmp 17) (.tmp 18))]) (.cond (.tmp 19) (some 19) (.seq (.reg [] [] [.K 4 (.mv (cI 1))]) (.ret)) (.skip))) (.seq (.reg [] [] [.K 4 (.mv (cI 0))]) (.ret))))))))
theorem is85 : IsF C 85 20 604275 c85 [.tmp 4] := ⟨⟨Tryd.f85, _, C_P ▸ Tryd.func85, rfl, rfl, rfl, by kernel_rfl, rfl⟩⟩
theorem qkQ9 {a0 : Int} {a1 : Int} {r : Int} (hr : qeF9 a0 a1 = some r) : Res C 85 [.v (.int .i64 a0), .v (.int .i64 a1)] (PI r) := by
  simp only [qeF9] at hr
  obtain ⟨x1, h1, x2, h2, hr⟩ := bs2 hr
  have h1k := (qiR9 h1).k rfl rfl rfl
  try simp only [go_sem] at h1k
  have h2k := (qiR9 h2).k rfl rfl rfl
  try simp only [go_sem] at h2k
  rcases iteB hr with ⟨h3, hr⟩ | ⟨h3, hr⟩
  rcases iteB hr with ⟨h4, hr⟩ | ⟨h4, hr⟩
  obtain rfl := oiA hr
  refine run_V is85 (nbA rfl) ?_
  rotate_left
  obtain rfl := oiA hr
  refine run_V is85 (nbA rfl) ?_
  rotate_left
  rcases iteB hr with ⟨h5, hr⟩ | ⟨h5, hr⟩
  obtain rfl := oiA hr
  refine run_V is85 (nbA rfl) ?_
  rotate_left
  rcases iteP hr with ⟨h6, hr⟩ | ⟨h6, hr⟩
  obtain rfl := oiA hr
  refine run_V is85 (nbA rfl) ?_
  rotate_left
  rcases iteP hr with ⟨h7, hr⟩ | ⟨h7, hr⟩
  obtain rfl := oiA hr
  refine run_V is85 (nbA rfl) ?_
  rotate_left
  obtain rfl := oiA hr
  refine run_V is85 (nbA rfl) ?_
  rotate_left
  all_goals (simp +decide only [go_sem, c85, *])
def c84 : ACode := .seq (.reg [] [] [.K 2 (.box (.tmp 0)), .K 3 (.box (.tmp 1)), .K 4 (.mv (cI 0))]) (.seq (.reg [] [] [.T 5 (.fa 0 (.tmp 2)), .T 6 (.load none (.tmp 5)), .T 7 (.fa 0 (.tmp 3)), .T 8 (.load none (.tmp 7)), .T 9 (.call 85 [.tmp 6, .tmp 8]), .N 4 9]) (.ret))
theorem is84 : IsF C 84 10 31 c84 [.tmp 4] := ⟨⟨Tryd.f84, _, C_P ▸ Tryd.func84, rfl, rfl, rfl, by kernel_rfl, rfl⟩⟩
theorem qv9 {a0 : Bind} {a1 : Bind} {r : Int} (hr : qj9 a0 a1 = some r) : Res C 84 [.ag (qc9 a0), .ag (qc9 a1)] (PI r) := by
  simp only [qj9] at hr
  obtain ⟨x1, h1, hr⟩ := bsome hr
  have h1k := (qkQ9 h1).k rfl rfl rfl
  try simp only [go_sem] at h1k
  obtain rfl := oiA hr
  refine run_V is84 (nbA rfl) ?_
  rotate_left
  all_goals (simp +decide only [go_sem, c84, *])
def qok9 : ACode := .seq (.seq (.reg [] [] [.M 18 9, .M 19 1, .T 20 (.bin .gtr (.tmp 18) (.tmp 19)), .M 21 20, .MG 22 21 true 3, .MG 23 21 true 0, .MG 24 21 true 9, ⟨some (25, false), .ix 2 (.tmp 23) (.tmp 24), some (21, true), true, false⟩, ⟨some (26, false), .load (some 2) (.tmp 25), some (21, true), true, false⟩, .MG 27 21 true 0, .MG 28 21 true 9, .TG 29 21 true (.bin .sub (.tmp 28) (cI 1)), ⟨some (30, false), .ix 2 (.tmp 27) (.tmp 29), some (21, true), true, false⟩, ⟨some (31, false), .load (some 2) (.tmp 30), some (21, true), true, false⟩, ⟨some (32, false), .callV (.tmp 22) [.tmp 26, .tmp 31], some (21, true), true, false⟩, .TG 33 21 true (.bin .lss (.tmp 32) (cI 0)), .K 34 (.pick (.tmp 21) (.tmp 33) (.const (.bool false)))]) (.cond (.tmp 34) (some 34) (.skip) (.exit 2))) (.seq (.block 3 17179869184 (.reg [] [] [.M 37 0, .M 38 9, .M 39 0, .M 40 9, .T 41 (.bin .sub (.tmp 40) (cI 1)), .M 42 0, .M 43 9, .T 44 (.bin .sub (.tmp 43) (cI 1)), ⟨some (45, false), .ix 2 (.tmp 42) (.tmp 44), none, true, false⟩, ⟨some (46, false), .load (some 2) (.tmp 45), none, true, false⟩, .M 47 0, .M 48 9, ⟨some (49, false), .ix 2 (.tmp 47) (.tmp 48), none, true, false⟩, ⟨some (50, false), .load (some 2) (.tmp 49), none, true, false⟩, ⟨some (51, false), .ix 2 (.tmp 37) (.tmp 38), none, true, false⟩, ⟨none, .store 2 (.tmp 51) (.tmp 46), none, false, false⟩, ⟨some (52, false), .ix 2 (.tmp 39) (.tmp 41), none, true, false⟩, ⟨none, .store 2 (.tmp 52) (.tmp 50), none, false, false⟩])) (.reg [] [] [.M 35 9, .T 36 (.bin .sub (.tmp 35) (cI 1)), .N 9 36]))
def qpq9 : ACode := .seq (.seq (.reg [] [] [.M 12 8, .M 13 2, .K 14 (.bin .lss (.tmp 12) (.tmp 13))]) (.cond (.tmp 14) (some 14) (.skip) (.exit 0))) (.seq (.block 1 17179886080 (.seq (.reg [] [] [.M 17 8, .N 9 17]) (.block 2 17179886080 (.loop qok9)))) (.reg [] [] [.M 15 8, .T 16 (.bin .add (.tmp 15) (cI 1)), .N 8 16]))
def c122 : ACode := .seq (.reg [] [] [.M 10 1, .T 11 (.bin .add (.tmp 10) (cI 1)), .N 8 11]) (.block 0 17179886080 (.loop qpq9))
theorem is122 : IsF C 122 53 17179886351 c122 [] := ⟨⟨Tryd.f122, _, C_P ▸ Tryd.func122, rfl, rfl, rfl, by kernel_rfl, rfl⟩⟩
def qdd9 (s1 : Int) (s2 : Int) (s8 : Int) (g1 : AHeap) (v0 : Nat) (n0 : Nat) (g2 : AHeap) : Int × (List Bind) → AHeap → St := fun (s9, o0) gt => ⟨[(0, .ref g1.length v0 0 n0), (1, PI s1), (2, PI s2), (3, .fn 84 []), (8, PI s8), (9, PI s9)], (g1 ++ (.row false v0 2 (rowP qc9 o0) :: (g2 ++ gt)))⟩
def qev9 (s1 : Int) (s2 : Int) (s8 : Int) (g1 : AHeap) (v0 : Nat) (n0 : Nat) (g2 : AHeap) : Int × (List Bind) → Prop := fun (s9, o0) => o0.length = n0
def qhQ9 (s1 : Int) (s2 : Int) (s8 : Int) (g1 : AHeap) (v0 : Nat) (n0 : Nat) (g2 : AHeap) : ((List Bind)) → AExit × St → Prop := fun o0 q => ∃ d9 : PV, ∃ h1 : AHeap, q = (.exit 2, ⟨[(0, .ref g1.length v0 0 n0), (1, PI s1), (2, PI s2), (3, .fn 84 []), (8, PI s8), (9, d9)], (g1 ++ (.row false v0 2 (rowP qc9 o0) :: (g2 ++ h1)))⟩) ∧ o0.length = n0
theorem qhT9 {s1 : Int} {s2 : Int} {s8 : Int} {g1 : AHeap} {v0 : Nat} {n0 : Nat} {g2 : AHeap} : SimI C 17179886351 qok9 (qev9 s1 s2 s8 g1 v0 n0 g2) (qV9 s1 s2 s8) (qdd9 s1 s2 s8 g1 v0 n0 g2) (qhQ9 s1 s2 s8 g1 v0 n0 g2) := by
  intro s g r hI hr
  obtain ⟨s9, o0⟩ := s
  have ⟨gt, hg0⟩ : ∃ y, y = g := ⟨_, rfl⟩
  subst hg0
  simp only [qev9] at hI
  have hI0 := hI
  simp only [qV9] at hr
  rcases iteP hr with ⟨h1, hr⟩ | ⟨h1, hr⟩
  obtain ⟨x1, h2, x2, h3, x3, h4, hr⟩ := bs3 hr
  have h2a := eq_true (qa9 h2).1
  have h2b : (s9 < (n0 : Int)) = True := eq_true (by have hb : s9 < (o0.length : Int) := (qa9 h2).2.1; omega)
  have h2c := (qa9 h2).2.2
  have h3a := eq_true (qa9 h3).1
  have h3b : ((w64 (s9 - 1)) < (n0 : Int)) = True := eq_true (by have hb : (w64 (s9 - 1)) < (o0.length : Int) := (qa9 h3).2.1; omega)
  have h3c := (qa9 h3).2.2
  have h4k := fun h => (qv9 h4).o rfl rfl rfl (h := h) (args := [.ag [PI x1.Var, .d (.rd (x1.T.map intD))], .ag [PI x2.Var, .d (.rd (x2.T.map intD))]]) rfl
  try simp only [go_sem] at h4k
  rcases iteP hr with ⟨h5, hr⟩ | ⟨h5, hr⟩
  obtain ⟨x4, h6, hr⟩ := bsome hr
  have h6a := eq_true (qa9 h6).1
  have h6b : ((w64 (s9 - 1)) < (n0 : Int)) = True := eq_true (by have hb : (w64 (s9 - 1)) < ((o0.set (s9).toNat x2).length : Int) := (qa9 h6).2.1; simp only [llA, lrA] at hb; omega)
  have h6c := (qa9 h6).2.2
  obtain rfl := oiA hr
  refine ⟨⟨gt, ?_⟩, (show ((o0.set (s9).toNat x2).set (w64 (s9 - 1)).toNat x1).length = n0 by first | assumption | (simp only [llA, lrA]; first | done | assumption | omega) | omega)⟩
  rotate_left
  obtain rfl := oiA hr
  refine xe_of ⟨PI s9, gt, rfl, (show o0.length = n0 by first | assumption | (simp only [llA, lrA]; first | done | assumption | omega) | omega)⟩ ?_
  rotate_left
  obtain rfl := oiA hr
  refine xe_of ⟨PI s9, gt, rfl, (show o0.length = n0 by first | assumption | (simp only [llA, lrA]; first | done | assumption | omega) | omega)⟩ ?_
  rotate_left
  all_goals (simp +decide only [go_sem, qdd9, qok9, *])
def qcg9 (s1 : Int) (s2 : Int) (g1 : AHeap) (v0 : Nat) (n0 : Nat) (g2 : AHeap) : Int × (List Bind) → AHeap → St := fun (s8, o0) gt => ⟨[(0, .ref g1.length v0 0 n0), (1, PI s1), (2, PI s2), (3, .fn 84 []), (8, PI s8)], (g1 ++ (.row false v0 2 (rowP qc9 o0) :: (g2 ++ gt)))⟩
def qex9 (s1 : Int) (s2 : Int) (g1 : AHeap) (v0 : Nat) (n0 : Nat) (g2 : AHeap) : Int × (List Bind) → Prop := fun (s8, o0) => o0.length = n0
def qhX9 (s1 : Int) (s2 : Int) (g1 : AHeap) (v0 : Nat) (n0 : Nat) (g2 : AHeap) : (Int × (List Bind)) → AExit × St → Prop := fun (s8, o0) q => ∃ g, q = (.exit 0, qcg9 s1 s2 g1 v0 n0 g2 (s8, o0) g) ∧ o0.length = n0
theorem qhP9 {s1 : Int} {s2 : Int} {g1 : AHeap} {v0 : Nat} {n0 : Nat} {g2 : AHeap} : SimI C 17179886351 qpq9 (qex9 s1 s2 g1 v0 n0 g2) (qO9 s1 s2) (qcg9 s1 s2 g1 v0 n0 g2) (qhX9 s1 s2 g1 v0 n0 g2) := by
  intro s g r hI hr
  obtain ⟨s8, o0⟩ := s
  have ⟨gt, hg0⟩ : ∃ y, y = g := ⟨_, rfl⟩
  subst hg0
  simp only [qex9] at hI
  have hI0 := hI
  simp only [qO9] at hr
  rcases iteP hr with ⟨h1, hr⟩ | ⟨h1, hr⟩
  obtain ⟨x5, h2, hr⟩ := bsome hr
  obtain ⟨q2, h2L, h2X⟩ := (qhT9 (g1 := g1) (v0 := v0) (n0 := n0) (g2 := (g2 ++ gt))).L (g := []) h2 (show o0.length = n0 by first | assumption | (simp only [llA, lrA]; first | done | assumption | omega) | omega)
  have ⟨x6, hq2⟩ : ∃ y, y = x5 := ⟨_, rfl⟩
  subst hq2
  try dsimp only at hr
  obtain ⟨z7, z8, rfl, h2l0⟩ := h2X
  simp only [qdd9, go_sem] at h2L
  try simp only [hI0] at h2L
  obtain rfl := oiA hr
  refine ⟨⟨(gt ++ z8), ?_⟩, (show x6.length = n0 by first | assumption | (simp only [llA, lrA]; first | done | assumption | omega) | omega)⟩
  rotate_left
  obtain rfl := oiA hr
  refine xe_of ⟨gt, rfl, (show o0.length = n0 by first | assumption | (simp only [llA, lrA]; first | done | assumption | omega) | omega)⟩ ?_
  rotate_left
  all_goals (simp +decide only [go_sem, qcg9, qpq9, *])
theorem qii9 {s1 : Int} {s2 : Int} {o0 : List Bind} {g1 : AHeap} {v0 : Nat} {n0 : Nat} {g2 : AHeap} (hln0 : o0.length = n0) {r : (List Bind)} (hr : qbO9 s1 s2 o0 = some r) : ∃ hz : AHeap, Lim C 122 [.ref g1.length v0 0 n0, PI s1, PI s2, .fn 84 []] (g1 ++ (.row false v0 2 (rowP qc9 o0) :: g2)) = some (resOf [], (g1 ++ (.row false v0 2 (rowP qc9 r) :: (g2 ++ hz)))) ∧ r.length = n0 := by
  simp only [qbO9] at hr
  obtain ⟨x9, h1, hr⟩ := bsome hr
  obtain ⟨q1, h1L, h1X⟩ := (qhP9 (g1 := g1) (v0 := v0) (n0 := n0) (g2 := g2)).L (g := []) h1 (show o0.length = n0 by first | assumption | (simp only [llA, lrA]; first | done | assumption | omega) | omega)
  obtain ⟨x10, x11⟩ := x9
  try dsimp only at hr
  obtain ⟨z12, rfl, h1l0⟩ := h1X
  simp only [qcg9, go_sem] at h1L
  try simp only [hln0] at h1L
  obtain rfl := oiA hr
  refine ⟨z12, run_L is122 (nbA rfl) ?_, (show x11.length = n0 by first | assumption | (simp only [llA, lrA]; first | done | assumption | omega) | omega)⟩
  rotate_left
  all_goals (simp +decide only [go_sem, c122, *])
def qof9 : ACode := .block 1 288231475663603712 (.seq (.reg [] [] [.M 13 10, .T 14 (.bin .mul (cI 2) (.tmp 13)), .T 15 (.bin .add (.tmp 14) (cI 1)), .N 11 15]) (.seq (.seq (.reg [] [] [.M 16 11, .M 17 2, .K 18 (.bin .geq (.tmp 16) (.tmp 17))]) (.cond (.tmp 18) (some 18) (.exit 0) (.skip))) (.seq (.seq (.reg [] [] [.M 19 11, .T 20 (.bin .add (.tmp 19) (cI 1)), .M 21 2, .T 22 (.bin .lss (.tmp 20) (.tmp 21)), .M 23 22, .MG 24 23 true 4, .MG 25 23 true 0, .MG 26 23 true 3, .MG 27 23 true 11, .TG 28 23 true (.bin .add (.tmp 26) (.tmp 27)), ⟨some (29, false), .ix 2 (.tmp 25) (.tmp 28), some (23, true), true, false⟩, ⟨some (30, false), .load (some 2) (.tmp 29), some (23, true), true, false⟩, .MG 31 23 true 0, .MG 32 23 true 3, .MG 33 23 true 11, .TG 34 23 true (.bin .add (.tmp 32) (.tmp 33)), .TG 35 23 true (.bin .add (.tmp 34) (cI 1)), ⟨some (36, false), .ix 2 (.tmp 31) (.tmp 35), some (23, true), true, false⟩, ⟨some (37, false), .load (some 2) (.tmp 36), some (23, true), true, false⟩, ⟨some (38, false), .callV (.tmp 24) [.tmp 30, .tmp 37], some (23, true), true, false⟩, .TG 39 23 true (.bin .lss (.tmp 38) (cI 0)), .K 40 (.pick (.tmp 23) (.tmp 39) (.const (.bool false)))]) (.cond (.tmp 40) (some 40) (.reg [] [] [.M 41 11, .T 42 (.bin .add (.tmp 41) (cI 1)), .N 11 42]) (.skip))) (.seq (.seq (.reg [] [] [.M 43 4, .M 44 0, .M 45 3, .M 46 10, .T 47 (.bin .add (.tmp 45) (.tmp 46)), ⟨some (48, false), .ix 2 (.tmp 44) (.tmp 47), none, true, false⟩, ⟨some (49, false), .load (some 2) (.tmp 48), none, true, false⟩, .M 50 0, .M 51 3, .M 52 11, .T 53 (.bin .add (.tmp 51) (.tmp 52)), ⟨some (54, false), .ix 2 (.tmp 50) (.tmp 53), none, true, false⟩, ⟨some (55, false), .load (some 2) (.tmp 54), none, true, false⟩, ⟨some (56, false), .callV (.tmp 43) [.tmp 49, .tmp 55], none, true, false⟩, .T 57 (.bin .lss (.tmp 56) (cI 0)), .K 58 (.not (.tmp 57))]) (.cond (.tmp 58) (some 58) (.ret) (.skip))) (.seq (.reg [] [] [.M 59 0, .M 60 3, .M 61 10, .T 62 (.bin .add (.tmp 60) (.tmp 61)), .M 63 0, .M 64 3, .M 65 11, .T 66 (.bin .add (.tmp 64) (.tmp 65)), .M 67 0, .M 68 3, .M 69 11, .T 70 (.bin .add (.tmp 68) (.tmp 69)), ⟨some (71, false), .ix 2 (.tmp 67) (.tmp 70), none, true, false⟩, ⟨some (72, false), .load (some 2) (.tmp 71), none, true, false⟩, .M 73 0, .M 74 3, .M 75 10, .T 76 (.bin .add (.tmp 74) (.tmp 75)), ⟨some (77, false), .ix 2 (.tmp 73) (.tmp 76), none, true, false⟩, ⟨some (78, false), .load (some 2) (.tmp 77), none, true, false⟩, ⟨some (79, false), .ix 2 (.tmp 59) (.tmp 62), none, true, false⟩, ⟨none, .store 2 (.tmp 79) (.tmp 72), none, false, false⟩, ⟨some (80, false), .ix 2 (.tmp 63) (.tmp 66), none, true, false⟩, ⟨none, .store 2 (.tmp 80) (.tmp 78), none, false, false⟩]) (.reg [] [] [.M 81 11, .N 10 81]))))))
def c136 : ACode := .seq (.reg [] [] [.M 12 1, .N 10 12]) (.block 0 288231475663603712 (.loop qof9))
theorem is136 : IsF C 136 82 288231475663604767 c136 [] := ⟨⟨Tryd.f136, _, C_P ▸ Tryd.func136, rfl, rfl, rfl, by kernel_rfl, rfl⟩⟩
def qcY9 (s1 : Int) (s2 : Int) (s3 : Int) (g1 : AHeap) (v0 : Nat) (n0 : Nat) (g2 : AHeap) : Int × (List Bind) → AHeap → St := fun (s10, o0) gt => ⟨[(0, .ref g1.length v0 0 n0), (1, PI s1), (2, PI s2), (3, PI s3), (4, .fn 84 []), (10, PI s10)], (g1 ++ (.row false v0 2 (rowP qc9 o0) :: (g2 ++ gt)))⟩
def qgm9 (s1 : Int) (s2 : Int) (s3 : Int) (g1 : AHeap) (v0 : Nat) (n0 : Nat) (g2 : AHeap) : Int × (List Bind) → Prop := fun (s10, o0) => o0.length = n0
def qjp9 (s1 : Int) (s2 : Int) (s3 : Int) (g1 : AHeap) (v0 : Nat) (n0 : Nat) (g2 : AHeap) : ((Int × (List Bind)) ⊕ ((List Bind))) → AExit × St → Prop
  | .inl (s10, o0), q => ∃ d11 : PV, ∃ h1 : AHeap, q = (.exit 0, ⟨[(0, .ref g1.length v0 0 n0), (1, PI s1), (2, PI s2), (3, PI s3), (4, .fn 84 []), (10, PI s10), (11, d11)], (g1 ++ (.row false v0 2 (rowP qc9 o0) :: (g2 ++ h1)))⟩) ∧ o0.length = n0
  | .inr r, q => XL C [] (fun vs hp => ∃ hz : AHeap, vs = [] ∧ hp = (g1 ++ (.row false v0 2 (rowP qc9 r) :: (g2 ++ hz))) ∧ r.length = n0) q
theorem qjv9 {s1 : Int} {s2 : Int} {s3 : Int} {g1 : AHeap} {v0 : Nat} {n0 : Nat} {g2 : AHeap} : SimI C 288231475663604767 qof9 (qgm9 s1 s2 s3 g1 v0 n0 g2) (qG9 s1 s2 s3) (qcY9 s1 s2 s3 g1 v0 n0 g2) (qjp9 s1 s2 s3 g1 v0 n0 g2) := by
  intro s g r hI hr
  obtain ⟨s10, o0⟩ := s
  have ⟨gt, hg0⟩ : ∃ y, y = g := ⟨_, rfl⟩
  subst hg0
  simp only [qgm9] at hI
  have hI0 := hI
  simp only [qG9] at hr
  rcases iteP hr with ⟨h1, hr⟩ | ⟨h1, hr⟩
  obtain rfl := oiA hr
  refine xe_of ⟨PI (w64 ((w64 (2 * s10)) + 1)), gt, rfl, (show o0.length = n0 by first | assumption | (simp only [llA, lrA]; first | done | assumption | omega) | omega)⟩ ?_
  rotate_left
  rcases iteP hr with ⟨h2, hr⟩ | ⟨h2, hr⟩
  obtain ⟨x1, h3, x2, h4, x3, h5, hr⟩ := bs3 hr
  have h3a := eq_true (qa9 h3).1
  have h3b : ((w64 (s3 + (w64 ((w64 (2 * s10)) + 1)))) < (n0 : Int)) = True := eq_true (by have hb : (w64 (s3 + (w64 ((w64 (2 * s10)) + 1)))) < (o0.length : Int) := (qa9 h3).2.1; omega)
  have h3c := (qa9 h3).2.2
  have h4a := eq_true (qa9 h4).1
  have h4b : ((w64 ((w64 (s3 + (w64 ((w64 (2 * s10)) + 1)))) + 1)) < (n0 : Int)) = True := eq_true (by have hb : (w64 ((w64 (s3 + (w64 ((w64 (2 * s10)) + 1)))) + 1)) < (o0.length : Int) := (qa9 h4).2.1; omega)
  have h4c := (qa9 h4).2.2
  have h5k := fun h => (qv9 h5).o rfl rfl rfl (h := h) (args := [.ag [PI x1.Var, .d (.rd (x1.T.map intD))], .ag [PI x2.Var, .d (.rd (x2.T.map intD))]]) rfl
  try simp only [go_sem] at h5k
  rcases iteP hr with ⟨h6, hr⟩ | ⟨h6, hr⟩
  obtain ⟨x4, h7, x5, h8, x6, h9, hr⟩ := bs3 hr
  have h7a := eq_true (qa9 h7).1
  have h7b : ((w64 (s3 + s10)) < (n0 : Int)) = True := eq_true (by have hb : (w64 (s3 + s10)) < (o0.length : Int) := (qa9 h7).2.1; omega)
  have h7c := (qa9 h7).2.2
  have h8a := eq_true (qa9 h8).1
  have h8b : ((w64 (s3 + (w64 ((w64 ((w64 (2 * s10)) + 1)) + 1)))) < (n0 : Int)) = True := eq_true (by have hb : (w64 (s3 + (w64 ((w64 ((w64 (2 * s10)) + 1)) + 1)))) < (o0.length : Int) := (qa9 h8).2.1; omega)
  have h8c := (qa9 h8).2.2
  have h9k := fun h => (qv9 h9).o rfl rfl rfl (h := h) (args := [.ag [PI x4.Var, .d (.rd (x4.T.map intD))], .ag [PI x5.Var, .d (.rd (x5.T.map intD))]]) rfl
  try simp only [go_sem] at h9k
  rcases iteP hr with ⟨h10, hr⟩ | ⟨h10, hr⟩
  obtain ⟨x7, h11, hr⟩ := bsome hr
  have h11a := eq_true (qa9 h11).1
  have h11b : ((w64 (s3 + (w64 ((w64 ((w64 (2 * s10)) + 1)) + 1)))) < (n0 : Int)) = True := eq_true (by have hb : (w64 (s3 + (w64 ((w64 ((w64 (2 * s10)) + 1)) + 1)))) < ((o0.set (w64 (s3 + s10)).toNat x5).length : Int) := (qa9 h11).2.1; simp only [llA, lrA] at hb; omega)
  have h11c := (qa9 h11).2.2
  obtain rfl := oiA hr
  refine ⟨⟨gt, ?_⟩, (show ((o0.set (w64 (s3 + s10)).toNat x5).set (w64 (s3 + (w64 ((w64 ((w64 (2 * s10)) + 1)) + 1)))).toNat x4).length = n0 by first | assumption | (simp only [llA, lrA]; first | done | assumption | omega) | omega)⟩
  rotate_left
  obtain rfl := oiA hr
  refine xl_of ⟨gt, rfl, rfl, (show o0.length = n0 by first | assumption | (simp only [llA, lrA]; first | done | assumption | omega) | omega)⟩ ?_
  rotate_left
  obtain ⟨x8, h12, x9, h13, hr⟩ := bs2 hr
  have h12a := eq_true (qa9 h12).1
  have h12b : ((w64 (s3 + s10)) < (n0 : Int)) = True := eq_true (by have hb : (w64 (s3 + s10)) < (o0.length : Int) := (qa9 h12).2.1; omega)
  have h12c := (qa9 h12).2.2
  have h13k := fun h => (qv9 h13).o rfl rfl rfl (h := h) (args := [.ag [PI x8.Var, .d (.rd (x8.T.map intD))], .ag [PI x1.Var, .d (.rd (x1.T.map intD))]]) rfl
  try simp only [go_sem] at h13k
  rcases iteP hr with ⟨h14, hr⟩ | ⟨h14, hr⟩
  obtain ⟨x10, h15, hr⟩ := bsome hr
  have h15a := eq_true (qa9 h15).1
  have h15b : ((w64 (s3 + (w64 ((w64 (2 * s10)) + 1)))) < (n0 : Int)) = True := eq_true (by have hb : (w64 (s3 + (w64 ((w64 (2 * s10)) + 1)))) < ((o0.set (w64 (s3 + s10)).toNat x1).length : Int) := (qa9 h15).2.1; simp only [llA, lrA] at hb; omega)
  have h15c := (qa9 h15).2.2
  obtain rfl := oiA hr
  refine ⟨⟨gt, ?_⟩, (show ((o0.set (w64 (s3 + s10)).toNat x1).set (w64 (s3 + (w64 ((w64 (2 * s10)) + 1)))).toNat x8).length = n0 by first | assumption | (simp only [llA, lrA]; first | done | assumption | omega) | omega)⟩
  rotate_left
  obtain rfl := oiA hr
  refine xl_of ⟨gt, rfl, rfl, (show o0.length = n0 by first | assumption | (simp only [llA, lrA]; first | done | assumption | omega) | omega)⟩ ?_
  rotate_left
  obtain ⟨x11, h16, x12, h17, x13, h18, hr⟩ := bs3 hr
  have h16a := eq_true (qa9 h16).1
  have h16b : ((w64 (s3 + s10)) < (n0 : Int)) = True := eq_true (by have hb : (w64 (s3 + s10)) < (o0.length : Int) := (qa9 h16).2.1; omega)
  have h16c := (qa9 h16).2.2
  have h17a := eq_true (qa9 h17).1
  have h17b : ((w64 (s3 + (w64 ((w64 (2 * s10)) + 1)))) < (n0 : Int)) = True := eq_true (by have hb : (w64 (s3 + (w64 ((w64 (2 * s10)) + 1)))) < (o0.length : Int) := (qa9 h17).2.1; omega)
  have h17c := (qa9 h17).2.2
  have h18k := fun h => (qv9 h18).o rfl rfl rfl (h := h) (args := [.ag [PI x11.Var, .d (.rd (x11.T.map intD))], .ag [PI x12.Var, .d (.rd (x12.T.map intD))]]) rfl
  try simp only [go_sem] at h18k
  rcases iteP hr with ⟨h19, hr⟩ | ⟨h19, hr⟩
  obtain ⟨x14, h20, hr⟩ := bsome hr
  have h20a := eq_true (qa9 h20).1
  have h20b : ((w64 (s3 + (w64 ((w64 (2 * s10)) + 1)))) < (n0 : Int)) = True := eq_true (by have hb : (w64 (s3 + (w64 ((w64 (2 * s10)) + 1)))) < ((o0.set (w64 (s3 + s10)).toNat x12).length : Int) := (qa9 h20).2.1; simp only [llA, lrA] at hb; omega)
  have h20c := (qa9 h20).2.2
  obtain rfl := oiA hr
  refine ⟨⟨gt, ?_⟩, (show ((o0.set (w64 (s3 + s10)).toNat x12).set (w64 (s3 + (w64 ((w64 (2 * s10)) + 1)))).toNat x11).length = n0 by first | assumption | (simp only [llA, lrA]; first | done | assumption | omega) | omega)⟩
  rotate_left
  obtain rfl := oiA hr
  refine xl_of ⟨gt, rfl, rfl, (show o0.length = n0 by first | assumption | (simp only [llA, lrA]; first | done | assumption | omega) | omega)⟩ ?_
  rotate_left
  all_goals (simp +decide only [go_sem, qcY9, qof9, *])
theorem qgx9 {s1 : Int} {s2 : Int} {s3 : Int} {o0 : List Bind} {g1 : AHeap} {v0 : Nat} {n0 : Nat} {g2 : AHeap} (hln0 : o0.length = n0) {r : (List Bind)} (hr : qbL9 s1 s2 s3 o0 = some r) : ∃ hz : AHeap, Lim C 136 [.ref g1.length v0 0 n0, PI s1, PI s2, PI s3, .fn 84 []] (g1 ++ (.row false v0 2 (rowP qc9 o0) :: g2)) = some (resOf [], (g1 ++ (.row false v0 2 (rowP qc9 r) :: (g2 ++ hz)))) ∧ r.length = n0 := by
  simp only [qbL9] at hr
  obtain ⟨x15, h1, hr⟩ := bsome hr
  obtain ⟨q1, h1L, h1X⟩ := (qjv9 (g1 := g1) (v0 := v0) (n0 := n0) (g2 := g2)).L (g := []) h1 (show o0.length = n0 by first | assumption | (simp only [llA, lrA]; first | done | assumption | omega) | omega)
  rcases x15 with ⟨x16, x17⟩ | x20
  try dsimp only at hr
  obtain ⟨z18, z19, rfl, h1l0⟩ := h1X
  simp only [qcY9, go_sem] at h1L
  try simp only [hln0] at h1L
  obtain rfl := oiA hr
  refine ⟨z19, run_L is136 (nbA rfl) ?_, (show x17.length = n0 by first | assumption | (simp only [llA, lrA]; first | done | assumption | omega) | omega)⟩
  rotate_left
  try dsimp only at hr
  obtain ⟨st1, _, _, rfl, h1R, y1, rfl, rfl, h1f0⟩ := h1X
  simp only [qcY9, go_sem] at h1L
  try simp only [hln0] at h1L
  obtain rfl := oiA hr
  refine ⟨y1, run_L is136 (nbA rfl) ?_, h1f0⟩
  rotate_left
  all_goals (simp +decide only [go_sem, c136, *])
def qoq9 : ACode := .seq (.seq (.reg [] [] [.M 32 12, .K 33 (.bin .geq (.tmp 32) (cI 0))]) (.cond (.tmp 33) (some 33) (.skip) (.exit 2))) (.seq (.block 3 8589934592 (.seq (.reg [] [] [.M 36 0, .M 37 8, .M 38 0, .M 39 8, .M 40 12, .T 41 (.bin .add (.tmp 39) (.tmp 40)), .M 42 0, .M 43 8, .M 44 12, .T 45 (.bin .add (.tmp 43) (.tmp 44)), ⟨some (46, false), .ix 2 (.tmp 42) (.tmp 45), none, true, false⟩, ⟨some (47, false), .load (some 2) (.tmp 46), none, true, false⟩, .M 48 0, .M 49 8, ⟨some (50, false), .ix 2 (.tmp 48) (.tmp 49), none, true, false⟩, ⟨some (51, false), .load (some 2) (.tmp 50), none, true, false⟩, ⟨some (52, false), .ix 2 (.tmp 36) (.tmp 37), none, true, false⟩, ⟨none, .store 2 (.tmp 52) (.tmp 47), none, false, false⟩, ⟨some (53, false), .ix 2 (.tmp 38) (.tmp 41), none, true, false⟩, ⟨none, .store 2 (.tmp 53) (.tmp 51), none, false, false⟩]) (.reg [] [] [.M 54 0, .M 55 9, .M 56 12, .M 57 8, .M 58 3, .T 59 (.call 136 [.tmp 54, .tmp 55, .tmp 56, .tmp 57, .tmp 58])]))) (.reg [] [] [.M 34 12, .T 35 (.bin .sub (.tmp 34) (cI 1)), .N 12 35]))
def qnW9 : ACode := .seq (.seq (.reg [] [] [.M 20 11, .K 21 (.bin .geq (.tmp 20) (cI 0))]) (.cond (.tmp 21) (some 21) (.skip) (.exit 0))) (.seq (.block 1 2097152 (.reg [] [] [.M 24 0, .M 25 11, .M 26 10, .M 27 8, .M 28 3, .T 29 (.call 136 [.tmp 24, .tmp 25, .tmp 26, .tmp 27, .tmp 28])])) (.reg [] [] [.M 22 11, .T 23 (.bin .sub (.tmp 22) (cI 1)), .N 11 23]))
def c123 : ACode := .seq (.reg [] [] [.M 13 1, .N 8 13]) (.seq (.reg [] [] [.K 9 (.mv (cI 0))]) (.seq (.reg [] [] [.M 14 2, .M 15 1, .T 16 (.bin .sub (.tmp 14) (.tmp 15)), .N 10 16]) (.seq (.seq (.reg [] [] [.M 17 10, .T 18 (.bin .sub (.tmp 17) (cI 1)), .T 19 (.binM .quo (.tmp 18) (cI 2)), .N 11 19]) (.block 0 2097152 (.loop qnW9))) (.seq (.reg [] [] [.M 30 10, .T 31 (.bin .sub (.tmp 30) (cI 1)), .N 12 31]) (.block 2 8589934592 (.loop qoq9))))))
theorem is123 : IsF C 123 60 8592039695 c123 [] := ⟨⟨Tryd.f123, _, C_P ▸ Tryd.func123, rfl, rfl, rfl, by kernel_rfl, rfl⟩⟩
def qcX9 (s1 : Int) (s2 : Int) (s8 : Int) (s10 : Int) (s11 : Int) (g1 : AHeap) (v0 : Nat) (n0 : Nat) (g2 : AHeap) : Int × (List Bind) → AHeap → St := fun (s12, o0) gt => ⟨[(0, .ref g1.length v0 0 n0), (1, PI s1), (2, PI s2), (3, .fn 84 []), (8, PI s8), (9, PI 0), (10, PI s10), (11, PI s11), (12, PI s12)], (g1 ++ (.row false v0 2 (rowP qc9 o0) :: (g2 ++ gt)))⟩
def qgi9 (s1 : Int) (s2 : Int) (s8 : Int) (s10 : Int) (s11 : Int) (g1 : AHeap) (v0 : Nat) (n0 : Nat) (g2 : AHeap) : Int × (List Bind) → Prop := fun (s12, o0) => o0.length = n0
def qjw9 (s1 : Int) (s2 : Int) (s8 : Int) (s10 : Int) (s11 : Int) (g1 : AHeap) (v0 : Nat) (n0 : Nat) (g2 : AHeap) : (Int × (List Bind)) → AExit × St → Prop := fun (s12, o0) q => ∃ g, q = (.exit 2, qcX9 s1 s2 s8 s10 s11 g1 v0 n0 g2 (s12, o0) g) ∧ o0.length = n0
theorem qjA9 {s1 : Int} {s2 : Int} {s8 : Int} {s10 : Int} {s11 : Int} {g1 : AHeap} {v0 : Nat} {n0 : Nat} {g2 : AHeap} : SimI C 8592039695 qoq9 (qgi9 s1 s2 s8 s10 s11 g1 v0 n0 g2) (qbo9 s1 s2 s8 s10 s11) (qcX9 s1 s2 s8 s10 s11 g1 v0 n0 g2) (qjw9 s1 s2 s8 s10 s11 g1 v0 n0 g2) := by
  intro s g r hI hr
  obtain ⟨s12, o0⟩ := s
  have ⟨gt, hg0⟩ : ∃ y, y = g := ⟨_, rfl⟩
  subst hg0
  simp only [qgi9] at hI
  have hI0 := hI
  simp only [qbo9] at hr
  rcases iteP hr with ⟨h1, hr⟩ | ⟨h1, hr⟩
  obtain ⟨x8, h2, x9, h3, x10, h4, x11, h5, hr⟩ := bs4 hr
  have h2a := eq_true (qa9 h2).1
  have h2b : ((w64 (s8 + s12)) < (n0 : Int)) = True := eq_true (by have hb : (w64 (s8 + s12)) < (o0.length : Int) := (qa9 h2).2.1; omega)
  have h2c := (qa9 h2).2.2
  have h3a := eq_true (qa9 h3).1
  have h3b : (s8 < (n0 : Int)) = True := eq_true (by have hb : s8 < (o0.length : Int) := (qa9 h3).2.1; omega)
  have h3c := (qa9 h3).2.2
  have h4a := eq_true (qa9 h4).1
  have h4b : ((w64 (s8 + s12)) < (n0 : Int)) = True := eq_true (by have hb : (w64 (s8 + s12)) < ((o0.set (s8).toNat x8).length : Int) := (qa9 h4).2.1; simp only [llA, lrA] at hb; omega)
  have h4c := (qa9 h4).2.2
  obtain ⟨z12, h5k, h5l0⟩ := qgx9 (g1 := g1) (v0 := v0) (n0 := n0) (g2 := (g2 ++ gt)) (show ((o0.set (s8).toNat x8).set (w64 (s8 + s12)).toNat x9).length = n0 by first | assumption | (simp only [llA, lrA]; first | done | assumption | omega) | omega) h5
  replace h5k := qi9 rfl rfl rfl h5k
  try simp only [go_sem] at h5k
  obtain rfl := oiA hr
  refine ⟨⟨(gt ++ z12), ?_⟩, (show x11.length = n0 by first | assumption | (simp only [llA, lrA]; first | done | assumption | omega) | omega)⟩
  rotate_left
  obtain rfl := oiA hr
  refine xe_of ⟨gt, rfl, (show o0.length = n0 by first | assumption | (simp only [llA, lrA]; first | done | assumption | omega) | omega)⟩ ?_
  rotate_left
  all_goals (simp +decide only [go_sem, qcX9, qoq9, *])
def qda9 (s1 : Int) (s2 : Int) (s8 : Int) (s10 : Int) (g1 : AHeap) (v0 : Nat) (n0 : Nat) (g2 : AHeap) : Int × (List Bind) → AHeap → St := fun (s11, o0) gt => ⟨[(0, .ref g1.length v0 0 n0), (1, PI s1), (2, PI s2), (3, .fn 84 []), (8, PI s8), (9, PI 0), (10, PI s10), (11, PI s11)], (g1 ++ (.row false v0 2 (rowP qc9 o0) :: (g2 ++ gt)))⟩
def qgg9 (s1 : Int) (s2 : Int) (s8 : Int) (s10 : Int) (g1 : AHeap) (v0 : Nat) (n0 : Nat) (g2 : AHeap) : Int × (List Bind) → Prop := fun (s11, o0) => o0.length = n0
def qjr9 (s1 : Int) (s2 : Int) (s8 : Int) (s10 : Int) (g1 : AHeap) (v0 : Nat) (n0 : Nat) (g2 : AHeap) : (Int × (List Bind)) → AExit × St → Prop := fun (s11, o0) q => ∃ g, q = (.exit 0, qda9 s1 s2 s8 s10 g1 v0 n0 g2 (s11, o0) g) ∧ o0.length = n0
theorem qjs9 {s1 : Int} {s2 : Int} {s8 : Int} {s10 : Int} {g1 : AHeap} {v0 : Nat} {n0 : Nat} {g2 : AHeap} : SimI C 8592039695 qnW9 (qgg9 s1 s2 s8 s10 g1 v0 n0 g2) (qbp9 s1 s2 s8 s10) (qda9 s1 s2 s8 s10 g1 v0 n0 g2) (qjr9 s1 s2 s8 s10 g1 v0 n0 g2) := by
  intro s g r hI hr
  obtain ⟨s11, o0⟩ := s
  have ⟨gt, hg0⟩ : ∃ y, y = g := ⟨_, rfl⟩
  subst hg0
  simp only [qgg9] at hI
  have hI0 := hI
  simp only [qbp9] at hr
  rcases iteP hr with ⟨h1, hr⟩ | ⟨h1, hr⟩
  obtain ⟨x2, h2, hr⟩ := bsome hr
  obtain ⟨z3, h2k, h2l0⟩ := qgx9 (g1 := g1) (v0 := v0) (n0 := n0) (g2 := (g2 ++ gt)) (show o0.length = n0 by first | assumption | (simp only [llA, lrA]; first | done | assumption | omega) | omega) h2
  replace h2k := qi9 rfl rfl rfl h2k
  try simp only [go_sem] at h2k
  obtain rfl := oiA hr
  refine ⟨⟨(gt ++ z3), ?_⟩, (show x2.length = n0 by first | assumption | (simp only [llA, lrA]; first | done | assumption | omega) | omega)⟩
  rotate_left
  obtain rfl := oiA hr
  refine xe_of ⟨gt, rfl, (show o0.length = n0 by first | assumption | (simp only [llA, lrA]; first | done | assumption | omega) | omega)⟩ ?_
  rotate_left
  all_goals (simp +decide only [go_sem, qda9, qnW9, *])
theorem qjW9 {s1 : Int} {s2 : Int} {o0 : List Bind} {g1 : AHeap} {v0 : Nat} {n0 : Nat} {g2 : AHeap} (hln0 : o0.length = n0) {r : (List Bind)} (hr : qcR9 s1 s2 o0 = some r) : ∃ hz : AHeap, Lim C 123 [.ref g1.length v0 0 n0, PI s1, PI s2, .fn 84 []] (g1 ++ (.row false v0 2 (rowP qc9 o0) :: g2)) = some (resOf [], (g1 ++ (.row false v0 2 (rowP qc9 r) :: (g2 ++ hz)))) ∧ r.length = n0 := by
  simp only [qcR9] at hr
  obtain ⟨x1, h1, hr⟩ := bsome hr
  obtain ⟨x4, h2, hr⟩ := bsome hr
  obtain ⟨q2, h2L, h2X⟩ := (qjs9 (g1 := g1) (v0 := v0) (n0 := n0) (g2 := g2)).L (g := []) h2 (show o0.length = n0 by first | assumption | (simp only [llA, lrA]; first | done | assumption | omega) | omega)
  obtain ⟨x5, x6⟩ := x4
  try dsimp only at hr
  obtain ⟨z7, rfl, h2l0⟩ := h2X
  simp only [qda9, go_sem] at h2L
  try simp only [hln0] at h2L
  obtain ⟨x13, h3, hr⟩ := bsome hr
  obtain ⟨q3, h3L, h3X⟩ := (qjA9 (g1 := g1) (v0 := v0) (n0 := n0) (g2 := (g2 ++ z7))).L (g := []) h3 (show x6.length = n0 by first | assumption | (simp only [llA, lrA]; first | done | assumption | omega) | omega)
  obtain ⟨x14, x15⟩ := x13
  try dsimp only at hr
  obtain ⟨z16, rfl, h3l0⟩ := h3X
  simp only [qcX9, go_sem] at h3L
  try simp only [hln0] at h3L
  obtain rfl := oiA hr
  refine ⟨(z7 ++ z16), run_L is123 (nbA rfl) ?_, (show x15.length = n0 by first | assumption | (simp only [llA, lrA]; first | done | assumption | omega) | omega)⟩
  rotate_left
  all_goals (simp +decide only [go_sem, c123, *])
def c141 : ACode := .seq (.reg [] [] [.K 10 (.mv (cI 0)), .K 11 (.mv (cI 0))]) (.seq (.seq (.reg [] [] [.M 12 4, .M 13 0, .M 14 2, ⟨some (15, false), .ix 2 (.tmp 13) (.tmp 14), none, true, false⟩, ⟨some (16, false), .load (some 2) (.tmp 15), none, true, false⟩, .M 17 0, .M 18 1, ⟨some (19, false), .ix 2 (.tmp 17) (.tmp 18), none, true, false⟩, ⟨some (20, false), .load (some 2) (.tmp 19), none, true, false⟩, ⟨some (21, false), .callV (.tmp 12) [.tmp 16, .tmp 20], none, true, false⟩, .K 22 (.bin .lss (.tmp 21) (cI 0))]) (.cond (.tmp 22) (some 22) (.seq (.reg [] [] [.M 23 3, .T 24 (.nilC (.tmp 23)), .T 25 (.load none (.tmp 24)), .T 26 (.bin .add (.tmp 25) (cI 1)), .T 27 (.nilC (.tmp 23)), ⟨none, .store 1 (.tmp 27) (.tmp 26), none, false, false⟩]) (.seq (.reg [] [] [.M 28 2, .M 29 1, .N 10 28, .N 11 29]) (.ret))) (.skip))) (.seq (.reg [] [] [.M 30 1, .M 31 2, .N 10 30, .N 11 31]) (.ret)))
theorem is141 : IsF C 141 32 4197407 c141 [.tmp 10, .tmp 11] := ⟨⟨Tryd.f141, _, C_P ▸ Tryd.func141, rfl, rfl, rfl, by kernel_rfl, rfl⟩⟩
theorem qeN9 {s1 : Int} {s2 : Int} {o0 : List Bind} {b3_0 : Int} {g1 : AHeap} {v0 : Nat} {n0 : Nat} {g2 : AHeap} {g3 : AHeap} (hln0 : o0.length = n0) {r : Int × Int × Int} (hr : qck9 s1 s2 o0 b3_0 = some r) : Lim C 141 [.ref g1.length v0 0 n0, PI s1, PI s2, .ptr (g1.length + g2.length + 1) 0 0 0, .fn 84 []] (g1 ++ (.row false v0 2 (rowP qc9 o0) :: (g2 ++ (.row false 0 1 [[PI b3_0]] :: g3)))) = some (resOf [PI r.1, PI r.2.1], (g1 ++ (.row false v0 2 (rowP qc9 o0) :: (g2 ++ (.row false 0 1 [[PI r.2.2]] :: g3))))) := by
  simp only [qck9] at hr
  obtain ⟨x1, h1, x2, h2, x3, h3, hr⟩ := bs3 hr
  have h1a := eq_true (qa9 h1).1
  have h1b : (s2 < (n0 : Int)) = True := eq_true (by have hb : s2 < (o0.length : Int) := (qa9 h1).2.1; omega)
  have h1c := (qa9 h1).2.2
  have h2a := eq_true (qa9 h2).1
  have h2b : (s1 < (n0 : Int)) = True := eq_true (by have hb : s1 < (o0.length : Int) := (qa9 h2).2.1; omega)
  have h2c := (qa9 h2).2.2
  have h3k := fun h => (qv9 h3).o rfl rfl rfl (h := h) (args := [.ag [PI x1.Var, .d (.rd (x1.T.map intD))], .ag [PI x2.Var, .d (.rd (x2.T.map intD))]]) rfl
  try simp only [go_sem] at h3k
  rcases iteP hr with ⟨h4, hr⟩ | ⟨h4, hr⟩
  obtain rfl := oiA hr
  refine run_L is141 (nbA rfl) ?_
  rotate_left
  obtain rfl := oiA hr
  refine run_L is141 (nbA rfl) ?_
  rotate_left
  all_goals (simp +decide only [go_sem, c141, *])
def c140 : ACode := .seq (.reg [] [] [.K 12 (.mv (cI 0))]) (.seq (.reg [] [] [.M 14 0, .M 15 1, .M 16 2, .M 17 4, .M 18 5, .T 19 (.call 141 [.tmp 14, .tmp 15, .tmp 16, .tmp 17, .tmp 18]), .M 13 19, .T 20 (.ext (.tmp 13) 0), .T 21 (.ext (.tmp 13) 1), .N 1 20, .N 2 21]) (.seq (.reg [] [] [.M 23 0, .M 24 2, .M 25 3, .M 26 4, .M 27 5, .T 28 (.call 141 [.tmp 23, .tmp 24, .tmp 25, .tmp 26, .tmp 27]), .M 22 28, .T 29 (.ext (.tmp 22) 0), .T 30 (.ext (.tmp 22) 1), .N 2 29, .N 3 30]) (.seq (.reg [] [] [.M 32 0, .M 33 1, .M 34 2, .M 35 4, .M 36 5, .T 37 (.call 141 [.tmp 32, .tmp 33, .tmp 34, .tmp 35, .tmp 36]), .M 31 37, .T 38 (.ext (.tmp 31) 0), .T 39 (.ext (.tmp 31) 1), .N 1 38, .N 2 39]) (.seq (.reg [] [] [.M 40 2, .N 12 40]) (.ret)))))
theorem is140 : IsF C 140 41 4159 c140 [.tmp 12] := ⟨⟨Tryd.f140, _, C_P ▸ Tryd.func140, rfl, rfl, rfl, by kernel_rfl, rfl⟩⟩
theorem qeP9 {s1 : Int} {s2 : Int} {s3 : Int} {o0 : List Bind} {b4_0 : Int} {g1 : AHeap} {v0 : Nat} {n0 : Nat} {g2 : AHeap} {g3 : AHeap} (hln0 : o0.length = n0) {r : Int × Int} (hr : qci9 s1 s2 s3 o0 b4_0 = some r) : Lim C 140 [.ref g1.length v0 0 n0, PI s1, PI s2, PI s3, .ptr (g1.length + g2.length + 1) 0 0 0, .fn 84 []] (g1 ++ (.row false v0 2 (rowP qc9 o0) :: (g2 ++ (.row false 0 1 [[PI b4_0]] :: g3)))) = some (resOf [PI r.1], (g1 ++ (.row false v0 2 (rowP qc9 o0) :: (g2 ++ (.row false 0 1 [[PI r.2]] :: g3))))) := by
  simp only [qci9] at hr
  obtain ⟨x1, h1, x2, h2, x3, h3, hr⟩ := bs3 hr
  have h1k := qi9 rfl rfl rfl (qeN9 (g1 := g1) (v0 := v0) (n0 := n0) (g2 := g2) (g3 := g3) (show o0.length = n0 by first | assumption | (simp only [llA, lrA]; first | done | assumption | omega) | omega) h1)
  try simp only [go_sem] at h1k
  have h2k := qi9 rfl rfl rfl (qeN9 (g1 := g1) (v0 := v0) (n0 := n0) (g2 := g2) (g3 := g3) (show o0.length = n0 by first | assumption | (simp only [llA, lrA]; first | done | assumption | omega) | omega) h2)
  try simp only [go_sem] at h2k
  have h3k := qi9 rfl rfl rfl (qeN9 (g1 := g1) (v0 := v0) (n0 := n0) (g2 := g2) (g3 := g3) (show o0.length = n0 by first | assumption | (simp only [llA, lrA]; first | done | assumption | omega) | omega) h3)
  try simp only [go_sem] at h3k
  obtain rfl := oiA hr
  refine run_L is140 (nbA rfl) ?_
  rotate_left
  all_goals (simp +decide only [go_sem, c140, *])
def c139 : ACode := .seq (.reg [] [] [.K 8 (.mv (cI 0))]) (.seq (.reg [] [] [.M 9 0, .M 10 1, .T 11 (.bin .sub (.tmp 10) (cI 1)), .M 12 1, .M 13 1, .T 14 (.bin .add (.tmp 13) (cI 1)), .M 15 2, .M 16 3, .T 17 (.call 140 [.tmp 9, .tmp 11, .tmp 12, .tmp 14, .tmp 15, .tmp 16]), .N 8 17]) (.ret))
theorem is139 : IsF C 139 18 271 c139 [.tmp 8] := ⟨⟨Tryd.f139, _, C_P ▸ Tryd.func139, rfl, rfl, rfl, by kernel_rfl, rfl⟩⟩
theorem qdf9 {s1 : Int} {o0 : List Bind} {b2_0 : Int} {g1 : AHeap} {v0 : Nat} {n0 : Nat} {g2 : AHeap} {g3 : AHeap} (hln0 : o0.length = n0) {r : Int × Int} (hr : qbf9 s1 o0 b2_0 = some r) : Lim C 139 [.ref g1.length v0 0 n0, PI s1, .ptr (g1.length + g2.length + 1) 0 0 0, .fn 84 []] (g1 ++ (.row false v0 2 (rowP qc9 o0) :: (g2 ++ (.row false 0 1 [[PI b2_0]] :: g3)))) = some (resOf [PI r.1], (g1 ++ (.row false v0 2 (rowP qc9 o0) :: (g2 ++ (.row false 0 1 [[PI r.2]] :: g3))))) := by
  simp only [qbf9] at hr
  obtain ⟨x1, h1, hr⟩ := bsome hr
  have h1k := qi9 rfl rfl rfl (qeP9 (g1 := g1) (v0 := v0) (n0 := n0) (g2 := g2) (g3 := g3) (show o0.length = n0 by first | assumption | (simp only [llA, lrA]; first | done | assumption | omega) | omega) h1)
  try simp only [go_sem] at h1k
  obtain rfl := oiA hr
  refine run_L is139 (nbA rfl) ?_
  rotate_left
  all_goals (simp +decide only [go_sem, c139, *])
def c125 : ACode := .seq (.reg [] [] [.K 8 (.mv (cI 0)), .K 9 (.mv (cI 0))]) (.seq (.reg [] [] [.M 15 2, .M 16 1, .T 17 (.bin .sub (.tmp 15) (.tmp 16)), .N 10 17]) (.seq (.reg [] [] [.K 11 (.alloc [.d (.v (.int .i64 0))] 1)]) (.seq (.reg [] [] [.M 18 1, .M 19 10, .T 20 (.binM .quo (.tmp 19) (cI 4)), .T 21 (.bin .mul (.tmp 20) (cI 1)), .T 22 (.bin .add (.tmp 18) (.tmp 21)), .N 12 22]) (.seq (.reg [] [] [.M 23 1, .M 24 10, .T 25 (.binM .quo (.tmp 24) (cI 4)), .T 26 (.bin .mul (.tmp 25) (cI 2)), .T 27 (.bin .add (.tmp 23) (.tmp 26)), .N 13 27]) (.seq (.reg [] [] [.M 28 1, .M 29 10, .T 30 (.binM .quo (.tmp 29) (cI 4)), .T 31 (.bin .mul (.tmp 30) (cI 3)), .T 32 (.bin .add (.tmp 28) (.tmp 31)), .N 14 32]) (.seq (.seq (.reg [] [] [.M 33 10, .K 34 (.bin .geq (.tmp 33) (cI 8))]) (.cond (.tmp 34) (some 34) (.seq (.seq (.reg [] [] [.M 35 10, .K 36 (.bin .geq (.tmp 35) (cI 50))]) (.cond (.tmp 36) (some 36) (.seq (.reg [] [] [.M 37 0, .M 38 12, .M 39 3, .T 40 (.call 139 [.tmp 37, .tmp 38, .tmp 11, .tmp 39]), .N 12 40]) (.seq (.reg [] [] [.M 41 0, .M 42 13, .M 43 3, .T 44 (.call 139 [.tmp 41, .tmp 42, .tmp 11, .tmp 43]), .N 13 44]) (.reg [] [] [.M 45 0, .M 46 14, .M 47 3, .T 48 (.call 139 [.tmp 45, .tmp 46, .tmp 11, .tmp 47]), .N 14 48]))) (.skip))) (.reg [] [] [.M 49 0, .M 50 12, .M 51 13, .M 52 14, .M 53 3, .T 54 (.call 140 [.tmp 49, .tmp 50, .tmp 51, .tmp 52, .tmp 11, .tmp 53]), .N 13 54])) (.skip))) (.seq (.reg [] [] [.K 55 (.load none (.tmp 11))]) (.block 0 1297036692682702848 (.seq (.reg [] [] [.T 58 (.bin .eql (.tmp 55) (cI 0)), .N 57 58]) (.cond (.tmp 57) (some 57) (.seq (.reg [] [] [.M 59 13, .N 8 59, .K 9 (.mv (cI 1))]) (.ret)) (.seq (.reg [] [] [.T 61 (.bin .eql (.tmp 55) (cI 12)), .N 60 61]) (.cond (.tmp 60) (some 60) (.seq (.reg [] [] [.M 62 13, .N 8 62, .K 9 (.mv (cI 2))]) (.ret)) (.seq (.reg [] [] [.M 56 13, .N 8 56, .K 9 (.mv (cI 0))]) (.ret))))))))))))))
theorem is125 : IsF C 125 63 1333065575601045263 c125 [.tmp 8, .tmp 9] := ⟨⟨Tryd.f125, _, C_P ▸ Tryd.func125, rfl, rfl, rfl, by kernel_rfl, rfl⟩⟩
theorem qfp9 {s1 : Int} {s2 : Int} {o0 : List Bind} {g1 : AHeap} {v0 : Nat} {n0 : Nat} {g2 : AHeap} (hln0 : o0.length = n0) {r : Int × Int} (hr : qbJ9 s1 s2 o0 = some r) : ∃ hz : AHeap, Lim C 125 [.ref g1.length v0 0 n0, PI s1, PI s2, .fn 84 []] (g1 ++ (.row false v0 2 (rowP qc9 o0) :: g2)) = some (resOf [PI r.1, PI r.2], (g1 ++ (.row false v0 2 (rowP qc9 o0) :: (g2 ++ hz)))) := by
  simp only [qbJ9] at hr
  obtain ⟨x1, h1, hr⟩ := bsome hr
  rcases iteP hr with ⟨h2, hr⟩ | ⟨h2, hr⟩
  rcases iteP hr with ⟨h3, hr⟩ | ⟨h3, hr⟩
  obtain ⟨x2, h4, x3, h5, x4, h6, x5, h7, hr⟩ := bs4 hr
  have h4k := qi9 rfl rfl rfl (qdf9 (g1 := g1) (v0 := v0) (n0 := n0) (g2 := g2) (g3 := []) (show o0.length = n0 by first | assumption | (simp only [llA, lrA]; first | done | assumption | omega) | omega) h4)
  try simp only [go_sem] at h4k
  have h5k := qi9 rfl rfl rfl (qdf9 (g1 := g1) (v0 := v0) (n0 := n0) (g2 := g2) (g3 := []) (show o0.length = n0 by first | assumption | (simp only [llA, lrA]; first | done | assumption | omega) | omega) h5)
  try simp only [go_sem] at h5k
  have h6k := qi9 rfl rfl rfl (qdf9 (g1 := g1) (v0 := v0) (n0 := n0) (g2 := g2) (g3 := []) (show o0.length = n0 by first | assumption | (simp only [llA, lrA]; first | done | assumption | omega) | omega) h6)
  try simp only [go_sem] at h6k
  have h7k := qi9 rfl rfl rfl (qeP9 (g1 := g1) (v0 := v0) (n0 := n0) (g2 := g2) (g3 := []) (show o0.length = n0 by first | assumption | (simp only [llA, lrA]; first | done | assumption | omega) | omega) h7)
  try simp only [go_sem] at h7k
  rcases iteP hr with ⟨h8, hr⟩ | ⟨h8, hr⟩
  obtain rfl := oiA hr
  refine ⟨(.row false 0 1 [[PI x5.2]] :: []), run_L is125 (nbA rfl) ?_⟩
  rotate_left
  rcases iteP hr with ⟨h9, hr⟩ | ⟨h9, hr⟩
  obtain rfl := oiA hr
  refine ⟨(.row false 0 1 [[PI x5.2]] :: []), run_L is125 (nbA rfl) ?_⟩
  rotate_left
  obtain rfl := oiA hr
  refine ⟨(.row false 0 1 [[PI x5.2]] :: []), run_L is125 (nbA rfl) ?_⟩
  rotate_left
  obtain ⟨x6, h10, hr⟩ := bsome hr
  have h10k := qi9 rfl rfl rfl (qeP9 (g1 := g1) (v0 := v0) (n0 := n0) (g2 := g2) (g3 := []) (show o0.length = n0 by first | assumption | (simp only [llA, lrA]; first | done | assumption | omega) | omega) h10)
  try simp only [go_sem] at h10k
  rcases iteP hr with ⟨h11, hr⟩ | ⟨h11, hr⟩
  obtain rfl := oiA hr
  refine ⟨(.row false 0 1 [[PI x6.2]] :: []), run_L is125 (nbA rfl) ?_⟩
  rotate_left
  rcases iteP hr with ⟨h12, hr⟩ | ⟨h12, hr⟩
  obtain rfl := oiA hr
  refine ⟨(.row false 0 1 [[PI x6.2]] :: []), run_L is125 (nbA rfl) ?_⟩
  rotate_left
  obtain rfl := oiA hr
  refine ⟨(.row false 0 1 [[PI x6.2]] :: []), run_L is125 (nbA rfl) ?_⟩
  rotate_left
  obtain rfl := oiA hr
  refine ⟨(.row false 0 1 [[PI 0]] :: []), run_L is125 (nbA rfl) ?_⟩
  rotate_left
  all_goals (simp +decide only [go_sem, c125, *])
end Ld

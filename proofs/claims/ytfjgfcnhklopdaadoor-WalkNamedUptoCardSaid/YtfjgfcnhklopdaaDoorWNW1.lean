import Derived.Test.YtfjgfcnhklopdaaDoorWNC
set_option maxHeartbeats 4000000
set_option linter.unusedVariables false
set_option linter.unusedSimpArgs false
namespace Ld
open Go Go.Proofs Go.Abs
set_option maxRecDepth 8000
def c52 : ACode := .seq (.reg [] [] [.K 0 (.alloc [.im true [], .im true []] 2)]) (.seq (.reg [] [] [.T 1 (.build [(0, 1), (1, 1)] [.d (.v (.string ⟨#[]⟩)), .d (.v (.int .i64 0))] [(0, .const (.string { data := #[122, 101, 114, 111] }))]), .T 2 (.build [(0, 1), (1, 1)] [.d (.v (.string ⟨#[]⟩)), .d (.v (.int .i64 0))] [(0, .const (.string { data := #[115] })), (1, .const (.int .i64 1))]), .T 3 (.build [(0, 1), (1, 1)] [.d (.v (.string ⟨#[]⟩)), .d (.v (.int .i64 0))] [(0, .const (.string { data := #[112, 108, 117, 115] })), (1, .const (.int .i64 2))]), ⟨some (4, false), .lit 2 [(0, .tmp 1), (1, .tmp 2), (2, .tmp 3)], none, false, true⟩, ⟨some (5, false), .lit 1 [(0, .const (.int .i64 2)), (1, .const (.int .i64 0)), (2, .const (.int .i64 (-2)))], none, false, true⟩, ⟨some (6, false), .lit 1 [(0, .const (.int .i64 (-2)))], none, false, true⟩, .T 7 (.build [(0, 1), (1, 1)] [.im true [], .im true []] [(0, .tmp 5), (1, .tmp 6)]), ⟨some (8, false), .lit 1 [(0, .const (.int .i64 2)), (1, .const (.int .i64 1)), (2, .const (.int .i64 (-1))), (3, .const (.int .i64 (-2)))], none, false, true⟩, ⟨some (9, false), .lit 1 [(0, .const (.int .i64 1)), (1, .const (.int .i64 2)), (2, .const (.int .i64 (-1))), (3, .const (.int .i64 (-2)))], none, false, true⟩, .T 10 (.build [(0, 1), (1, 1)] [.im true [], .im true []] [(0, .tmp 8), (1, .tmp 9)]), ⟨some (11, false), .lit 2 [(0, .tmp 7), (1, .tmp 10)], none, false, true⟩, .T 12 (.build [(0, 1), (1, 1)] [.im true [], .im true []] [(0, .tmp 4), (1, .tmp 11)]), ⟨none, .store 2 (.tmp 0) (.tmp 12), none, false, false⟩]) (.ret))
theorem is52 : IsF C 52 13 1 c52 [.cell 0 25] := ⟨⟨Tryd.f52, _, C_P ▸ Tryd.func52, rfl, rfl, rfl, by kernel_rfl, rfl⟩⟩
theorem qtH9  {r : System} (hr : qjv9 = some r) : Res C 52 [] (.d (.ag (qg9 r))) := by
  simp only [qjv9] at hr
  obtain rfl := oiA hr
  refine run_V is52 (nbA rfl) ?_
  rotate_left
  all_goals (simp +decide only [go_sem, c52, *])
theorem qhE9 {a0 : ByteArray} {r : Bool} (hr : qbe9 a0 = some r) {h : AHeap} : callP C (Lim C) 114 [.d (.v (.string a0))] h = some (.d (.v (.bool r)), h) := by
  have e : C.prim 114 = some qbl9 := rfl
  simp only [callP, e, qbl9, hr]

def c115 : ACode := .seq (.reg [] [] [.K 2 (.mv (.const (.bool false)))]) (.seq (.reg [] [] [.M 3 0, .T 4 (.bin .leq (.const (.int .i32 97)) (.tmp 3)), .M 5 4, .MG 6 5 true 0, .TG 7 5 true (.bin .leq (.tmp 6) (.const (.int .i32 122))), .T 8 (.pick (.tmp 5) (.tmp 7) (.const (.bool false))), .M 9 8, .MG 10 9 false 0, .TG 11 9 false (.bin .leq (.const (.int .i32 65)) (.tmp 10)), .MG 12 9 false 11, .MG 13 12 true 0, .TG 14 12 true (.bin .leq (.tmp 13) (.const (.int .i32 90))), .TG 15 9 false (.pick (.tmp 12) (.tmp 14) (.const (.bool false))), .T 16 (.pick (.tmp 9) (.const (.bool true)) (.tmp 15)), .M 17 16, .MG 18 17 false 0, .TG 19 17 false (.bin .geq (.tmp 18) (.const (.int .i32 128))), .T 20 (.pick (.tmp 17) (.const (.bool true)) (.tmp 19)), .N 2 20]) (.ret))
theorem is115 : IsF C 115 21 5 c115 [.tmp 2] := ⟨⟨Tryd.f115, _, C_P ▸ Tryd.func115, rfl, rfl, rfl, by kernel_rfl, rfl⟩⟩
theorem qnL9 {a0 : Int} {r : Bool} (hr : qdQ9 a0 = some r) : Res C 115 [.v (.int .i32 a0)] (PB r) := by
  simp only [qdQ9] at hr
  rcases iteP hr with ⟨h1, hr⟩ | ⟨h1, hr⟩
  rcases iteP hr with ⟨h2, hr⟩ | ⟨h2, hr⟩
  obtain rfl := oiA hr
  refine run_V is115 (nbA rfl) ?_
  rotate_left
  rcases iteP hr with ⟨h3, hr⟩ | ⟨h3, hr⟩
  rcases iteP hr with ⟨h4, hr⟩ | ⟨h4, hr⟩
  obtain rfl := oiA hr
  refine run_V is115 (nbA rfl) ?_
  rotate_left
  obtain rfl := oiA hr
  refine run_V is115 (nbA rfl) ?_
  rotate_left
  obtain rfl := oiA hr
  refine run_V is115 (nbA rfl) ?_
  rotate_left
  rcases iteP hr with ⟨h5, hr⟩ | ⟨h5, hr⟩
  rcases iteP hr with ⟨h6, hr⟩ | ⟨h6, hr⟩
  obtain rfl := oiA hr
  refine run_V is115 (nbA rfl) ?_
  rotate_left
  obtain rfl := oiA hr
  refine run_V is115 (nbA rfl) ?_
  rotate_left
  obtain rfl := oiA hr
  refine run_V is115 (nbA rfl) ?_
  rotate_left
  all_goals (simp +decide only [go_sem, c115, *])
def qoD9 : ACode := .seq (.reg [] [] [.K 19 (.nxt (.tmp 18) true), .K 20 (.ext (.tmp 19) 0)]) (.seq (.cond (.tmp 20) (some 20) (.skip) (.exit 0)) (.block 1 77070360 (.seq (.reg [] [] [.T 21 (.ext (.tmp 19) 1), .T 22 (.ext (.tmp 19) 2), .N 3 21, .N 4 22]) (.block 2 77070360 (.seq (.reg [] [] [.M 24 4, .T 25 (.call 115 [.tmp 24]), .N 23 25]) (.cond (.tmp 23) (some 23) (.skip) (.seq (.reg [] [] [.M 27 3, .T 28 (.bin .gtr (.tmp 27) (cI 0)), .M 29 28, .MG 30 29 true 4, .TG 31 29 true (.bin .leq (.const (.int .i32 48)) (.tmp 30)), .MG 32 29 true 31, .MG 33 32 true 4, .TG 34 32 true (.bin .leq (.tmp 33) (.const (.int .i32 57))), .TG 35 29 true (.pick (.tmp 32) (.tmp 34) (.const (.bool false))), .MG 36 29 true 35, .MG 37 36 false 4, .TG 38 36 false (.bin .eql (.tmp 37) (.const (.int .i32 95))), .TG 39 29 true (.pick (.tmp 36) (.const (.bool true)) (.tmp 38)), .MG 40 29 true 39, .MG 41 40 false 4, .TG 42 40 false (.bin .eql (.tmp 41) (.const (.int .i32 39))), .TG 43 29 true (.pick (.tmp 40) (.const (.bool true)) (.tmp 42)), .T 44 (.pick (.tmp 29) (.tmp 43) (.const (.bool false))), .N 26 44]) (.cond (.tmp 26) (some 26) (.skip) (.seq (.reg [] [] [.K 2 (.mv (.const (.bool false)))]) (.ret))))))))))
def c93 : ACode := .seq (.reg [] [] [.K 2 (.mv (.const (.bool false)))]) (.seq (.seq (.reg [] [] [.M 5 0, .T 6 (.bin .eql (.tmp 5) (.const (.string { data := #[] }))), .M 7 6, .MG 8 7 false 0, .TG 9 7 false (.slen (.tmp 8)), .TG 10 7 false (.bin .gtr (.tmp 9) (cI 32)), .T 11 (.pick (.tmp 7) (.const (.bool true)) (.tmp 10)), .M 12 11, .MG 13 12 false 0, .TG 14 12 false (.call 114 [.tmp 13]), .TG 15 12 false (.not (.tmp 14)), .K 16 (.pick (.tmp 12) (.const (.bool true)) (.tmp 15))]) (.cond (.tmp 16) (some 16) (.seq (.reg [] [] [.K 2 (.mv (.const (.bool false)))]) (.ret)) (.skip))) (.seq (.seq (.reg [] [] [.M 17 0, .K 18 (.rng (.tmp 17))]) (.block 0 77070360 (.loop qoD9))) (.seq (.reg [] [] [.K 2 (.mv (.const (.bool true)))]) (.ret))))
theorem is93 : IsF C 93 45 77398045 c93 [.tmp 2] := ⟨⟨Tryd.f93, _, C_P ▸ Tryd.func93, rfl, rfl, rfl, by kernel_rfl, rfl⟩⟩
def qfF9 (s0 : ByteArray) (t18 : ByteArray) : Nat → Unit → St := fun q18 _ => ⟨[(0, .d (.v (.string s0))), (2, PB false), (18, .it 0)], (.siter t18 q18 :: [])⟩
def qnX9 (s0 : ByteArray) (t18 : ByteArray) : (Bool ⊕ Nat) → AExit × St → Prop
  | .inl r, q => XV C [.tmp 2] (PB r) q
  | .inr q18, q => ∃ d19 : PV, q = (.exit 0, ⟨[(0, .d (.v (.string s0))), (2, PB false), (18, .it 0), (19, d19)], (.siter t18 q18 :: [])⟩)
theorem qnP9 {s0 : ByteArray} {t18 : ByteArray} : Sim C 77398045 qoD9 (qbb9 s0 t18) (qfF9 s0 t18) (qnX9 s0 t18) := by
  intro s g r hr
  have ⟨q18, hs0⟩ : ∃ y, y = s := ⟨_, rfl⟩
  subst hs0
  simp only [qbb9] at hr
  rcases iteP hr with ⟨h1, hr⟩ | ⟨h1, hr⟩
  obtain ⟨x2, h2, hr⟩ := bsome hr
  have h2k := (qnL9 h2).k rfl rfl rfl
  try simp only [go_sem] at h2k
  rcases iteB hr with ⟨h3, hr⟩ | ⟨h3, hr⟩
  obtain rfl := oiA hr
  refine ⟨(), ?_⟩
  rotate_left
  rcases iteP hr with ⟨h4, hr⟩ | ⟨h4, hr⟩
  rcases iteP hr with ⟨h5, hr⟩ | ⟨h5, hr⟩
  rcases iteP hr with ⟨h6, hr⟩ | ⟨h6, hr⟩
  obtain rfl := oiA hr
  refine ⟨(), ?_⟩
  rotate_left
  rcases iteP hr with ⟨h7, hr⟩ | ⟨h7, hr⟩
  obtain rfl := oiA hr
  refine ⟨(), ?_⟩
  rotate_left
  rcases iteP hr with ⟨h8, hr⟩ | ⟨h8, hr⟩
  obtain rfl := oiA hr
  refine ⟨(), ?_⟩
  rotate_left
  obtain rfl := oiA hr
  refine xv_of ?_
  rotate_left
  rcases iteP hr with ⟨h9, hr⟩ | ⟨h9, hr⟩
  obtain rfl := oiA hr
  refine ⟨(), ?_⟩
  rotate_left
  rcases iteP hr with ⟨h10, hr⟩ | ⟨h10, hr⟩
  obtain rfl := oiA hr
  refine ⟨(), ?_⟩
  rotate_left
  obtain rfl := oiA hr
  refine xv_of ?_
  rotate_left
  obtain rfl := oiA hr
  refine xv_of ?_
  rotate_left
  obtain rfl := oiA hr
  refine xe_of ⟨.tp [PB false], rfl⟩ ?_
  rotate_left
  all_goals (simp +decide only [go_sem, qfF9, qoD9, *])
theorem qjP9 {a0 : ByteArray} {r : Bool} (hr : qV9 a0 = some r) : Res C 93 [.v (.string a0)] (PB r) := by
  simp only [qV9] at hr
  rcases iteP hr with ⟨h1, hr⟩ | ⟨h1, hr⟩
  obtain rfl := oiA hr
  refine run_V is93 (nbA rfl) ?_
  rotate_left
  rcases iteP hr with ⟨h2, hr⟩ | ⟨h2, hr⟩
  obtain rfl := oiA hr
  refine run_V is93 (nbA rfl) ?_
  rotate_left
  obtain ⟨x1, h3, hr⟩ := bsome hr
  have h3k := fun h => qhE9 (h := h) h3
  try simp only [go_sem] at h3k
  rcases iteB hr with ⟨h4, hr⟩ | ⟨h4, hr⟩
  obtain ⟨x3, h5, hr⟩ := bsome hr
  obtain ⟨q5, h5L, h5X⟩ := qnP9.L (g := ()) h5
  rcases x3 with x4 | x5
  try dsimp only at hr
  obtain ⟨st5, rfl, h5R⟩ := h5X
  simp only [qfF9, go_sem] at h5L
  obtain rfl := oiA hr
  refine run_V is93 (nbA rfl) ?_
  rotate_left
  try dsimp only at hr
  obtain ⟨z6, rfl⟩ := h5X
  simp only [qfF9, go_sem] at h5L
  obtain rfl := oiA hr
  refine run_V is93 (nbA rfl) ?_
  rotate_left
  obtain rfl := oiA hr
  refine run_V is93 (nbA rfl) ?_
  rotate_left
  all_goals (simp +decide only [go_sem, c93, *])
def c95 : ACode := .seq (.reg [] [] [.K 2 (.box (.tmp 0)), .K 3 (.mv (.const (.bool false)))]) (.seq (.reg [] [] [.T 4 (.fa 0 (.tmp 2)), .T 5 (.load none (.tmp 4)), .T 6 (.fa 0 (.tmp 1)), .T 7 (.load none (.tmp 6)), .T 8 (.bin .eql (.tmp 5) (.tmp 7)), .N 3 8]) (.ret))
theorem is95 : IsF C 95 9 15 c95 [.tmp 3] := ⟨⟨Tryd.f95, _, C_P ▸ Tryd.func95, rfl, rfl, rfl, by kernel_rfl, rfl⟩⟩
theorem qjR9 {a0 : Symbol} {a1 : Symbol} {r : Bool} (hr : qem9 a0 a1 = some r) : Res C 95 [.ag (qb9 a0), .bx (qb9 a1)] (PB r) := by
  simp only [qem9] at hr
  obtain rfl := oiA hr
  refine run_V is95 (nbA rfl) ?_
  rotate_left
  all_goals (simp +decide only [go_sem, c95, *])
def qiZ9 : ACode := .seq (.reg [] [] [.K 9 (.bin .lss (.tmp 8) (.tmp 7))]) (.seq (.cond (.tmp 9) (some 9) (.skip) (.exit 0)) (.seq (.block 1 66080 (.seq (.reg [] [] [.M 10 8, .N 5 10]) (.seq (.reg [] [] [.M 11 1, .M 12 0, .M 13 5, .T 14 (.ix 2 (.tmp 12) (.tmp 13)), .T 15 (.load (some 2) (.tmp 14)), .K 16 (.callV (.tmp 11) [.tmp 15])]) (.cond (.tmp 16) (some 16) (.seq (.reg [] [] [.M 17 5, .N 4 17]) (.ret)) (.skip))))) (.reg [] [] [.T 18 (.bin .add (.tmp 8) (cI 1)), .N 8 18])))
def c116 : ACode := .seq (.reg [] [] [.K 4 (.mv (cI 0))]) (.seq (.seq (.reg [] [] [.M 6 0, .K 7 (.len (.tmp 6)), .K 8 (.mv (cI 0))]) (.block 0 66080 (.loop qiZ9))) (.seq (.reg [] [] [.K 4 (.mv (cI (-1)))]) (.ret)))
theorem is116 : IsF C 116 19 66483 c116 [.tmp 4] := ⟨⟨Tryd.f116, _, C_P ▸ Tryd.func116, rfl, rfl, rfl, by kernel_rfl, rfl⟩⟩
def qq9 (s0 : List Symbol) (s1_0 : Symbol) (s7 : Int) : Int → Unit → St := fun s8 _ => ⟨[(0, .d (.rd (s0.map qb9))), (1, .d (.fn 95 [.bx (qb9 s1_0)])), (4, PI 0), (7, PI s7), (8, PI s8)], []⟩
def qcr9 (s0 : List Symbol) (s1_0 : Symbol) (s7 : Int) : (Int ⊕ Int) → AExit × St → Prop
  | .inl r, q => XV C [.tmp 4] (PI r) q
  | .inr s8, q => ∃ g, q = (.exit 0, qq9 s0 s1_0 s7 s8 g)
theorem qco9 {s0 : List Symbol} {s1_0 : Symbol} {s7 : Int} : Sim C 66483 qiZ9 (qk9 s0 s1_0 s7) (qq9 s0 s1_0 s7) (qcr9 s0 s1_0 s7) := by
  intro s g r hr
  have ⟨s8, hs0⟩ : ∃ y, y = s := ⟨_, rfl⟩
  subst hs0
  simp only [qk9] at hr
  rcases iteP hr with ⟨h1, hr⟩ | ⟨h1, hr⟩
  obtain ⟨x1, h2, x2, h3, hr⟩ := bs2 hr
  have h3k := fun h => (qjR9 h3).o rfl rfl rfl (h := h) (args := [.ag [.d (.v (.string x1.Name)), PI x1.Arity], .d (.bx (qb9 s1_0))]) rfl
  try simp only [go_sem] at h3k
  rcases iteB hr with ⟨h4, hr⟩ | ⟨h4, hr⟩
  obtain rfl := oiA hr
  refine xv_of ?_
  rotate_left
  obtain rfl := oiA hr
  refine ⟨(), ?_⟩
  rotate_left
  obtain rfl := oiA hr
  refine xe_of ⟨(), rfl⟩ ?_
  rotate_left
  all_goals (simp +decide only [go_sem, qq9, qiZ9, *])
theorem qcy9 {a0 : List Symbol} {a1_0 : Symbol} {r : Int} (hr : qB9 a0 a1_0 = some r) : Res C 116 [.rd (a0.map qb9), .fn 95 [.bx (qb9 a1_0)]] (PI r) := by
  simp only [qB9] at hr
  obtain ⟨x3, h1, hr⟩ := bsome hr
  obtain ⟨q1, h1L, h1X⟩ := qco9.L (g := ()) h1
  rcases x3 with x4 | x5
  try dsimp only at hr
  obtain ⟨st1, rfl, h1R⟩ := h1X
  simp only [qq9, go_sem] at h1L
  obtain rfl := oiA hr
  refine run_V is116 (nbA rfl) ?_
  rotate_left
  try dsimp only at hr
  obtain ⟨⟨⟩, rfl⟩ := h1X
  simp only [qq9, go_sem] at h1L
  obtain rfl := oiA hr
  refine run_V is116 (nbA rfl) ?_
  rotate_left
  all_goals (simp +decide only [go_sem, c116, *])
def c94 : ACode := .seq (.reg [] [] [.K 4 (.mv (.const (.bool false)))]) (.seq (.reg [] [] [.M 5 0, .M 6 1, .T 7 (.call 116 [.tmp 5, .tmp 6]), .T 8 (.bin .geq (.tmp 7) (cI 0)), .N 4 8]) (.ret))
theorem is94 : IsF C 94 9 19 c94 [.tmp 4] := ⟨⟨Tryd.f94, _, C_P ▸ Tryd.func94, rfl, rfl, rfl, by kernel_rfl, rfl⟩⟩
theorem qbc9 {a0 : List Symbol} {a1_0 : Symbol} {r : Bool} (hr : qj9 a0 a1_0 = some r) : Res C 94 [.rd (a0.map qb9), .fn 95 [.bx (qb9 a1_0)]] (PB r) := by
  simp only [qj9] at hr
  obtain ⟨x1, h1, hr⟩ := bsome hr
  have h1k := (qcy9 h1).k rfl rfl rfl
  try simp only [go_sem] at h1k
  obtain rfl := oiA hr
  refine run_V is94 (nbA rfl) ?_
  rotate_left
  all_goals (simp +decide only [go_sem, c94, *])
def qor9 : ACode := .seq (.reg [] [] [.K 12 (.bin .lss (.tmp 11) (.tmp 10))]) (.seq (.cond (.tmp 12) (some 12) (.skip) (.exit 0)) (.seq (.block 1 18049582882099256 (.seq (.reg [] [] [.M 13 11, .T 14 (.ix 2 (.tmp 9) (.tmp 11)), .T 15 (.load (some 2) (.tmp 14)), .K 4 (.alloc [.d (.v (.string ⟨#[]⟩)), .d (.v (.int .i64 0))] 2), .N 3 13, ⟨none, .store 2 (.tmp 4) (.tmp 15), none, false, false⟩]) (.seq (.reg [] [] [.T 16 (.fa 0 (.tmp 4)), .T 17 (.load none (.tmp 16)), .T 18 (.slen (.tmp 17)), .N 5 18]) (.block 2 18049582882099256 (.seq (.reg [] [] [.T 20 (.fa 0 (.tmp 4)), .T 21 (.load none (.tmp 20)), .T 22 (.call 93 [.tmp 21]), .T 23 (.not (.tmp 22)), .M 24 23, .MG 25 24 true 5, .TG 26 24 true (.bin .eql (.tmp 25) (cI 0)), .MG 27 24 true 26, .TG 28 27 false (.fa 0 (.tmp 4)), .TG 29 27 false (.load none (.tmp 28)), .MG 30 27 false 5, .TG 31 27 false (.bin .sub (.tmp 30) (cI 1)), .TG 32 27 false (.ixS (.tmp 29) (.tmp 31)), .TG 33 27 false (.bin .neq (.tmp 32) (.const (.int .u8 35))), .TG 34 24 true (.pick (.tmp 27) (.const (.bool true)) (.tmp 33)), .MG 35 24 true 34, .TG 36 35 false (.fa 0 (.tmp 4)), .TG 37 35 false (.load none (.tmp 36)), .MG 38 35 false 5, .TG 39 35 false (.bin .sub (.tmp 38) (cI 1)), .TG 40 35 false (.cutS (.tmp 37) none (some (.tmp 39))), .TG 41 35 false (.call 93 [.tmp 40]), .TG 42 35 false (.not (.tmp 41)), .TG 43 24 true (.pick (.tmp 35) (.const (.bool true)) (.tmp 42)), .T 44 (.pick (.tmp 24) (.tmp 43) (.const (.bool false))), .N 19 44]) (.cond (.tmp 19) (some 19) (.seq (.reg [] [] [.K 2 (.mv (cI 34))]) (.ret)) (.seq (.reg [] [] [.T 46 (.fa 1 (.tmp 4)), .T 47 (.load none (.tmp 46)), .T 48 (.bin .lss (.tmp 47) (cI 0)), .M 49 48, .TG 50 49 false (.fa 1 (.tmp 4)), .TG 51 49 false (.load none (.tmp 50)), .TG 52 49 false (.bin .gtr (.tmp 51) (cI 8)), .T 53 (.pick (.tmp 49) (.const (.bool true)) (.tmp 52)), .N 45 53]) (.cond (.tmp 45) (some 45) (.seq (.reg [] [] [.K 2 (.mv (cI 35))]) (.ret)) (.seq (.reg [] [] [.M 55 0, .M 56 3, .T 57 (.cut 2 (.tmp 55) none (some (.tmp 56))), .T 58 (.mkF 95 [.tmp 4]), .T 59 (.call 94 [.tmp 57, .tmp 58]), .N 54 59]) (.cond (.tmp 54) (some 54) (.seq (.reg [] [] [.K 2 (.mv (cI 36))]) (.ret)) (.skip))))))))))) (.reg [] [] [.T 60 (.bin .add (.tmp 11) (cI 1)), .N 11 60])))
def c69 : ACode := .seq (.reg [] [] [.K 2 (.mv (cI 0))]) (.seq (.seq (.reg [] [] [.M 6 0, .T 7 (.len (.tmp 6)), .K 8 (.bin .gtr (.tmp 7) (cI 128))]) (.cond (.tmp 8) (some 8) (.seq (.reg [] [] [.K 2 (.mv (cI 37))]) (.ret)) (.skip))) (.seq (.seq (.reg [] [] [.N 9 0, .K 10 (.len (.tmp 9)), .K 11 (.mv (cI 0))]) (.block 0 18049582882099256 (.loop qor9))) (.seq (.reg [] [] [.K 2 (.mv (cI 0))]) (.ret))))
theorem is69 : IsF C 69 61 18049582882103101 c69 [.tmp 2] := ⟨⟨Tryd.f69, _, C_P ▸ Tryd.func69, rfl, rfl, rfl, by kernel_rfl, rfl⟩⟩
def qdD9 (s0 : List Symbol) (s9 : List Symbol) (s10 : Int) : Int → AHeap → St := fun s11 gt => ⟨[(0, .d (.rd (s0.map qb9))), (2, PI 0), (9, .d (.rd (s9.map qb9))), (10, PI s10), (11, PI s11)], gt⟩
def qld9 (s0 : List Symbol) (s9 : List Symbol) (s10 : Int) : (Int ⊕ Int) → AExit × St → Prop
  | .inl r, q => XV C [.tmp 2] (PI r) q
  | .inr s11, q => ∃ g, q = (.exit 0, qdD9 s0 s9 s10 s11 g)
theorem qlc9 {s0 : List Symbol} {s9 : List Symbol} {s10 : Int} : Sim C 18049582882103101 qor9 (qE9 s0 s9 s10) (qdD9 s0 s9 s10) (qld9 s0 s9 s10) := by
  intro s g r hr
  have ⟨s11, hs0⟩ : ∃ y, y = s := ⟨_, rfl⟩
  subst hs0
  have ⟨gt, hg0⟩ : ∃ y, y = g := ⟨_, rfl⟩
  subst hg0
  simp only [qE9] at hr
  rcases iteP hr with ⟨h1, hr⟩ | ⟨h1, hr⟩
  obtain ⟨x1, h2, x2, h3, hr⟩ := bs2 hr
  have h3k := (qjP9 h3).k rfl rfl rfl
  try simp only [go_sem] at h3k
  rcases iteB hr with ⟨h4, hr⟩ | ⟨h4, hr⟩
  rcases iteP hr with ⟨h5, hr⟩ | ⟨h5, hr⟩
  obtain rfl := oiA hr
  refine xv_of ?_
  rotate_left
  rcases iteP hr with ⟨h6, hr⟩ | ⟨h6, hr⟩
  obtain rfl := oiA hr
  refine xv_of ?_
  rotate_left
  obtain ⟨x3, h7, x4, h8, hr⟩ := bs2 hr
  have h8k := fun h args => (qbc9 h8).o rfl rfl rfl (h := h) (args := args)
  try simp only [go_sem] at h8k
  rcases iteB hr with ⟨h9, hr⟩ | ⟨h9, hr⟩
  obtain rfl := oiA hr
  refine xv_of ?_
  rotate_left
  obtain rfl := oiA hr
  refine ⟨(gt ++ (.row false 0 2 [[.d (.v (.string x1.Name)), PI x1.Arity]] :: [])), ?_⟩
  rotate_left
  rcases iteP hr with ⟨h10, hr⟩ | ⟨h10, hr⟩
  obtain rfl := oiA hr
  refine xv_of ?_
  rotate_left
  obtain ⟨x5, h11, hr⟩ := bsome hr
  rcases iteP hr with ⟨h12, hr⟩ | ⟨h12, hr⟩
  obtain ⟨x6, h13, x7, h14, hr⟩ := bs2 hr
  have h14k := (qjP9 h14).k rfl rfl rfl
  try simp only [go_sem] at h14k
  rcases iteB hr with ⟨h15, hr⟩ | ⟨h15, hr⟩
  rcases iteP hr with ⟨h16, hr⟩ | ⟨h16, hr⟩
  obtain rfl := oiA hr
  refine xv_of ?_
  rotate_left
  rcases iteP hr with ⟨h17, hr⟩ | ⟨h17, hr⟩
  obtain rfl := oiA hr
  refine xv_of ?_
  rotate_left
  obtain ⟨x8, h18, x9, h19, hr⟩ := bs2 hr
  have h19k := fun h args => (qbc9 h19).o rfl rfl rfl (h := h) (args := args)
  try simp only [go_sem] at h19k
  rcases iteB hr with ⟨h20, hr⟩ | ⟨h20, hr⟩
  obtain rfl := oiA hr
  refine xv_of ?_
  rotate_left
  obtain rfl := oiA hr
  refine ⟨(gt ++ (.row false 0 2 [[.d (.v (.string x1.Name)), PI x1.Arity]] :: [])), ?_⟩
  rotate_left
  obtain rfl := oiA hr
  refine xv_of ?_
  rotate_left
  obtain rfl := oiA hr
  refine xv_of ?_
  rotate_left
  obtain rfl := oiA hr
  refine xe_of ⟨gt, rfl⟩ ?_
  rotate_left
  all_goals (simp +decide only [go_sem, qdD9, qor9, *])
theorem qgl9 {a0 : List Symbol} {r : Int} (hr : qr9 a0 = some r) : Res C 69 [.rd (a0.map qb9)] (PI r) := by
  simp only [qr9] at hr
  rcases iteP hr with ⟨h1, hr⟩ | ⟨h1, hr⟩
  obtain rfl := oiA hr
  refine run_V is69 (nbA rfl) ?_
  rotate_left
  obtain ⟨x10, h2, hr⟩ := bsome hr
  obtain ⟨q2, h2L, h2X⟩ := qlc9.L (g := []) h2
  rcases x10 with x11 | x12
  try dsimp only at hr
  obtain ⟨st2, rfl, h2R⟩ := h2X
  simp only [qdD9, go_sem] at h2L
  obtain rfl := oiA hr
  refine run_V is69 (nbA rfl) ?_
  rotate_left
  try dsimp only at hr
  obtain ⟨z13, rfl⟩ := h2X
  simp only [qdD9, go_sem] at h2L
  obtain rfl := oiA hr
  refine run_V is69 (nbA rfl) ?_
  rotate_left
  all_goals (simp +decide only [go_sem, c69, *])
def c134 : ACode := .seq (.reg [] [] [.K 4 (.mv (.const (.bool false)))]) (.seq (.reg [] [] [.M 5 0, .T 6 (.slen (.tmp 5)), .M 7 1, .T 8 (.slen (.tmp 7)), .T 9 (.bin .geq (.tmp 6) (.tmp 8)), .M 10 9, .MG 11 10 true 0, .MG 12 10 true 0, .TG 13 10 true (.slen (.tmp 12)), .MG 14 10 true 1, .TG 15 10 true (.slen (.tmp 14)), .TG 16 10 true (.bin .sub (.tmp 13) (.tmp 15)), .TG 17 10 true (.cutS (.tmp 11) (some (.tmp 16)) none), .MG 18 10 true 1, .TG 19 10 true (.bin .eql (.tmp 17) (.tmp 18)), .T 20 (.pick (.tmp 10) (.tmp 19) (.const (.bool false))), .N 4 20]) (.ret))
theorem is134 : IsF C 134 21 19 c134 [.tmp 4] := ⟨⟨Tryd.f134, _, C_P ▸ Tryd.func134, rfl, rfl, rfl, by kernel_rfl, rfl⟩⟩
theorem qfH9 {a0 : ByteArray} {a1 : ByteArray} {r : Bool} (hr : qbC9 a0 a1 = some r) : Res C 134 [.v (.string a0), .v (.string a1)] (PB r) := by
  simp only [qbC9] at hr
  rcases iteP hr with ⟨h1, hr⟩ | ⟨h1, hr⟩
  obtain ⟨x1, h2, hr⟩ := bsome hr
  obtain rfl := oiA hr
  refine run_V is134 (nbA rfl) ?_
  rotate_left
  obtain rfl := oiA hr
  refine run_V is134 (nbA rfl) ?_
  rotate_left
  all_goals (simp +decide only [go_sem, c134, *])
def c118 : ACode := .seq (.reg [] [] [.K 4 (.mv (.const (.bool false)))]) (.seq (.reg [] [] [.M 5 0, .M 6 1, .T 7 (.call 134 [.tmp 5, .tmp 6]), .N 4 7]) (.ret))
theorem is118 : IsF C 118 8 19 c118 [.tmp 4] := ⟨⟨Tryd.f118, _, C_P ▸ Tryd.func118, rfl, rfl, rfl, by kernel_rfl, rfl⟩⟩
theorem qjG9 {a0 : ByteArray} {a1 : ByteArray} {r : Bool} (hr : qdT9 a0 a1 = some r) : Res C 118 [.v (.string a0), .v (.string a1)] (PB r) := by
  simp only [qdT9] at hr
  obtain ⟨x1, h1, hr⟩ := bsome hr
  have h1k := (qfH9 h1).k rfl rfl rfl
  try simp only [go_sem] at h1k
  obtain rfl := oiA hr
  refine run_V is118 (nbA rfl) ?_
  rotate_left
  all_goals (simp +decide only [go_sem, c118, *])
def c117 : ACode := .seq (.reg [] [] [.K 1 (.box (.tmp 0)), .K 2 (.mv (.const (.bool false)))]) (.seq (.reg [] [] [.T 3 (.fa 0 (.tmp 1)), .T 4 (.load none (.tmp 3)), .T 5 (.call 118 [.tmp 4, .const (.string { data := #[35] })]), .N 2 5]) (.ret))
theorem is117 : IsF C 117 6 7 c117 [.tmp 2] := ⟨⟨Tryd.f117, _, C_P ▸ Tryd.func117, rfl, rfl, rfl, by kernel_rfl, rfl⟩⟩
theorem qky9 {a0 : Symbol} {r : Bool} (hr : qdL9 a0 = some r) : Res C 117 [.ag (qb9 a0)] (PB r) := by
  simp only [qdL9] at hr
  obtain ⟨x1, h1, hr⟩ := bsome hr
  have h1k := (qjG9 h1).k rfl rfl rfl
  try simp only [go_sem] at h1k
  obtain rfl := oiA hr
  refine run_V is117 (nbA rfl) ?_
  rotate_left
  all_goals (simp +decide only [go_sem, c117, *])
def qs9 (s0 : List Symbol) (s7 : Int) : Int → Unit → St := fun s8 _ => ⟨[(0, .d (.rd (s0.map qb9))), (1, .d (.fn 117 [])), (4, PI 0), (7, PI s7), (8, PI s8)], []⟩
def qcx9 (s0 : List Symbol) (s7 : Int) : (Int ⊕ Int) → AExit × St → Prop
  | .inl r, q => XV C [.tmp 4] (PI r) q
  | .inr s8, q => ∃ g, q = (.exit 0, qs9 s0 s7 s8 g)
theorem qcw9 {s0 : List Symbol} {s7 : Int} : Sim C 66483 qiZ9 (ql9 s0 s7) (qs9 s0 s7) (qcx9 s0 s7) := by
  intro s g r hr
  have ⟨s8, hs0⟩ : ∃ y, y = s := ⟨_, rfl⟩
  subst hs0
  simp only [ql9] at hr
  rcases iteP hr with ⟨h1, hr⟩ | ⟨h1, hr⟩
  obtain ⟨x1, h2, x2, h3, hr⟩ := bs2 hr
  have h3k := fun h => (qky9 h3).o rfl rfl rfl (h := h) (args := [.ag [.d (.v (.string x1.Name)), PI x1.Arity]]) rfl
  try simp only [go_sem] at h3k
  rcases iteB hr with ⟨h4, hr⟩ | ⟨h4, hr⟩
  obtain rfl := oiA hr
  refine xv_of ?_
  rotate_left
  obtain rfl := oiA hr
  refine ⟨(), ?_⟩
  rotate_left
  obtain rfl := oiA hr
  refine xe_of ⟨(), rfl⟩ ?_
  rotate_left
  all_goals (simp +decide only [go_sem, qs9, qiZ9, *])
theorem qcz9 {a0 : List Symbol} {r : Int} (hr : qD9 a0 = some r) : Res C 116 [.rd (a0.map qb9), .fn 117 []] (PI r) := by
  simp only [qD9] at hr
  obtain ⟨x3, h1, hr⟩ := bsome hr
  obtain ⟨q1, h1L, h1X⟩ := qcw9.L (g := ()) h1
  rcases x3 with x4 | x5
  try dsimp only at hr
  obtain ⟨st1, rfl, h1R⟩ := h1X
  simp only [qs9, go_sem] at h1L
  obtain rfl := oiA hr
  refine run_V is116 (nbA rfl) ?_
  rotate_left
  try dsimp only at hr
  obtain ⟨⟨⟩, rfl⟩ := h1X
  simp only [qs9, go_sem] at h1L
  obtain rfl := oiA hr
  refine run_V is116 (nbA rfl) ?_
  rotate_left
  all_goals (simp +decide only [go_sem, c116, *])
theorem qci9 {a0 : List Symbol} {r : Bool} (hr : qt9 a0 = some r) : Res C 94 [.rd (a0.map qb9), .fn 117 []] (PB r) := by
  simp only [qt9] at hr
  obtain ⟨x1, h1, hr⟩ := bsome hr
  have h1k := (qcz9 h1).k rfl rfl rfl
  try simp only [go_sem] at h1k
  obtain rfl := oiA hr
  refine run_V is94 (nbA rfl) ?_
  rotate_left
  all_goals (simp +decide only [go_sem, c94, *])
def c100 : ACode := .seq (.reg [] [] [.K 2 (.mv (cI 0))]) (.seq (.seq (.reg [] [] [.M 4 0, .T 5 (.call 69 [.tmp 4]), .N 3 5]) (.seq (.reg [] [] [.M 6 3, .K 7 (.bin .neq (.tmp 6) (cI 0))]) (.cond (.tmp 7) (some 7) (.seq (.reg [] [] [.M 8 3, .N 2 8]) (.ret)) (.skip)))) (.seq (.seq (.reg [] [] [.M 9 0, .T 10 (.len (.tmp 9)), .K 11 (.bin .gtr (.tmp 10) (cI 64))]) (.cond (.tmp 11) (some 11) (.seq (.reg [] [] [.K 2 (.mv (cI 37))]) (.ret)) (.skip))) (.seq (.seq (.reg [] [] [.M 12 0, .K 13 (.call 94 [.tmp 12, .func 117])]) (.cond (.tmp 13) (some 13) (.seq (.reg [] [] [.K 2 (.mv (cI 34))]) (.ret)) (.skip))) (.seq (.reg [] [] [.K 2 (.mv (cI 0))]) (.ret)))))
theorem is100 : IsF C 100 14 10381 c100 [.tmp 2] := ⟨⟨Tryd.f100, _, C_P ▸ Tryd.func100, rfl, rfl, rfl, by kernel_rfl, rfl⟩⟩
theorem qmV9 {a0 : List Symbol} {r : Int} (hr : qdy9 a0 = some r) : Res C 100 [.rd (a0.map qb9)] (PI r) := by
  simp only [qdy9] at hr
  obtain ⟨x1, h1, hr⟩ := bsome hr
  have h1k := (qgl9 h1).k rfl rfl rfl
  try simp only [go_sem] at h1k
  rcases iteP hr with ⟨h2, hr⟩ | ⟨h2, hr⟩
  rcases iteP hr with ⟨h3, hr⟩ | ⟨h3, hr⟩
  obtain rfl := oiA hr
  refine run_V is100 (nbA rfl) ?_
  rotate_left
  obtain ⟨x2, h4, hr⟩ := bsome hr
  have h4k := fun h => (qci9 h4).o rfl rfl rfl (h := h) (args := [.d (.rd (a0.map qb9)), .fn 117 []]) rfl
  try simp only [go_sem] at h4k
  rcases iteB hr with ⟨h5, hr⟩ | ⟨h5, hr⟩
  obtain rfl := oiA hr
  refine run_V is100 (nbA rfl) ?_
  rotate_left
  obtain rfl := oiA hr
  refine run_V is100 (nbA rfl) ?_
  rotate_left
  obtain rfl := oiA hr
  refine run_V is100 (nbA rfl) ?_
  rotate_left
  all_goals (simp +decide only [go_sem, c100, *])
def qmm9 : ACode := .seq (.reg [] [] [.K 13 (.bin .lss (.tmp 12) (.tmp 11))]) (.seq (.cond (.tmp 13) (some 13) (.skip) (.exit 0)) (.seq (.block 1 268444000 (.seq (.reg [] [] [.M 14 12, .T 15 (.ix 1 (.tmp 10) (.tmp 12)), .T 16 (.load none (.tmp 15)), .N 5 14, .N 6 16]) (.seq (.reg [] [] [.M 18 3, .M 19 6, .T 20 (.look (Go.TypeDesc.int .i64) (.d (.v (.int .i64 0))) (.tmp 18) (.tmp 19) true), .M 17 20, .T 21 (.ext (.tmp 17) 0), .T 22 (.ext (.tmp 17) 1), .M 7 21, .N 8 22]) (.seq (.reg [] [] [.M 23 6, .T 24 (.bin .lss (.tmp 23) (cI 0)), .M 25 24, .MG 26 25 true 8, .TG 27 25 true (.not (.tmp 26)), .K 28 (.pick (.tmp 25) (.tmp 27) (.const (.bool false)))]) (.cond (.tmp 28) (some 28) (.seq (.reg [] [] [.M 29 3, .M 30 6, .M 31 5, ⟨none, .mput (Go.TypeDesc.int .i64) (.tmp 29) (.tmp 30) (.tmp 31), none, false, false⟩]) (.reg [] [] [.M 32 4, .M 33 6, .T 34 (.bin .sub (cI (-1)) (.tmp 33)), .T 35 (.lit 1 [(0, .tmp 34)]), .T 36 (.app 1 8 (.tmp 32) (.tmp 35)), .N 4 36])) (.skip)))))) (.reg [] [] [.T 37 (.bin .add (.tmp 12) (cI 1)), .N 12 37])))
def c120 : ACode := .seq (.reg [] [(2, 0)] [.K 2 (.mv (.const (.slice none 0 0)))]) (.seq (.reg [] [] [.T 9 (.mkMap), .N 3 9]) (.seq (.reg [] [(4, 1)] [.K 4 (.mv (.const (.slice none 0 0)))]) (.seq (.seq (.reg [] [] [.N 10 0, .K 11 (.len (.tmp 10)), .K 12 (.mv (cI 0))]) (.block 0 268444000 (.loop qmm9))) (.seq (.reg [] [(2, 0)] [.M 38 4, .N 2 38]) (.ret)))))
theorem is120 : IsF C 120 39 268451197 c120 [.tmp 2] := ⟨⟨Tryd.f120, _, C_P ▸ Tryd.func120, rfl, rfl, rfl, by kernel_rfl, rfl⟩⟩
def qgw9 (s0 : List Int) (s2 : List Int) (s10 : List Int) (s11 : Int) : Int × (List (Int × Int)) × (List Int) → Nat → St := fun (s12, m3, o4) v4 => ⟨[(0, .d (.rd (s0.map intD))), (2, .d (.rd (s2.map intD))), (3, .mp 0), (4, .ref 1 v4 0 o4.length), (10, .d (.rd (s10.map intD))), (11, PI s11), (12, PI s12)], (.map (mapP keyI intD m3) :: (.row false v4 1 (rowP intD o4) :: []))⟩
def qoY9 (s0 : List Int) (s2 : List Int) (s10 : List Int) (s11 : Int) : (Int × (List (Int × Int)) × (List Int)) → AExit × St → Prop := fun (s12, m3, o4) q => ∃ g, q = (.exit 0, qgw9 s0 s2 s10 s11 (s12, m3, o4) g)
theorem qqc9 {s0 : List Int} {s2 : List Int} {s10 : List Int} {s11 : Int} : Sim C 268451197 qmm9 (qbK9 s0 s2 s10 s11) (qgw9 s0 s2 s10 s11) (qoY9 s0 s2 s10 s11) := by
  intro s g r hr
  obtain ⟨s12, m3, o4⟩ := s
  have ⟨v4, hg0⟩ : ∃ y, y = g := ⟨_, rfl⟩
  subst hg0
  simp only [qbK9] at hr
  rcases iteP hr with ⟨h1, hr⟩ | ⟨h1, hr⟩
  obtain ⟨x1, h2, hr⟩ := bsome hr
  rcases h3 : mget m3 x1 with _ | x2
  simp only [h3] at hr
  rcases iteP hr with ⟨h4, hr⟩ | ⟨h4, hr⟩
  obtain ⟨h5, hr⟩ := gsome hr
  obtain rfl := oiA hr
  refine ⟨(v4 + 1), ?_⟩
  rotate_left
  obtain rfl := oiA hr
  refine ⟨v4, ?_⟩
  rotate_left
  simp only [h3] at hr
  rcases iteP hr with ⟨h6, hr⟩ | ⟨h6, hr⟩
  obtain rfl := oiA hr
  refine ⟨v4, ?_⟩
  rotate_left
  obtain rfl := oiA hr
  refine ⟨v4, ?_⟩
  rotate_left
  obtain rfl := oiA hr
  refine xe_of ⟨v4, rfl⟩ ?_
  rotate_left
  all_goals (simp +decide only [go_sem, qgw9, qmm9, *])
theorem qkM9 {a0 : List Int} {r : (List Int)} (hr : qfU9 a0 = some r) : Res C 120 [.rd (a0.map intD)] (.d (.rd (r.map intD))) := by
  simp only [qfU9] at hr
  obtain ⟨x3, h1, hr⟩ := bsome hr
  obtain ⟨q1, h1L, h1X⟩ := qqc9.L (g := 0) h1
  obtain ⟨x4, x5, x6⟩ := x3
  try dsimp only at hr
  obtain ⟨z7, rfl⟩ := h1X
  simp only [qgw9, go_sem] at h1L
  obtain rfl := oiA hr
  refine run_V is120 (nbA rfl) ?_
  rotate_left
  all_goals (simp +decide only [go_sem, c120, *])
def qmE9 : ACode := .seq (.reg [] [] [.K 9 (.bin .lss (.tmp 8) (.tmp 7))]) (.seq (.cond (.tmp 9) (some 9) (.skip) (.exit 0)) (.seq (.block 1 66080 (.seq (.reg [] [] [.M 10 8, .N 5 10]) (.seq (.reg [] [] [.M 11 1, .M 12 0, .M 13 5, .T 14 (.ix 1 (.tmp 12) (.tmp 13)), .T 15 (.load none (.tmp 14)), .K 16 (.bin .eql (.tmp 11) (.tmp 15))]) (.cond (.tmp 16) (some 16) (.seq (.reg [] [] [.M 17 5, .N 4 17]) (.ret)) (.skip))))) (.reg [] [] [.T 18 (.bin .add (.tmp 8) (cI 1)), .N 8 18])))
def c135 : ACode := .seq (.reg [] [] [.K 4 (.mv (cI 0))]) (.seq (.seq (.reg [] [] [.M 6 0, .K 7 (.len (.tmp 6)), .K 8 (.mv (cI 0))]) (.block 0 66080 (.loop qmE9))) (.seq (.reg [] [] [.K 4 (.mv (cI (-1)))]) (.ret)))
theorem is135 : IsF C 135 19 66483 c135 [.tmp 4] := ⟨⟨Tryd.f135, _, C_P ▸ Tryd.func135, rfl, rfl, rfl, by kernel_rfl, rfl⟩⟩
def qbD9 (s0 : List Int) (s1 : Int) (s7 : Int) : Int → Unit → St := fun s8 _ => ⟨[(0, .d (.rd (s0.map intD))), (1, PI s1), (4, PI 0), (7, PI s7), (8, PI s8)], []⟩
def qhL9 (s0 : List Int) (s1 : Int) (s7 : Int) : (Int ⊕ Int) → AExit × St → Prop
  | .inl r, q => XV C [.tmp 4] (PI r) q
  | .inr s8, q => ∃ g, q = (.exit 0, qbD9 s0 s1 s7 s8 g)
theorem qhH9 {s0 : List Int} {s1 : Int} {s7 : Int} : Sim C 66483 qmE9 (qbk9 s0 s1 s7) (qbD9 s0 s1 s7) (qhL9 s0 s1 s7) := by
  intro s g r hr
  have ⟨s8, hs0⟩ : ∃ y, y = s := ⟨_, rfl⟩
  subst hs0
  simp only [qbk9] at hr
  rcases iteP hr with ⟨h1, hr⟩ | ⟨h1, hr⟩
  obtain ⟨x1, h2, hr⟩ := bsome hr
  rcases iteP hr with ⟨h3, hr⟩ | ⟨h3, hr⟩
  obtain rfl := oiA hr
  refine xv_of ?_
  rotate_left
  obtain rfl := oiA hr
  refine ⟨(), ?_⟩
  rotate_left
  obtain rfl := oiA hr
  refine xe_of ⟨(), rfl⟩ ?_
  rotate_left
  all_goals (simp +decide only [go_sem, qbD9, qmE9, *])
theorem qig9 {a0 : List Int} {a1 : Int} {r : Int} (hr : qcI9 a0 a1 = some r) : Res C 135 [.rd (a0.map intD), .v (.int .i64 a1)] (PI r) := by
  simp only [qcI9] at hr
  obtain ⟨x2, h1, hr⟩ := bsome hr
  obtain ⟨q1, h1L, h1X⟩ := qhH9.L (g := ()) h1
  rcases x2 with x3 | x4
  try dsimp only at hr
  obtain ⟨st1, rfl, h1R⟩ := h1X
  simp only [qbD9, go_sem] at h1L
  obtain rfl := oiA hr
  refine run_V is135 (nbA rfl) ?_
  rotate_left
  try dsimp only at hr
  obtain ⟨⟨⟩, rfl⟩ := h1X
  simp only [qbD9, go_sem] at h1L
  obtain rfl := oiA hr
  refine run_V is135 (nbA rfl) ?_
  rotate_left
  all_goals (simp +decide only [go_sem, c135, *])
def c121 : ACode := .seq (.reg [] [] [.K 4 (.mv (.const (.bool false)))]) (.seq (.reg [] [] [.M 5 0, .M 6 1, .T 7 (.call 135 [.tmp 5, .tmp 6]), .T 8 (.bin .geq (.tmp 7) (cI 0)), .N 4 8]) (.ret))
theorem is121 : IsF C 121 9 19 c121 [.tmp 4] := ⟨⟨Tryd.f121, _, C_P ▸ Tryd.func121, rfl, rfl, rfl, by kernel_rfl, rfl⟩⟩
theorem qhn9 {a0 : List Int} {a1 : Int} {r : Bool} (hr : qbH9 a0 a1 = some r) : Res C 121 [.rd (a0.map intD), .v (.int .i64 a1)] (PB r) := by
  simp only [qbH9] at hr
  obtain ⟨x1, h1, hr⟩ := bsome hr
  have h1k := (qig9 h1).k rfl rfl rfl
  try simp only [go_sem] at h1k
  obtain rfl := oiA hr
  refine run_V is121 (nbA rfl) ?_
  rotate_left
  all_goals (simp +decide only [go_sem, c121, *])

def qpg9 : ACode := .seq (.reg [] [] [.K 24 (.bin .lss (.tmp 23) (.tmp 22))]) (.seq (.cond (.tmp 24) (some 24) (.skip) (.exit 0)) (.seq (.block 1 16777216 (.reg [] [] [.T 25 (.load none (.tmp 3)), .M 26 7, .T 27 (.callV (.tmp 25) [.tmp 26]), .N 7 27])) (.reg [] [] [.T 28 (.bin .add (.tmp 23) (cI 1)), .N 23 28])))
def c78 : ACode := .seq (.reg [] [] [.K 6 (.mv (cI 0))]) (.seq (.reg [] [] [.M 8 0, .T 9 (.bin .add (.tmp 8) (cI 1)), .N 7 9]) (.seq (.seq (.reg [] [] [.T 10 (.load none (.tmp 1)), .M 11 0, .T 12 (.ix 1 (.tmp 10) (.tmp 11)), .T 13 (.load none (.tmp 12)), .K 14 (.bin .geq (.tmp 13) (cI 0))]) (.cond (.tmp 14) (some 14) (.seq (.reg [] [] [⟨some (15, false), .load none (.tmp 2), none, true, false⟩, ⟨some (16, false), .load none (.tmp 1), none, true, false⟩, .M 17 0, ⟨some (18, false), .ix 1 (.tmp 16) (.tmp 17), none, true, false⟩, ⟨some (19, false), .load none (.tmp 18), none, true, false⟩, ⟨some (20, false), .ix 2 (.tmp 15) (.tmp 19), none, true, false⟩, .T 21 (.fa 1 (.tmp 20)), ⟨some (22, true), .load none (.tmp 21), none, true, false⟩, .K 23 (.mv (cI 0))]) (.block 0 16777216 (.loop qpg9))) (.skip))) (.seq (.reg [] [] [.T 29 (.load none (.tmp 4)), .M 30 0, .M 31 7, .T 32 (.ix 1 (.tmp 29) (.tmp 30)), ⟨none, .store 1 (.tmp 32) (.tmp 31), none, false, false⟩]) (.seq (.reg [] [] [.M 33 7, .N 6 33]) (.ret)))))
theorem is78 : IsF C 78 34 29376735 c78 [.tmp 6] := ⟨⟨Tryd.f78, _, C_P ▸ Tryd.func78, rfl, rfl, rfl, by kernel_rfl, rfl⟩⟩
def qeC9 (s0 : Int) (s22 : Int) (g1 : AHeap) (g2 : AHeap) (g3 : AHeap) (v3_0_3_0 : Nat) (n3_0_3_0 : Nat) (g4 : AHeap) (g5 : AHeap) (g6 : AHeap) : Int × Int × (List Symbol) × (List Int) × (List Int) → AHeap → St := fun (s7, s23, b2_0, b1_0, o3_0_3_0) gt => ⟨[(0, PI s0), (1, .ptr (g1.length + g2.length + 1) 0 0 0), (2, .ptr g1.length 0 0 0), (3, .ptr (g1.length + g2.length + g3.length + g4.length + g5.length + 4) 0 0 0), (4, .ptr (g1.length + g2.length + g3.length + g4.length + 3) 0 0 0), (6, PI 0), (7, PI s7), (22, PI s22), (23, PI s23)], (g1 ++ (.row false 0 1 [[.d (.rd (b2_0.map qb9))]] :: (g2 ++ (.row false 0 1 [[.d (.rd (b1_0.map intD))]] :: (g3 ++ (.row false v3_0_3_0 1 (rowP intD o3_0_3_0) :: (g4 ++ (.row false 0 1 [[.ref (g1.length + g2.length + g3.length + 2) v3_0_3_0 0 n3_0_3_0]] :: (g5 ++ (.row false 0 1 [[.fn 78 [.ptr (g1.length + g2.length + 1) 0 0 0, .ptr g1.length 0 0 0, .ptr (g1.length + g2.length + g3.length + g4.length + g5.length + 4) 0 0 0, .ptr (g1.length + g2.length + g3.length + g4.length + 3) 0 0 0]]] :: (g6 ++ gt)))))))))))⟩
def qir9 (s0 : Int) (s22 : Int) (g1 : AHeap) (g2 : AHeap) (g3 : AHeap) (v3_0_3_0 : Nat) (n3_0_3_0 : Nat) (g4 : AHeap) (g5 : AHeap) (g6 : AHeap) : Int × Int × (List Symbol) × (List Int) × (List Int) → Prop := fun (s7, s23, b2_0, b1_0, o3_0_3_0) => o3_0_3_0.length = n3_0_3_0
def qlt9 (s0 : Int) (s22 : Int) (g1 : AHeap) (g2 : AHeap) (g3 : AHeap) (v3_0_3_0 : Nat) (n3_0_3_0 : Nat) (g4 : AHeap) (g5 : AHeap) (g6 : AHeap) : (Int × Int × (List Symbol) × (List Int) × (List Int)) → AExit × St → Prop := fun (s7, s23, b2_0, b1_0, o3_0_3_0) q => ∃ g, q = (.exit 0, qeC9 s0 s22 g1 g2 g3 v3_0_3_0 n3_0_3_0 g4 g5 g6 (s7, s23, b2_0, b1_0, o3_0_3_0) g) ∧ o3_0_3_0.length = n3_0_3_0
theorem qlF9 {rec : Int × (List Symbol) × (List Int) × (List Int) → Option (Int × (List Symbol) × (List Int) × (List Int))} (hrec : ∀ {s0 : Int} {b2_0 : List Symbol} {b1_0 : List Int} {o3_0_3_0 : List Int} {g1 : AHeap} {g2 : AHeap} {g3 : AHeap} {v3_0_3_0 : Nat} {n3_0_3_0 : Nat} {g4 : AHeap} {g5 : AHeap} {g6 : AHeap} (hln3_0_3_0 : o3_0_3_0.length = n3_0_3_0) {r : Int × (List Symbol) × (List Int) × (List Int)} (_ : rec (s0, b2_0, b1_0, o3_0_3_0) = some r), ∃ hz : AHeap, callP C (Lim C) 78 [PI s0, .ptr (g1.length + g2.length + 1) 0 0 0, .ptr g1.length 0 0 0, .ptr (g1.length + g2.length + g3.length + g4.length + g5.length + 4) 0 0 0, .ptr (g1.length + g2.length + g3.length + g4.length + 3) 0 0 0] (g1 ++ (.row false 0 1 [[.d (.rd (b2_0.map qb9))]] :: (g2 ++ (.row false 0 1 [[.d (.rd (b1_0.map intD))]] :: (g3 ++ (.row false v3_0_3_0 1 (rowP intD o3_0_3_0) :: (g4 ++ (.row false 0 1 [[.ref (g1.length + g2.length + g3.length + 2) v3_0_3_0 0 n3_0_3_0]] :: (g5 ++ (.row false 0 1 [[.fn 78 [.ptr (g1.length + g2.length + 1) 0 0 0, .ptr g1.length 0 0 0, .ptr (g1.length + g2.length + g3.length + g4.length + g5.length + 4) 0 0 0, .ptr (g1.length + g2.length + g3.length + g4.length + 3) 0 0 0]]] :: g6)))))))))) = some (resOf [PI r.1], (g1 ++ (.row false 0 1 [[.d (.rd (r.2.1.map qb9))]] :: (g2 ++ (.row false 0 1 [[.d (.rd (r.2.2.1.map intD))]] :: (g3 ++ (.row false v3_0_3_0 1 (rowP intD r.2.2.2) :: (g4 ++ (.row false 0 1 [[.ref (g1.length + g2.length + g3.length + 2) v3_0_3_0 0 n3_0_3_0]] :: (g5 ++ (.row false 0 1 [[.fn 78 [.ptr (g1.length + g2.length + 1) 0 0 0, .ptr g1.length 0 0 0, .ptr (g1.length + g2.length + g3.length + g4.length + g5.length + 4) 0 0 0, .ptr (g1.length + g2.length + g3.length + g4.length + 3) 0 0 0]]] :: (g6 ++ hz)))))))))))) ∧ r.2.2.2.length = n3_0_3_0) {s0 : Int} {s22 : Int} {g1 : AHeap} {g2 : AHeap} {g3 : AHeap} {v3_0_3_0 : Nat} {n3_0_3_0 : Nat} {g4 : AHeap} {g5 : AHeap} {g6 : AHeap} : SimI C 29376735 qpg9 (qir9 s0 s22 g1 g2 g3 v3_0_3_0 n3_0_3_0 g4 g5 g6) (qbU9 rec s0 s22) (qeC9 s0 s22 g1 g2 g3 v3_0_3_0 n3_0_3_0 g4 g5 g6) (qlt9 s0 s22 g1 g2 g3 v3_0_3_0 n3_0_3_0 g4 g5 g6) := by
  intro s g r hI hr
  obtain ⟨s7, s23, b2_0, b1_0, o3_0_3_0⟩ := s
  have ⟨gt, hg0⟩ : ∃ y, y = g := ⟨_, rfl⟩
  subst hg0
  simp only [qir9] at hI
  have hI0 := hI
  simp only [qbU9] at hr
  rcases iteP hr with ⟨h1, hr⟩ | ⟨h1, hr⟩
  obtain ⟨x3, h2, hr⟩ := bsome hr
  obtain ⟨z4, h2k, h2l0⟩ := hrec (g1 := g1) (g2 := g2) (g3 := g3) (v3_0_3_0 := v3_0_3_0) (n3_0_3_0 := n3_0_3_0) (g4 := g4) (g5 := g5) (g6 := (g6 ++ gt)) (show o3_0_3_0.length = n3_0_3_0 by first | assumption | (simp only [llA, lrA]; first | done | assumption | omega) | omega) h2
  try simp only [go_sem] at h2k
  obtain rfl := oiA hr
  refine ⟨⟨(gt ++ z4), ?_⟩, (show x3.2.2.2.length = n3_0_3_0 by first | assumption | (simp only [llA, lrA]; first | done | assumption | omega) | omega)⟩
  rotate_left
  obtain rfl := oiA hr
  refine xe_of ⟨gt, rfl, (show o3_0_3_0.length = n3_0_3_0 by first | assumption | (simp only [llA, lrA]; first | done | assumption | omega) | omega)⟩ ?_
  rotate_left
  all_goals (simp +decide only [go_sem, qeC9, qpg9, *])
theorem qlR9 {rec : Int × (List Symbol) × (List Int) × (List Int) → Option (Int × (List Symbol) × (List Int) × (List Int))} (hrec : ∀ {s0 : Int} {b2_0 : List Symbol} {b1_0 : List Int} {o3_0_3_0 : List Int} {g1 : AHeap} {g2 : AHeap} {g3 : AHeap} {v3_0_3_0 : Nat} {n3_0_3_0 : Nat} {g4 : AHeap} {g5 : AHeap} {g6 : AHeap} (hln3_0_3_0 : o3_0_3_0.length = n3_0_3_0) {r : Int × (List Symbol) × (List Int) × (List Int)} (_ : rec (s0, b2_0, b1_0, o3_0_3_0) = some r), ∃ hz : AHeap, callP C (Lim C) 78 [PI s0, .ptr (g1.length + g2.length + 1) 0 0 0, .ptr g1.length 0 0 0, .ptr (g1.length + g2.length + g3.length + g4.length + g5.length + 4) 0 0 0, .ptr (g1.length + g2.length + g3.length + g4.length + 3) 0 0 0] (g1 ++ (.row false 0 1 [[.d (.rd (b2_0.map qb9))]] :: (g2 ++ (.row false 0 1 [[.d (.rd (b1_0.map intD))]] :: (g3 ++ (.row false v3_0_3_0 1 (rowP intD o3_0_3_0) :: (g4 ++ (.row false 0 1 [[.ref (g1.length + g2.length + g3.length + 2) v3_0_3_0 0 n3_0_3_0]] :: (g5 ++ (.row false 0 1 [[.fn 78 [.ptr (g1.length + g2.length + 1) 0 0 0, .ptr g1.length 0 0 0, .ptr (g1.length + g2.length + g3.length + g4.length + g5.length + 4) 0 0 0, .ptr (g1.length + g2.length + g3.length + g4.length + 3) 0 0 0]]] :: g6)))))))))) = some (resOf [PI r.1], (g1 ++ (.row false 0 1 [[.d (.rd (r.2.1.map qb9))]] :: (g2 ++ (.row false 0 1 [[.d (.rd (r.2.2.1.map intD))]] :: (g3 ++ (.row false v3_0_3_0 1 (rowP intD r.2.2.2) :: (g4 ++ (.row false 0 1 [[.ref (g1.length + g2.length + g3.length + 2) v3_0_3_0 0 n3_0_3_0]] :: (g5 ++ (.row false 0 1 [[.fn 78 [.ptr (g1.length + g2.length + 1) 0 0 0, .ptr g1.length 0 0 0, .ptr (g1.length + g2.length + g3.length + g4.length + g5.length + 4) 0 0 0, .ptr (g1.length + g2.length + g3.length + g4.length + 3) 0 0 0]]] :: (g6 ++ hz)))))))))))) ∧ r.2.2.2.length = n3_0_3_0) {s0 : Int} {b2_0 : List Symbol} {b1_0 : List Int} {o3_0_3_0 : List Int} {g1 : AHeap} {g2 : AHeap} {g3 : AHeap} {v3_0_3_0 : Nat} {n3_0_3_0 : Nat} {g4 : AHeap} {g5 : AHeap} {g6 : AHeap} (hln3_0_3_0 : o3_0_3_0.length = n3_0_3_0) {r : Int × (List Symbol) × (List Int) × (List Int)} (hr : qbA9 rec s0 b2_0 b1_0 o3_0_3_0 = some r) : ∃ hz : AHeap, Lim C 78 [PI s0, .ptr (g1.length + g2.length + 1) 0 0 0, .ptr g1.length 0 0 0, .ptr (g1.length + g2.length + g3.length + g4.length + g5.length + 4) 0 0 0, .ptr (g1.length + g2.length + g3.length + g4.length + 3) 0 0 0] (g1 ++ (.row false 0 1 [[.d (.rd (b2_0.map qb9))]] :: (g2 ++ (.row false 0 1 [[.d (.rd (b1_0.map intD))]] :: (g3 ++ (.row false v3_0_3_0 1 (rowP intD o3_0_3_0) :: (g4 ++ (.row false 0 1 [[.ref (g1.length + g2.length + g3.length + 2) v3_0_3_0 0 n3_0_3_0]] :: (g5 ++ (.row false 0 1 [[.fn 78 [.ptr (g1.length + g2.length + 1) 0 0 0, .ptr g1.length 0 0 0, .ptr (g1.length + g2.length + g3.length + g4.length + g5.length + 4) 0 0 0, .ptr (g1.length + g2.length + g3.length + g4.length + 3) 0 0 0]]] :: g6)))))))))) = some (resOf [PI r.1], (g1 ++ (.row false 0 1 [[.d (.rd (r.2.1.map qb9))]] :: (g2 ++ (.row false 0 1 [[.d (.rd (r.2.2.1.map intD))]] :: (g3 ++ (.row false v3_0_3_0 1 (rowP intD r.2.2.2) :: (g4 ++ (.row false 0 1 [[.ref (g1.length + g2.length + g3.length + 2) v3_0_3_0 0 n3_0_3_0]] :: (g5 ++ (.row false 0 1 [[.fn 78 [.ptr (g1.length + g2.length + 1) 0 0 0, .ptr g1.length 0 0 0, .ptr (g1.length + g2.length + g3.length + g4.length + g5.length + 4) 0 0 0, .ptr (g1.length + g2.length + g3.length + g4.length + 3) 0 0 0]]] :: (g6 ++ hz)))))))))))) ∧ r.2.2.2.length = n3_0_3_0 := by
  simp only [qbA9] at hr
  obtain ⟨x1, h1, hr⟩ := bsome hr
  rcases iteP hr with ⟨h2, hr⟩ | ⟨h2, hr⟩
  obtain ⟨x2, h3, hr⟩ := bsome hr
  obtain ⟨x5, h4, hr⟩ := bsome hr
  obtain ⟨q4, h4L, h4X⟩ := (qlF9 hrec (g1 := g1) (g2 := g2) (g3 := g3) (v3_0_3_0 := v3_0_3_0) (n3_0_3_0 := n3_0_3_0) (g4 := g4) (g5 := g5) (g6 := g6)).L (g := []) h4 (show o3_0_3_0.length = n3_0_3_0 by first | assumption | (simp only [llA, lrA]; first | done | assumption | omega) | omega)
  obtain ⟨x6, x7, x8, x9, x10⟩ := x5
  try dsimp only at hr
  obtain ⟨z11, rfl, h4l0⟩ := h4X
  simp only [qeC9, go_sem] at h4L
  try simp only [hln3_0_3_0] at h4L
  obtain ⟨x12, h5, hr⟩ := bsome hr
  have h5a := eq_true (qa9 h5).1
  have h5b : (s0 < (n3_0_3_0 : Int)) = True := eq_true (by have hb : s0 < (x10.length : Int) := (qa9 h5).2.1; omega)
  have h5c := (qa9 h5).2.2
  obtain rfl := oiA hr
  refine ⟨z11, run_L is78 (nbA rfl) ?_, (show (x10.set (s0).toNat x6).length = n3_0_3_0 by first | assumption | (simp only [llA, lrA]; first | done | assumption | omega) | omega)⟩
  rotate_left
  obtain ⟨x13, h6, hr⟩ := bsome hr
  have h6a := eq_true (qa9 h6).1
  have h6b : (s0 < (n3_0_3_0 : Int)) = True := eq_true (by have hb : s0 < (o3_0_3_0.length : Int) := (qa9 h6).2.1; omega)
  have h6c := (qa9 h6).2.2
  obtain rfl := oiA hr
  refine ⟨[], run_L is78 (nbA rfl) ?_, (show (o3_0_3_0.set (s0).toNat (w64 (s0 + 1))).length = n3_0_3_0 by first | assumption | (simp only [llA, lrA]; first | done | assumption | omega) | omega)⟩
  rotate_left
  all_goals (simp +decide only [go_sem, c78, *])
theorem qmp9 {s0 : Int} {b2_0 : List Symbol} {b1_0 : List Int} {o3_0_3_0 : List Int} {g1 : AHeap} {g2 : AHeap} {g3 : AHeap} {v3_0_3_0 : Nat} {n3_0_3_0 : Nat} {g4 : AHeap} {g5 : AHeap} {g6 : AHeap} (hln3_0_3_0 : o3_0_3_0.length = n3_0_3_0) {r : Int × (List Symbol) × (List Int) × (List Int)} (hr : qie9 s0 b2_0 b1_0 o3_0_3_0 = some r) : ∃ hz : AHeap, Lim C 78 [PI s0, .ptr (g1.length + g2.length + 1) 0 0 0, .ptr g1.length 0 0 0, .ptr (g1.length + g2.length + g3.length + g4.length + g5.length + 4) 0 0 0, .ptr (g1.length + g2.length + g3.length + g4.length + 3) 0 0 0] (g1 ++ (.row false 0 1 [[.d (.rd (b2_0.map qb9))]] :: (g2 ++ (.row false 0 1 [[.d (.rd (b1_0.map intD))]] :: (g3 ++ (.row false v3_0_3_0 1 (rowP intD o3_0_3_0) :: (g4 ++ (.row false 0 1 [[.ref (g1.length + g2.length + g3.length + 2) v3_0_3_0 0 n3_0_3_0]] :: (g5 ++ (.row false 0 1 [[.fn 78 [.ptr (g1.length + g2.length + 1) 0 0 0, .ptr g1.length 0 0 0, .ptr (g1.length + g2.length + g3.length + g4.length + g5.length + 4) 0 0 0, .ptr (g1.length + g2.length + g3.length + g4.length + 3) 0 0 0]]] :: g6)))))))))) = some (resOf [PI r.1], (g1 ++ (.row false 0 1 [[.d (.rd (r.2.1.map qb9))]] :: (g2 ++ (.row false 0 1 [[.d (.rd (r.2.2.1.map intD))]] :: (g3 ++ (.row false v3_0_3_0 1 (rowP intD r.2.2.2) :: (g4 ++ (.row false 0 1 [[.ref (g1.length + g2.length + g3.length + 2) v3_0_3_0 0 n3_0_3_0]] :: (g5 ++ (.row false 0 1 [[.fn 78 [.ptr (g1.length + g2.length + 1) 0 0 0, .ptr g1.length 0 0 0, .ptr (g1.length + g2.length + g3.length + g4.length + g5.length + 4) 0 0 0, .ptr (g1.length + g2.length + g3.length + g4.length + 3) 0 0 0]]] :: (g6 ++ hz)))))))))))) ∧ r.2.2.2.length = n3_0_3_0 := by
  obtain ⟨n, hn⟩ := qka9 hr
  clear hr
  induction n generalizing s0 b2_0 b1_0 o3_0_3_0 g1 g2 g3 v3_0_3_0 n3_0_3_0 g4 g5 g6 r with
  | zero => cases hn
  | succ n ih =>
    refine qlR9 (rec := fixN _ n) (fun {s0} {b2_0} {b1_0} {o3_0_3_0} {g1} {g2} {g3} {v3_0_3_0} {n3_0_3_0} {g4} {g5} {g6} hln3_0_3_0 {r} hr => ?_) hln3_0_3_0 (g1 := g1) (g2 := g2) (g3 := g3) (v3_0_3_0 := v3_0_3_0) (n3_0_3_0 := n3_0_3_0) (g4 := g4) (g5 := g5) (g6 := g6) hn
    obtain ⟨hz, h1, f0⟩ := ih hln3_0_3_0 (g1 := g1) (g2 := g2) (g3 := g3) (v3_0_3_0 := v3_0_3_0) (n3_0_3_0 := n3_0_3_0) (g4 := g4) (g5 := g5) (g6 := g6) hr
    exact ⟨hz, qh9 rfl rfl rfl h1, f0⟩
def c43 : ACode := .seq (.reg [] [(4, 0)] [.K 2 (.box (.tmp 0)), .K 3 (.box (.tmp 1)), .K 4 (.mv (.const (.slice none 0 0)))]) (.seq (.reg [] [] [.T 7 (.load none (.tmp 3)), .T 8 (.len (.tmp 7)), .T 9 (.mkSl [.d (.v (.int .i64 0))] 1 8 (.tmp 8) (.tmp 8)), .K 5 (.alloc [.im true []] 1), ⟨none, .store 1 (.tmp 5) (.tmp 9), none, false, false⟩]) (.seq (.reg [] [] [.K 6 (.alloc [.d (.v .nilFunc)] 1)]) (.seq (.reg [] [] [.T 10 (.mkF 78 [.tmp 3, .tmp 2, .tmp 6, .tmp 5]), ⟨none, .store 1 (.tmp 6) (.tmp 10), none, false, false⟩]) (.seq (.reg [] [] [.T 11 (.load none (.tmp 6)), .T 12 (.callV (.tmp 11) [.const (.int .i64 0)])]) (.seq (.reg [] [(4, 0)] [.T 13 (.load none (.tmp 5)), .N 4 13]) (.ret))))))
theorem is43 : IsF C 43 14 127 c43 [.tmp 4] := ⟨⟨Tryd.f43, _, C_P ▸ Tryd.func43, rfl, rfl, rfl, by kernel_rfl, rfl⟩⟩
theorem qkK9 {a0 : List Symbol} {a1 : List Int} {r : (List Int)} (hr : qgd9 a0 a1 = some r) : Res C 43 [.rd (a0.map qb9), .rd (a1.map intD)] (.d (.rd (r.map intD))) := by
  simp only [qgd9] at hr
  obtain ⟨h1, hr⟩ := gsome hr
  obtain ⟨h2, hr⟩ := gsome hr
  obtain ⟨x1, h3, hr⟩ := bsome hr
  obtain ⟨z2, h3k, h3l0⟩ := qmp9 (g1 := []) (g2 := []) (g3 := []) (v3_0_3_0 := 0) (n3_0_3_0 := (List.replicate ((a1.length : Int)).toNat 0).length) (g4 := []) (g5 := []) (g6 := []) rfl h3
  replace h3k := qh9 rfl rfl rfl h3k
  try simp only [go_sem] at h3k
  obtain rfl := oiA hr
  refine run_V is43 (nbA rfl) ?_
  rotate_left
  all_goals (simp +decide only [go_sem, c43, *])
def c80 : ACode := .seq (.reg [] [(2, 0)] [.K 2 (.mv (.const Go.Value.nilIface))]) (.seq (.seq (.reg [] [] [.M 3 0, .K 4 (.bin .lss (.tmp 3) (cI 0))]) (.cond (.tmp 4) (some 4) (.seq (.reg [] [(2, 0)] [.M 5 0, .T 6 (.bin .sub (cI (-1)) (.tmp 5)), .T 7 (.mkI 130 (.tmp 6)), .N 2 7]) (.ret)) (.skip))) (.seq (.reg [] [(2, 0)] [.M 8 0, .T 9 (.mkI 128 (.tmp 8)), .N 2 9]) (.ret)))
theorem is80 : IsF C 80 10 21 c80 [.tmp 2] := ⟨⟨Tryd.f80, _, C_P ▸ Tryd.func80, rfl, rfl, rfl, by kernel_rfl, rfl⟩⟩
theorem qoo9 {a0 : Int} {r : D} (hr : qek9 a0 = some r) : Res C 80 [.v (.int .i64 a0)] (.d (r)) := by
  simp only [qek9] at hr
  rcases iteP hr with ⟨h1, hr⟩ | ⟨h1, hr⟩
  obtain rfl := oiA hr
  refine run_V is80 (nbA rfl) ?_
  rotate_left
  obtain rfl := oiA hr
  refine run_V is80 (nbA rfl) ?_
  rotate_left
  all_goals (simp +decide only [go_sem, c80, *])
def qoZ9 : ACode := .seq (.seq (.reg [] [] [.M 8 6, .K 9 (.bin .gtr (.tmp 8) (cI 0))]) (.cond (.tmp 9) (some 9) (.skip) (.exit 0))) (.seq (.block 1 131712 (.seq (.seq (.reg [] [] [.M 12 1, .M 13 5, .T 14 (.ix 1 (.tmp 12) (.tmp 13)), .T 15 (.load none (.tmp 14)), .N 7 15]) (.seq (.reg [] [] [.M 16 7, .K 17 (.bin .geq (.tmp 16) (cI 0))]) (.cond (.tmp 17) (some 17) (.reg [] [] [.M 18 6, .M 19 0, .M 20 7, .T 21 (.ix 2 (.tmp 19) (.tmp 20)), .T 22 (.fa 1 (.tmp 21)), .T 23 (.load none (.tmp 22)), .T 24 (.bin .add (.tmp 18) (.tmp 23)), .N 6 24]) (.skip)))) (.reg [] [] [.M 25 5, .T 26 (.bin .add (.tmp 25) (cI 1)), .N 5 26]))) (.reg [] [] [.M 10 6, .T 11 (.bin .sub (.tmp 10) (cI 1)), .N 6 11]))
def c81 : ACode := .seq (.reg [] [] [.K 4 (.mv (cI 0))]) (.seq (.reg [] [] [.K 5 (.mv (cI 0))]) (.seq (.seq (.reg [] [] [.K 6 (.mv (cI 1))]) (.block 0 131712 (.loop qoZ9))) (.seq (.reg [] [] [.M 27 5, .N 4 27]) (.ret))))
theorem is81 : IsF C 81 28 131827 c81 [.tmp 4] := ⟨⟨Tryd.f81, _, C_P ▸ Tryd.func81, rfl, rfl, rfl, by kernel_rfl, rfl⟩⟩
def qeX9 (s0 : List Symbol) (s1 : List Int) : Int × Int → Unit → St := fun (s5, s6) _ => ⟨[(0, .d (.rd (s0.map qb9))), (1, .d (.rd (s1.map intD))), (4, PI 0), (5, PI s5), (6, PI s6)], []⟩
def qmM9 (s0 : List Symbol) (s1 : List Int) : (Int × Int) → AExit × St → Prop := fun (s5, s6) q => ∃ g, q = (.exit 0, qeX9 s0 s1 (s5, s6) g)
theorem qnc9 {s0 : List Symbol} {s1 : List Int} : Sim C 131827 qoZ9 (qcn9 s0 s1) (qeX9 s0 s1) (qmM9 s0 s1) := by
  intro s g r hr
  obtain ⟨s5, s6⟩ := s
  simp only [qcn9] at hr
  rcases iteP hr with ⟨h1, hr⟩ | ⟨h1, hr⟩
  obtain ⟨x1, h2, hr⟩ := bsome hr
  rcases iteP hr with ⟨h3, hr⟩ | ⟨h3, hr⟩
  obtain ⟨x2, h4, hr⟩ := bsome hr
  obtain rfl := oiA hr
  refine ⟨(), ?_⟩
  rotate_left
  obtain rfl := oiA hr
  refine ⟨(), ?_⟩
  rotate_left
  obtain rfl := oiA hr
  refine xe_of ⟨(), rfl⟩ ?_
  rotate_left
  all_goals (simp +decide only [go_sem, qeX9, qoZ9, *])
theorem qnM9 {a0 : List Symbol} {a1 : List Int} {r : Int} (hr : qfq9 a0 a1 = some r) : Res C 81 [.rd (a0.map qb9), .rd (a1.map intD)] (PI r) := by
  simp only [qfq9] at hr
  obtain ⟨x3, h1, hr⟩ := bsome hr
  obtain ⟨q1, h1L, h1X⟩ := qnc9.L (g := ()) h1
  obtain ⟨x4, x5⟩ := x3
  try dsimp only at hr
  obtain ⟨⟨⟩, rfl⟩ := h1X
  simp only [qeX9, go_sem] at h1L
  obtain rfl := oiA hr
  refine run_V is81 (nbA rfl) ?_
  rotate_left
  all_goals (simp +decide only [go_sem, c81, *])
def c60 : ACode := .seq (.reg [] [] [.K 4 (.mv (.const (.bool false)))]) (.seq (.reg [] [] [.T 5 (.load none (.tmp 1)), .M 6 0, .T 7 (.build [(0, 1), (1, 1)] [.d (.v (.int .i64 0)), .d (.v (.int .i64 0))] [(0, .tmp 5), (1, .tmp 6)]), ⟨none, .store 2 (.tmp 2) (.tmp 7), none, false, false⟩]) (.seq (.reg [] [] [.K 4 (.mv (.const (.bool false)))]) (.ret)))
theorem is60 : IsF C 60 8 23 c60 [.tmp 4] := ⟨⟨Tryd.f60, _, C_P ▸ Tryd.func60, rfl, rfl, rfl, by kernel_rfl, rfl⟩⟩
theorem qjT9 {s0 : Int} {b2_0 : Int} {b2_1 : Int} {b1_0 : Int} {g1 : AHeap} {g2 : AHeap} {g3 : AHeap} {r : Bool × Int × Int} (hr : qeo9 s0 b2_0 b2_1 b1_0 = some r) : Lim C 60 [PI s0, .ptr (g1.length + g2.length + 1) 0 0 0, .ptr g1.length 0 0 0] (g1 ++ (.row false 0 2 [[PI b2_0, PI b2_1]] :: (g2 ++ (.row false 0 1 [[PI b1_0]] :: g3)))) = some (resOf [PB r.1], (g1 ++ (.row false 0 2 [[PI r.2.1, PI r.2.2]] :: (g2 ++ (.row false 0 1 [[PI b1_0]] :: g3))))) := by
  simp only [qeo9] at hr
  obtain rfl := oiA hr
  refine run_L is60 (nbA rfl) ?_
  rotate_left
  all_goals (simp +decide only [go_sem, c60, *])
end Ld

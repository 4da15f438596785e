import Derived.Test.YtfjgfcnhklopdaaDoorSBC
set_option maxHeartbeats 4000000
set_option linter.unusedVariables false
set_option linter.unusedSimpArgs false
namespace Ld
open Go Go.Proofs Go.Abs
set_option maxRecDepth 8000
def c41 : ACode := .seq (.reg [] [] [.K 0 (.alloc [.im true [], .im true []] 2)]) (.seq (.reg [] [] [.T 1 (.build [(0, 1), (1, 1)] [.d (.v (.string ⟨#[]⟩)), .d (.v (.int .i64 0))] [(0, .const (.string { data := #[122, 101, 114, 111] }))]), .T 2 (.build [(0, 1), (1, 1)] [.d (.v (.string ⟨#[]⟩)), .d (.v (.int .i64 0))] [(0, .const (.string { data := #[115] })), (1, .const (.int .i64 1))]), .T 3 (.build [(0, 1), (1, 1)] [.d (.v (.string ⟨#[]⟩)), .d (.v (.int .i64 0))] [(0, .const (.string { data := #[112, 108, 117, 115] })), (1, .const (.int .i64 2))]), ⟨some (4, false), .lit 2 [(0, .tmp 1), (1, .tmp 2), (2, .tmp 3)], none, false, true⟩, ⟨some (5, false), .lit 1 [(0, .const (.int .i64 2)), (1, .const (.int .i64 0)), (2, .const (.int .i64 (-1)))], none, false, true⟩, ⟨some (6, false), .lit 1 [(0, .const (.int .i64 (-1)))], none, false, true⟩, .T 7 (.build [(0, 1), (1, 1)] [.im true [], .im true []] [(0, .tmp 5), (1, .tmp 6)]), ⟨some (8, false), .lit 1 [(0, .const (.int .i64 2)), (1, .const (.int .i64 1)), (2, .const (.int .i64 (-1))), (3, .const (.int .i64 (-2)))], none, false, true⟩, ⟨some (9, false), .lit 1 [(0, .const (.int .i64 1)), (1, .const (.int .i64 2)), (2, .const (.int .i64 (-1))), (3, .const (.int .i64 (-2)))], none, false, true⟩, .T 10 (.build [(0, 1), (1, 1)] [.im true [], .im true []] [(0, .tmp 8), (1, .tmp 9)]), ⟨some (11, false), .lit 2 [(0, .tmp 7), (1, .tmp 10)], none, false, true⟩, .T 12 (.build [(0, 1), (1, 1)] [.im true [], .im true []] [(0, .tmp 4), (1, .tmp 11)]), ⟨none, .store 2 (.tmp 0) (.tmp 12), none, false, false⟩]) (.ret))
theorem is41 : IsF C 41 13 1 c41 [.cell 0 25] := ⟨⟨Tryd.f41, _, C_P ▸ Tryd.func41, rfl, rfl, rfl, by kernel_rfl, rfl⟩⟩
theorem qtw9  {r : System} (hr : qjj9 = some r) : ∃ p hp, Lim C 41 [] [] = some (p, hp) ∧ rsT hp p = some (.d (.ag (qf9 r))) := by
  simp only [qjj9] at hr
  obtain rfl := oiA hr
  refine qh9 is41 (nbA rfl) (q := (.ret, ⟨[(0, .ptr 0 0 0 0)], (.row false 0 2 [[.d (.rd (([(Symbol.mk ({ data := #[122, 101, 114, 111] }) 0), (Symbol.mk ({ data := #[115] }) 1), (Symbol.mk ({ data := #[112, 108, 117, 115] }) 2)] : List Symbol).map qa9)), .d (.rd (([(Rule.mk ([2, 0, (-1)] : List Int) ([(-1)] : List Int)), (Rule.mk ([2, 1, (-1), (-2)] : List Int) ([1, 2, (-1), (-2)] : List Int))] : List Rule).map qd9))]] :: [])⟩)) ?_ (.inr rfl) ⟨[.ag [.d (.rd (([(Symbol.mk ({ data := #[122, 101, 114, 111] }) 0), (Symbol.mk ({ data := #[115] }) 1), (Symbol.mk ({ data := #[112, 108, 117, 115] }) 2)] : List Symbol).map qa9)), .d (.rd (([(Rule.mk ([2, 0, (-1)] : List Int) ([(-1)] : List Int)), (Rule.mk ([2, 1, (-1), (-2)] : List Int) ([1, 2, (-1), (-2)] : List Int))] : List Rule).map qd9))]], (qhq9 (qlS9 (cs := [.d (.rd (([(Symbol.mk ({ data := #[122, 101, 114, 111] }) 0), (Symbol.mk ({ data := #[115] }) 1), (Symbol.mk ({ data := #[112, 108, 117, 115] }) 2)] : List Symbol).map qa9)), .d (.rd (([(Rule.mk ([2, 0, (-1)] : List Int) ([(-1)] : List Int)), (Rule.mk ([2, 1, (-1), (-2)] : List Int) ([1, 2, (-1), (-2)] : List Int))] : List Rule).map qd9))]) (n := 2) (by kernel_rfl) (by kernel_rfl) rfl (nbA rfl)) rfl), ?_⟩
  rotate_left 2
  all_goals (simp +decide only [go_sem, Int.reduceToNat, Nat.reduceAdd, Nat.reduceLT, Nat.reduceMul, Nat.reducePow, reduceCtorEq, qg9, c41, *])
theorem qtx9  {r : System} (hr : qjj9 = some r) {h : AHeap} : callP C (Lim C) 41 [] h = some (.d (.ag (qf9 r)), h) := qbk9 (ds := []) rfl rfl rfl (qtw9 hr) h
theorem qiA9 {a0 : ByteArray} {r : Bool} (hr : qbt9 a0 = some r) {h : AHeap} : callP C (Lim C) 114 [.d (.v (.string a0))] h = some (.d (.v (.bool r)), h) := by
  have e : C.prim 114 = some qbQ9 := rfl
  simp only [callP, e, qbQ9, hr]

def c115 : ACode := .seq (.reg [] [] [.K 2 (.mv (.const (.bool false)))]) (.seq (.reg [] [] [.M 3 0, .T 4 (.bin .leq (.const (.int .i32 97)) (.tmp 3)), .M 5 4, .MG 6 5 true 0, .TG 7 5 true (.bin .leq (.tmp 6) (.const (.int .i32 122))), .T 8 (.pick (.tmp 5) (.tmp 7) (.const (.bool false))), .M 9 8, .MG 10 9 false 0, .TG 11 9 false (.bin .leq (.const (.int .i32 65)) (.tmp 10)), .MG 12 9 false 11, .MG 13 12 true 0, .TG 14 12 true (.bin .leq (.tmp 13) (.const (.int .i32 90))), .TG 15 9 false (.pick (.tmp 12) (.tmp 14) (.const (.bool false))), .T 16 (.pick (.tmp 9) (.const (.bool true)) (.tmp 15)), .M 17 16, .MG 18 17 false 0, .TG 19 17 false (.bin .geq (.tmp 18) (.const (.int .i32 128))), .T 20 (.pick (.tmp 17) (.const (.bool true)) (.tmp 19)), .N 2 20]) (.ret))
theorem is115 : IsF C 115 21 5 c115 [.tmp 2] := ⟨⟨Tryd.f115, _, C_P ▸ Tryd.func115, rfl, rfl, rfl, by kernel_rfl, rfl⟩⟩
theorem qpq9 {a0 : Int} {r : Bool} (hr : qfc9 a0 = some r) : ∃ p hp, Lim C 115 [.d (.v (.int .i32 a0))] [] = some (p, hp) ∧ rsT hp p = some (PB r) := by
  simp only [qfc9] at hr
  rcases pcA (97 ≤ a0) with h1 | h1
  simp only [h1, if_true] at hr
  rcases pcA (a0 ≤ 122) with h2 | h2
  simp only [h2, if_true] at hr
  obtain rfl := oiA hr
  refine qh9 is115 (nbA rfl) (q := (.ret, ⟨[(0, .d (.v (.int .i32 a0))), (2, PB true)], []⟩)) ?_ (.inr rfl) ⟨[PB true], rfl, ?_⟩
  rotate_left 2
  simp only [h2, if_false] at hr
  rcases pcA (65 ≤ a0) with h3 | h3
  simp only [h3, if_true] at hr
  rcases pcA (a0 ≤ 90) with h4 | h4
  simp only [h4, if_true] at hr
  obtain rfl := oiA hr
  refine qh9 is115 (nbA rfl) (q := (.ret, ⟨[(0, .d (.v (.int .i32 a0))), (2, PB true)], []⟩)) ?_ (.inr rfl) ⟨[PB true], rfl, ?_⟩
  rotate_left 2
  simp only [h4, if_false] at hr
  obtain rfl := oiA hr
  refine qh9 is115 (nbA rfl) (q := (.ret, ⟨[(0, .d (.v (.int .i32 a0))), (2, PB (decide (128 ≤ a0)))], []⟩)) ?_ (.inr rfl) ⟨[PB (decide (128 ≤ a0))], rfl, ?_⟩
  rotate_left 2
  simp only [h3, if_false] at hr
  obtain rfl := oiA hr
  refine qh9 is115 (nbA rfl) (q := (.ret, ⟨[(0, .d (.v (.int .i32 a0))), (2, PB (decide (128 ≤ a0)))], []⟩)) ?_ (.inr rfl) ⟨[PB (decide (128 ≤ a0))], rfl, ?_⟩
  rotate_left 2
  simp only [h1, if_false] at hr
  rcases pcA (65 ≤ a0) with h5 | h5
  simp only [h5, if_true] at hr
  rcases pcA (a0 ≤ 90) with h6 | h6
  simp only [h6, if_true] at hr
  obtain rfl := oiA hr
  refine qh9 is115 (nbA rfl) (q := (.ret, ⟨[(0, .d (.v (.int .i32 a0))), (2, PB true)], []⟩)) ?_ (.inr rfl) ⟨[PB true], rfl, ?_⟩
  rotate_left 2
  simp only [h6, if_false] at hr
  obtain rfl := oiA hr
  refine qh9 is115 (nbA rfl) (q := (.ret, ⟨[(0, .d (.v (.int .i32 a0))), (2, PB (decide (128 ≤ a0)))], []⟩)) ?_ (.inr rfl) ⟨[PB (decide (128 ≤ a0))], rfl, ?_⟩
  rotate_left 2
  simp only [h5, if_false] at hr
  obtain rfl := oiA hr
  refine qh9 is115 (nbA rfl) (q := (.ret, ⟨[(0, .d (.v (.int .i32 a0))), (2, PB (decide (128 ≤ a0)))], []⟩)) ?_ (.inr rfl) ⟨[PB (decide (128 ≤ a0))], rfl, ?_⟩
  rotate_left 2
  all_goals (simp +decide only [go_sem, Int.reduceToNat, Nat.reduceAdd, Nat.reduceLT, Nat.reduceMul, Nat.reducePow, reduceCtorEq, qg9, c115, *])
theorem qpe9 {a0 : Int} {r : Bool} (hr : qfc9 a0 = some r) {h : AHeap} : callP C (Lim C) 115 [.d (.v (.int .i32 a0))] h = some (PB r, h) := qbk9 (ds := [.v (.int .i32 a0)]) rfl rfl rfl (qpq9 hr) h
def b93_0 : ACode := .seq (.reg [] [] [.K 19 (.nxt (.tmp 18) true), .K 20 (.ext (.tmp 19) 0)]) (.seq (.cond (.tmp 20) (some 20) (.skip) (.exit 0)) (.block 1 77070360 (.seq (.reg [] [] [.T 21 (.ext (.tmp 19) 1), .T 22 (.ext (.tmp 19) 2), .N 3 21, .N 4 22]) (.block 2 77070360 (.seq (.reg [] [] [.M 24 4, .T 25 (.call 115 [.tmp 24]), .N 23 25]) (.cond (.tmp 23) (some 23) (.skip) (.seq (.reg [] [] [.M 27 3, .T 28 (.bin .gtr (.tmp 27) (cI 0)), .M 29 28, .MG 30 29 true 4, .TG 31 29 true (.bin .leq (.const (.int .i32 48)) (.tmp 30)), .MG 32 29 true 31, .MG 33 32 true 4, .TG 34 32 true (.bin .leq (.tmp 33) (.const (.int .i32 57))), .TG 35 29 true (.pick (.tmp 32) (.tmp 34) (.const (.bool false))), .MG 36 29 true 35, .MG 37 36 false 4, .TG 38 36 false (.bin .eql (.tmp 37) (.const (.int .i32 95))), .TG 39 29 true (.pick (.tmp 36) (.const (.bool true)) (.tmp 38)), .MG 40 29 true 39, .MG 41 40 false 4, .TG 42 40 false (.bin .eql (.tmp 41) (.const (.int .i32 39))), .TG 43 29 true (.pick (.tmp 40) (.const (.bool true)) (.tmp 42)), .T 44 (.pick (.tmp 29) (.tmp 43) (.const (.bool false))), .N 26 44]) (.cond (.tmp 26) (some 26) (.skip) (.seq (.reg [] [] [.K 2 (.mv (.const (.bool false)))]) (.ret))))))))))
def c93 : ACode := .seq (.reg [] [] [.K 2 (.mv (.const (.bool false)))]) (.seq (.seq (.reg [] [] [.M 5 0, .T 6 (.bin .eql (.tmp 5) (.const (.string { data := #[] }))), .M 7 6, .MG 8 7 false 0, .TG 9 7 false (.slen (.tmp 8)), .TG 10 7 false (.bin .gtr (.tmp 9) (cI 32)), .T 11 (.pick (.tmp 7) (.const (.bool true)) (.tmp 10)), .M 12 11, .MG 13 12 false 0, .TG 14 12 false (.call 114 [.tmp 13]), .TG 15 12 false (.not (.tmp 14)), .K 16 (.pick (.tmp 12) (.const (.bool true)) (.tmp 15))]) (.cond (.tmp 16) (some 16) (.seq (.reg [] [] [.K 2 (.mv (.const (.bool false)))]) (.ret)) (.skip))) (.seq (.seq (.reg [] [] [.M 17 0, .K 18 (.rng (.tmp 17))]) (.block 0 77070360 (.loop b93_0))) (.seq (.reg [] [] [.K 2 (.mv (.const (.bool true)))]) (.ret))))
theorem is93 : IsF C 93 45 77398045 c93 [.tmp 2] := ⟨⟨Tryd.f93, _, C_P ▸ Tryd.func93, rfl, rfl, rfl, by kernel_rfl, rfl⟩⟩
def qei9 (s0 : ByteArray) (t18 : ByteArray) : Nat → Unit → St := fun q18 _ => ⟨[(0, .d (.v (.string s0))), (2, PB false), (18, .it 0)], (.siter t18 q18 :: [])⟩
def qgI9 (s0 : ByteArray) (t18 : ByteArray) : (Bool ⊕ Nat) → AExit × St → Prop
  | .inl r, q => q.1 = .ret ∧ RetOK C [.tmp 2] q.2 (PB r)
  | .inr q18, q => ∃ d19 : PV, q = (.exit 0, ⟨[(0, .d (.v (.string s0))), (2, PB false), (18, .it 0), (19, d19)], (.siter t18 q18 :: [])⟩)
theorem qpm9 (s0 : ByteArray) (t18 : ByteArray) : ∀ (s : Nat) (g : Unit) r, qbE9 s0 t18 s = some r → Sum.elim (fun s' => ∃ g', semA C (Lim C) 77398045 b93_0 (qei9 s0 t18 s g) = some (.normal, qei9 s0 t18 s' g')) (fun x => ∃ q, semA C (Lim C) 77398045 b93_0 (qei9 s0 t18 s g) = some q ∧ q.1 ≠ .normal ∧ qgI9 s0 t18 x q) r := by
  intro s g r hr
  have ⟨q18, hs0⟩ : ∃ y, y = s := ⟨_, rfl⟩
  subst hs0
  simp only [qbE9] at hr
  rcases pcA (q18 < t18.size) with h1 | h1
  simp only [h1, if_true] at hr
  obtain ⟨x2, h2, hr⟩ := bsome hr
  have h2k := fun h => qpe9 (h := h) h2
  try simp only [go_sem] at h2k
  cases h3 : x2
  simp only [h3, Bool.false_eq_true, if_false] at hr
  rcases pcA (0 < (q18 : Int)) with h4 | h4
  simp only [h4, if_true] at hr
  rcases pcA (48 ≤ ((Utf8.decode t18 q18).1 : Int)) with h5 | h5
  simp only [h5, if_true] at hr
  rcases pcA (((Utf8.decode t18 q18).1 : Int) ≤ 57) with h6 | h6
  simp only [h6, if_true] at hr
  obtain rfl := oiA hr
  refine ⟨(), ?_⟩
  rotate_left
  simp only [h6, if_false] at hr
  rcases pcA (((Utf8.decode t18 q18).1 : Int) = 95) with h7 | h7
  simp only [h7, if_true] at hr
  obtain rfl := oiA hr
  refine ⟨(), ?_⟩
  rotate_left
  simp only [h7, if_false] at hr
  rcases pcA (((Utf8.decode t18 q18).1 : Int) = 39) with h8 | h8
  simp only [h8, if_true] at hr
  obtain rfl := oiA hr
  refine ⟨(), ?_⟩
  rotate_left
  simp only [h8, if_false] at hr
  obtain rfl := oiA hr
  refine ⟨(.ret, ⟨[(0, .d (.v (.string s0))), (2, PB false), (3, PI (q18 : Int)), (4, .d (.v (.int .i32 ((Utf8.decode t18 q18).1 : Int)))), (18, .it 0), (19, .tp [PB true, PI (q18 : Int), .d (.v (.int .i32 ((Utf8.decode t18 q18).1 : Int)))])], (.siter t18 (q18 + (Utf8.decode t18 q18).2) :: [])⟩), ?_, nofun, rfl, [PB false], rfl, ?_⟩
  rotate_left 2
  simp only [h5, if_false] at hr
  rcases pcA (((Utf8.decode t18 q18).1 : Int) = 95) with h9 | h9
  simp only [h9, if_true] at hr
  obtain rfl := oiA hr
  refine ⟨(), ?_⟩
  rotate_left
  simp only [h9, if_false] at hr
  rcases pcA (((Utf8.decode t18 q18).1 : Int) = 39) with h10 | h10
  simp only [h10, if_true] at hr
  obtain rfl := oiA hr
  refine ⟨(), ?_⟩
  rotate_left
  simp only [h10, if_false] at hr
  obtain rfl := oiA hr
  refine ⟨(.ret, ⟨[(0, .d (.v (.string s0))), (2, PB false), (3, PI (q18 : Int)), (4, .d (.v (.int .i32 ((Utf8.decode t18 q18).1 : Int)))), (18, .it 0), (19, .tp [PB true, PI (q18 : Int), .d (.v (.int .i32 ((Utf8.decode t18 q18).1 : Int)))])], (.siter t18 (q18 + (Utf8.decode t18 q18).2) :: [])⟩), ?_, nofun, rfl, [PB false], rfl, ?_⟩
  rotate_left 2
  simp only [h4, if_false] at hr
  obtain rfl := oiA hr
  refine ⟨(.ret, ⟨[(0, .d (.v (.string s0))), (2, PB false), (3, PI (q18 : Int)), (4, .d (.v (.int .i32 ((Utf8.decode t18 q18).1 : Int)))), (18, .it 0), (19, .tp [PB true, PI (q18 : Int), .d (.v (.int .i32 ((Utf8.decode t18 q18).1 : Int)))])], (.siter t18 (q18 + (Utf8.decode t18 q18).2) :: [])⟩), ?_, nofun, rfl, [PB false], rfl, ?_⟩
  rotate_left 2
  simp only [h3, if_true] at hr
  obtain rfl := oiA hr
  refine ⟨(), ?_⟩
  rotate_left
  simp only [h1, if_false] at hr
  obtain rfl := oiA hr
  refine ⟨(.exit 0, ⟨[(0, .d (.v (.string s0))), (2, PB false), (18, .it 0), (19, (.tp [PB false]))], (.siter t18 q18 :: [])⟩), ?_, nofun, .tp [PB false], rfl⟩
  rotate_left
  all_goals (simp +decide only [go_sem, Int.reduceToNat, Nat.reduceAdd, Nat.reduceLT, Nat.reduceMul, Nat.reducePow, reduceCtorEq, qei9, b93_0, *])
theorem qpc9 {s0 : ByteArray} {t18 : ByteArray} {s : Nat} {g : Unit} {x} (h : wh (qbE9 s0 t18) s = some x) : ∃ q, qp9 (semA C (Lim C) 77398045 b93_0) (qei9 s0 t18 s g) = some q ∧ qgI9 s0 t18 x q := qcx9 (qpm9 s0 t18) h
theorem qqs9 {a0 : ByteArray} {r : Bool} (hr : qbS9 a0 = some r) : ∃ p hp, Lim C 93 [.d (.v (.string a0))] [] = some (p, hp) ∧ rsT hp p = some (PB r) := by
  simp only [qbS9] at hr
  rcases pcA (a0 = ({ data := #[] })) with h1 | h1
  simp only [h1, if_true] at hr
  obtain rfl := oiA hr
  refine qh9 is93 (nbA rfl) (q := (.ret, ⟨[(0, .d (.v (.string a0))), (2, PB false)], []⟩)) ?_ (.inr rfl) ⟨[PB false], rfl, ?_⟩
  rotate_left 2
  simp only [h1, if_false] at hr
  rcases pcA (32 < (a0.size : Int)) with h2 | h2
  simp only [h2, if_true] at hr
  obtain rfl := oiA hr
  refine qh9 is93 (nbA rfl) (q := (.ret, ⟨[(0, .d (.v (.string a0))), (2, PB false)], []⟩)) ?_ (.inr rfl) ⟨[PB false], rfl, ?_⟩
  rotate_left 2
  simp only [h2, if_false] at hr
  obtain ⟨x1, h3, hr⟩ := bsome hr
  have h3k := fun h => qiA9 (h := h) h3
  try simp only [go_sem] at h3k
  cases h4 : x1
  simp only [h4, Bool.false_eq_true, if_false] at hr
  obtain rfl := oiA hr
  refine qh9 is93 (nbA rfl) (q := (.ret, ⟨[(0, .d (.v (.string a0))), (2, PB false)], []⟩)) ?_ (.inr rfl) ⟨[PB false], rfl, ?_⟩
  rotate_left 2
  simp only [h4, if_true] at hr
  obtain ⟨x3, h5, hr⟩ := bsome hr
  obtain ⟨q5, h5L, h5X⟩ := qpc9 (g := ()) h5
  rcases x3 with x4 | x5
  simp only [qgI9, qei9] at h5X h5L
  obtain ⟨e5, st5⟩ := q5
  obtain ⟨rfl, h5R⟩ := h5X
  try simp only [go_sem, Nat.reduceAdd, la1, la2, la3, la4, la5, la6] at h5L
  obtain rfl := oiA hr
  refine qh9 is93 (nbA rfl) ?_ (.inr rfl) h5R
  rotate_left
  simp only [qgI9, qei9] at h5X h5L
  obtain ⟨z6, rfl⟩ := h5X
  try simp only [go_sem, Nat.reduceAdd, la1, la2, la3, la4, la5, la6] at h5L
  obtain rfl := oiA hr
  refine qh9 is93 (nbA rfl) (q := (.ret, ⟨[(0, .d (.v (.string a0))), (2, PB true), (18, .it 0)], (.siter a0 x5 :: [])⟩)) ?_ (.inr rfl) ⟨[PB true], rfl, ?_⟩
  rotate_left 2
  all_goals (simp +decide only [go_sem, Int.reduceToNat, Nat.reduceAdd, Nat.reduceLT, Nat.reduceMul, Nat.reducePow, reduceCtorEq, qg9, c93, *])
theorem qlC9 {a0 : ByteArray} {r : Bool} (hr : qbS9 a0 = some r) {h : AHeap} : callP C (Lim C) 93 [.d (.v (.string a0))] h = some (PB r, h) := qbk9 (ds := [.v (.string a0)]) rfl rfl rfl (qqs9 hr) h
def c95 : ACode := .seq (.reg [] [] [.K 2 (.box (.tmp 0)), .K 3 (.mv (.const (.bool false)))]) (.seq (.reg [] [] [.T 4 (.fa 0 (.tmp 2)), .T 5 (.load none (.tmp 4)), .T 6 (.fa 0 (.tmp 1)), .T 7 (.load none (.tmp 6)), .T 8 (.bin .eql (.tmp 5) (.tmp 7)), .N 3 8]) (.ret))
theorem is95 : IsF C 95 9 15 c95 [.tmp 3] := ⟨⟨Tryd.f95, _, C_P ▸ Tryd.func95, rfl, rfl, rfl, by kernel_rfl, rfl⟩⟩
theorem qlk9 {a0 : Symbol} {a1 : Symbol} {r : Bool} (hr : qeE9 a0 a1 = some r) : ∃ p hp, Lim C 95 [.d (.ag (qa9 a0)), .d (.bx (qa9 a1))] [] = some (p, hp) ∧ rsT hp p = some (PB r) := by
  simp only [qeE9] at hr
  obtain rfl := oiA hr
  refine qh9 is95 (nbA rfl) (q := (.ret, ⟨[(0, .d (.ag (qa9 a0))), (1, .d (.bx (qa9 a1))), (2, .ptr 0 0 0 0), (3, PB (decide (a0.Name = a1.Name)))], (.row false 0 2 [[.d (.v (.string a0.Name)), PI a0.Arity]] :: [])⟩)) ?_ (.inr rfl) ⟨[PB (decide (a0.Name = a1.Name))], rfl, ?_⟩
  rotate_left 2
  all_goals (simp +decide only [go_sem, Int.reduceToNat, Nat.reduceAdd, Nat.reduceLT, Nat.reduceMul, Nat.reducePow, reduceCtorEq, qg9, c95, *])
theorem qlo9 {a0 : Symbol} {a1 : Symbol} {r : Bool} (hr : qeE9 a0 a1 = some r) {h : AHeap} {args : List PV} (ha : mapO (rs h depth) args = some [.ag (qa9 a0), .bx (qa9 a1)]) : callP C (Lim C) 95 args h = some (PB r, if scalar (PB r) = true then h else freezeAll (args.flatMap (reach h depth)) h) := qdD9 rfl rfl rfl (qlk9 hr) ha
def qhk9 : ACode := .seq (.reg [] [] [.K 9 (.bin .lss (.tmp 8) (.tmp 7))]) (.seq (.cond (.tmp 9) (some 9) (.skip) (.exit 0)) (.seq (.block 1 66080 (.seq (.reg [] [] [.M 10 8, .N 5 10]) (.seq (.reg [] [] [.M 11 1, .M 12 0, .M 13 5, .T 14 (.ix 2 (.tmp 12) (.tmp 13)), .T 15 (.load (some 2) (.tmp 14)), .K 16 (.callV (.tmp 11) [.tmp 15])]) (.cond (.tmp 16) (some 16) (.seq (.reg [] [] [.M 17 5, .N 4 17]) (.ret)) (.skip))))) (.reg [] [] [.T 18 (.bin .add (.tmp 8) (cI 1)), .N 8 18])))
def c116 : ACode := .seq (.reg [] [] [.K 4 (.mv (cI 0))]) (.seq (.seq (.reg [] [] [.M 6 0, .K 7 (.len (.tmp 6)), .K 8 (.mv (cI 0))]) (.block 0 66080 (.loop qhk9))) (.seq (.reg [] [] [.K 4 (.mv (cI (-1)))]) (.ret)))
theorem is116 : IsF C 116 19 66483 c116 [.tmp 4] := ⟨⟨Tryd.f116, _, C_P ▸ Tryd.func116, rfl, rfl, rfl, by kernel_rfl, rfl⟩⟩
def qj9 (s0 : List Symbol) (s1_0 : Symbol) (s7 : Int) : Int → Unit → St := fun s8 _ => ⟨[(0, .d (.rd (s0.map qa9))), (1, .d (.fn 95 [.bx (qa9 s1_0)])), (4, PI 0), (7, PI s7), (8, PI s8)], []⟩
def qF9 (s0 : List Symbol) (s1_0 : Symbol) (s7 : Int) : (Int ⊕ Int) → AExit × St → Prop
  | .inl r, q => q.1 = .ret ∧ RetOK C [.tmp 4] q.2 (PI r)
  | .inr s8, q => q = (.exit 0, ⟨[(0, .d (.rd (s0.map qa9))), (1, .d (.fn 95 [.bx (qa9 s1_0)])), (4, PI 0), (7, PI s7), (8, PI s8)], []⟩)
theorem qdi9 (s0 : List Symbol) (s1_0 : Symbol) (s7 : Int) : ∀ (s : Int) (g : Unit) r, qi9 s0 s1_0 s7 s = some r → Sum.elim (fun s' => ∃ g', semA C (Lim C) 66483 qhk9 (qj9 s0 s1_0 s7 s g) = some (.normal, qj9 s0 s1_0 s7 s' g')) (fun x => ∃ q, semA C (Lim C) 66483 qhk9 (qj9 s0 s1_0 s7 s g) = some q ∧ q.1 ≠ .normal ∧ qF9 s0 s1_0 s7 x q) r := by
  intro s g r hr
  have ⟨s8, hs0⟩ : ∃ y, y = s := ⟨_, rfl⟩
  subst hs0
  simp only [qi9] at hr
  rcases pcA (s8 < s7) with h1 | h1
  simp only [h1, if_true] at hr
  obtain ⟨x1, h2, hr⟩ := bsome hr
  obtain ⟨x2, h3, hr⟩ := bsome hr
  have h3k := fun h => qlo9 (h := h) (args := [.ag [.d (.v (.string x1.Name)), PI x1.Arity], .d (.bx (qa9 s1_0))]) h3 rfl
  try simp only [go_sem] at h3k
  cases h4 : x2
  simp only [h4, Bool.false_eq_true, if_false] at hr
  obtain rfl := oiA hr
  refine ⟨(), ?_⟩
  rotate_left
  simp only [h4, if_true] at hr
  obtain rfl := oiA hr
  refine ⟨(.ret, ⟨[(0, .d (.rd (s0.map qa9))), (1, .d (.fn 95 [.bx (qa9 s1_0)])), (4, PI s8), (5, PI s8), (7, PI s7), (8, PI s8)], []⟩), ?_, nofun, rfl, [PI s8], rfl, ?_⟩
  rotate_left 2
  simp only [h1, if_false] at hr
  obtain rfl := oiA hr
  refine ⟨(.exit 0, ⟨[(0, .d (.rd (s0.map qa9))), (1, .d (.fn 95 [.bx (qa9 s1_0)])), (4, PI 0), (7, PI s7), (8, PI s8)], []⟩), ?_, nofun, rfl⟩
  rotate_left
  all_goals (simp +decide only [go_sem, Int.reduceToNat, Nat.reduceAdd, Nat.reduceLT, Nat.reduceMul, Nat.reducePow, reduceCtorEq, qj9, qhk9, *])
theorem qdc9 {s0 : List Symbol} {s1_0 : Symbol} {s7 : Int} {s : Int} {g : Unit} {x} (h : wh (qi9 s0 s1_0 s7) s = some x) : ∃ q, qp9 (semA C (Lim C) 66483 qhk9) (qj9 s0 s1_0 s7 s g) = some q ∧ qF9 s0 s1_0 s7 x q := qcx9 (qdi9 s0 s1_0 s7) h
theorem qdm9 {a0 : List Symbol} {a1_0 : Symbol} {r : Int} (hr : qx9 a0 a1_0 = some r) : ∃ p hp, Lim C 116 [.d (.rd (a0.map qa9)), .d (.fn 95 [.bx (qa9 a1_0)])] [] = some (p, hp) ∧ rsT hp p = some (PI r) := by
  simp only [qx9] at hr
  obtain ⟨x3, h1, hr⟩ := bsome hr
  obtain ⟨q1, h1L, h1X⟩ := qdc9 (g := ()) h1
  rcases x3 with x4 | x5
  simp only [qF9, qj9] at h1X h1L
  obtain ⟨e1, st1⟩ := q1
  obtain ⟨rfl, h1R⟩ := h1X
  try simp only [go_sem, Nat.reduceAdd, la1, la2, la3, la4, la5, la6] at h1L
  obtain rfl := oiA hr
  refine qh9 is116 (nbA rfl) ?_ (.inr rfl) h1R
  rotate_left
  simp only [qF9, qj9] at h1X h1L
  subst h1X
  try simp only [go_sem, Nat.reduceAdd, la1, la2, la3, la4, la5, la6] at h1L
  obtain rfl := oiA hr
  refine qh9 is116 (nbA rfl) (q := (.ret, ⟨[(0, .d (.rd (a0.map qa9))), (1, .d (.fn 95 [.bx (qa9 a1_0)])), (4, PI (-1)), (7, PI (a0.length : Int)), (8, PI x5)], []⟩)) ?_ (.inr rfl) ⟨[PI (-1)], rfl, ?_⟩
  rotate_left 2
  all_goals (simp +decide only [go_sem, Int.reduceToNat, Nat.reduceAdd, Nat.reduceLT, Nat.reduceMul, Nat.reducePow, reduceCtorEq, qg9, c116, *])
theorem qdo9 {a0 : List Symbol} {a1_0 : Symbol} {r : Int} (hr : qx9 a0 a1_0 = some r) {h : AHeap} : callP C (Lim C) 116 [.d (.rd (a0.map qa9)), .d (.fn 95 [.bx (qa9 a1_0)])] h = some (PI r, h) := qbk9 (ds := [.rd (a0.map qa9), .fn 95 [.bx (qa9 a1_0)]]) rfl rfl rfl (qdm9 hr) h
def c94 : ACode := .seq (.reg [] [] [.K 4 (.mv (.const (.bool false)))]) (.seq (.reg [] [] [.M 5 0, .M 6 1, .T 7 (.call 116 [.tmp 5, .tmp 6]), .T 8 (.bin .geq (.tmp 7) (cI 0)), .N 4 8]) (.ret))
theorem is94 : IsF C 94 9 19 c94 [.tmp 4] := ⟨⟨Tryd.f94, _, C_P ▸ Tryd.func94, rfl, rfl, rfl, by kernel_rfl, rfl⟩⟩
theorem qcV9 {a0 : List Symbol} {a1_0 : Symbol} {r : Bool} (hr : qk9 a0 a1_0 = some r) : ∃ p hp, Lim C 94 [.d (.rd (a0.map qa9)), .d (.fn 95 [.bx (qa9 a1_0)])] [] = some (p, hp) ∧ rsT hp p = some (PB r) := by
  simp only [qk9] at hr
  obtain ⟨x1, h1, hr⟩ := bsome hr
  have h1k := fun h => qdo9 (h := h) h1
  try simp only [go_sem] at h1k
  obtain rfl := oiA hr
  refine qh9 is94 (nbA rfl) (q := (.ret, ⟨[(0, .d (.rd (a0.map qa9))), (1, .d (.fn 95 [.bx (qa9 a1_0)])), (4, PB (decide (0 ≤ x1)))], []⟩)) ?_ (.inr rfl) ⟨[PB (decide (0 ≤ x1))], rfl, ?_⟩
  rotate_left 2
  all_goals (simp +decide only [go_sem, Int.reduceToNat, Nat.reduceAdd, Nat.reduceLT, Nat.reduceMul, Nat.reducePow, reduceCtorEq, qg9, c94, *])
theorem qbs9 {a0 : List Symbol} {a1_0 : Symbol} {r : Bool} (hr : qk9 a0 a1_0 = some r) {h : AHeap} {args : List PV} (ha : mapO (rs h depth) args = some [.rd (a0.map qa9), .fn 95 [.bx (qa9 a1_0)]]) : callP C (Lim C) 94 args h = some (PB r, if scalar (PB r) = true then h else freezeAll (args.flatMap (reach h depth)) h) := qdD9 rfl rfl rfl (qcV9 hr) ha
def b69_0 : ACode := .seq (.reg [] [] [.K 12 (.bin .lss (.tmp 11) (.tmp 10))]) (.seq (.cond (.tmp 12) (some 12) (.skip) (.exit 0)) (.seq (.block 1 18049582882099256 (.seq (.reg [] [] [.M 13 11, .T 14 (.ix 2 (.tmp 9) (.tmp 11)), .T 15 (.load (some 2) (.tmp 14)), .K 4 (.alloc [.d (.v (.string ⟨#[]⟩)), .d (.v (.int .i64 0))] 2), .N 3 13, ⟨none, .store 2 (.tmp 4) (.tmp 15), none, false, false⟩]) (.seq (.reg [] [] [.T 16 (.fa 0 (.tmp 4)), .T 17 (.load none (.tmp 16)), .T 18 (.slen (.tmp 17)), .N 5 18]) (.block 2 18049582882099256 (.seq (.reg [] [] [.T 20 (.fa 0 (.tmp 4)), .T 21 (.load none (.tmp 20)), .T 22 (.call 93 [.tmp 21]), .T 23 (.not (.tmp 22)), .M 24 23, .MG 25 24 true 5, .TG 26 24 true (.bin .eql (.tmp 25) (cI 0)), .MG 27 24 true 26, .TG 28 27 false (.fa 0 (.tmp 4)), .TG 29 27 false (.load none (.tmp 28)), .MG 30 27 false 5, .TG 31 27 false (.bin .sub (.tmp 30) (cI 1)), .TG 32 27 false (.ixS (.tmp 29) (.tmp 31)), .TG 33 27 false (.bin .neq (.tmp 32) (.const (.int .u8 35))), .TG 34 24 true (.pick (.tmp 27) (.const (.bool true)) (.tmp 33)), .MG 35 24 true 34, .TG 36 35 false (.fa 0 (.tmp 4)), .TG 37 35 false (.load none (.tmp 36)), .MG 38 35 false 5, .TG 39 35 false (.bin .sub (.tmp 38) (cI 1)), .TG 40 35 false (.cutS (.tmp 37) none (some (.tmp 39))), .TG 41 35 false (.call 93 [.tmp 40]), .TG 42 35 false (.not (.tmp 41)), .TG 43 24 true (.pick (.tmp 35) (.const (.bool true)) (.tmp 42)), .T 44 (.pick (.tmp 24) (.tmp 43) (.const (.bool false))), .N 19 44]) (.cond (.tmp 19) (some 19) (.seq (.reg [] [] [.K 2 (.mv (cI 34))]) (.ret)) (.seq (.reg [] [] [.T 46 (.fa 1 (.tmp 4)), .T 47 (.load none (.tmp 46)), .T 48 (.bin .lss (.tmp 47) (cI 0)), .M 49 48, .TG 50 49 false (.fa 1 (.tmp 4)), .TG 51 49 false (.load none (.tmp 50)), .TG 52 49 false (.bin .gtr (.tmp 51) (cI 8)), .T 53 (.pick (.tmp 49) (.const (.bool true)) (.tmp 52)), .N 45 53]) (.cond (.tmp 45) (some 45) (.seq (.reg [] [] [.K 2 (.mv (cI 35))]) (.ret)) (.seq (.reg [] [] [.M 55 0, .M 56 3, .T 57 (.cut 2 (.tmp 55) none (some (.tmp 56))), .T 58 (.mkF 95 [.tmp 4]), .T 59 (.call 94 [.tmp 57, .tmp 58]), .N 54 59]) (.cond (.tmp 54) (some 54) (.seq (.reg [] [] [.K 2 (.mv (cI 36))]) (.ret)) (.skip))))))))))) (.reg [] [] [.T 60 (.bin .add (.tmp 11) (cI 1)), .N 11 60])))
def c69 : ACode := .seq (.reg [] [] [.K 2 (.mv (cI 0))]) (.seq (.seq (.reg [] [] [.M 6 0, .T 7 (.len (.tmp 6)), .K 8 (.bin .gtr (.tmp 7) (cI 128))]) (.cond (.tmp 8) (some 8) (.seq (.reg [] [] [.K 2 (.mv (cI 37))]) (.ret)) (.skip))) (.seq (.seq (.reg [] [] [.N 9 0, .K 10 (.len (.tmp 9)), .K 11 (.mv (cI 0))]) (.block 0 18049582882099256 (.loop b69_0))) (.seq (.reg [] [] [.K 2 (.mv (cI 0))]) (.ret))))
theorem is69 : IsF C 69 61 18049582882103101 c69 [.tmp 2] := ⟨⟨Tryd.f69, _, C_P ▸ Tryd.func69, rfl, rfl, rfl, by kernel_rfl, rfl⟩⟩
def qcY9 (s0 : List Symbol) (s9 : List Symbol) (s10 : Int) : Int → AHeap → St := fun s11 gt => ⟨[(0, .d (.rd (s0.map qa9))), (2, PI 0), (9, .d (.rd (s9.map qa9))), (10, PI s10), (11, PI s11)], gt⟩
def qfu9 (s0 : List Symbol) (s9 : List Symbol) (s10 : Int) : (Int ⊕ Int) → AExit × St → Prop
  | .inl r, q => q.1 = .ret ∧ RetOK C [.tmp 2] q.2 (PI r)
  | .inr s11, q => ∃ h1 : AHeap, q = (.exit 0, ⟨[(0, .d (.rd (s0.map qa9))), (2, PI 0), (9, .d (.rd (s9.map qa9))), (10, PI s10), (11, PI s11)], h1⟩)
theorem qmH9 (s0 : List Symbol) (s9 : List Symbol) (s10 : Int) : ∀ (s : Int) (g : AHeap) r, qN9 s0 s9 s10 s = some r → Sum.elim (fun s' => ∃ g', semA C (Lim C) 18049582882103101 b69_0 (qcY9 s0 s9 s10 s g) = some (.normal, qcY9 s0 s9 s10 s' g')) (fun x => ∃ q, semA C (Lim C) 18049582882103101 b69_0 (qcY9 s0 s9 s10 s g) = some q ∧ q.1 ≠ .normal ∧ qfu9 s0 s9 s10 x q) r := by
  intro s g r hr
  have ⟨s11, hs0⟩ : ∃ y, y = s := ⟨_, rfl⟩
  subst hs0
  have ⟨gt, hg0⟩ : ∃ y, y = g := ⟨_, rfl⟩
  subst hg0
  simp only [qN9] at hr
  rcases pcA (s11 < s10) with h1 | h1
  simp only [h1, if_true] at hr
  obtain ⟨x1, h2, hr⟩ := bsome hr
  obtain ⟨x2, h3, hr⟩ := bsome hr
  have h3k := fun h => qlC9 (h := h) h3
  try simp only [go_sem] at h3k
  cases h4 : x2
  simp only [h4, Bool.false_eq_true, if_false] at hr
  rcases pcA ((x1.Name.size : Int) = 0) with h10 | h10
  simp only [h10, if_true] at hr
  obtain rfl := oiA hr
  refine ⟨(.ret, ⟨[(0, .d (.rd (s0.map qa9))), (2, PI 34), (3, PI s11), (4, .ptr gt.length 0 0 0), (5, PI (x1.Name.size : Int)), (9, .d (.rd (s9.map qa9))), (10, PI s10), (11, PI s11)], (gt ++ (.row false 0 2 [[.d (.v (.string x1.Name)), PI x1.Arity]] :: []))⟩), ?_, nofun, rfl, [PI 34], rfl, ?_⟩
  rotate_left 2
  simp only [h10, if_false] at hr
  obtain ⟨x5, h11, hr⟩ := bsome hr
  rcases pcA (x5 = 35) with h12 | h12
  simp only [h12, if_true] at hr
  obtain ⟨x6, h13, hr⟩ := bsome hr
  obtain ⟨x7, h14, hr⟩ := bsome hr
  have h14k := fun h => qlC9 (h := h) h14
  try simp only [go_sem] at h14k
  cases h15 : x7
  simp only [h15, Bool.false_eq_true, if_false] at hr
  obtain rfl := oiA hr
  refine ⟨(.ret, ⟨[(0, .d (.rd (s0.map qa9))), (2, PI 34), (3, PI s11), (4, .ptr gt.length 0 0 0), (5, PI (x1.Name.size : Int)), (9, .d (.rd (s9.map qa9))), (10, PI s10), (11, PI s11)], (gt ++ (.row false 0 2 [[.d (.v (.string x1.Name)), PI x1.Arity]] :: []))⟩), ?_, nofun, rfl, [PI 34], rfl, ?_⟩
  rotate_left 2
  simp only [h15, if_true] at hr
  rcases pcA (x1.Arity < 0) with h16 | h16
  simp only [h16, if_true] at hr
  obtain rfl := oiA hr
  refine ⟨(.ret, ⟨[(0, .d (.rd (s0.map qa9))), (2, PI 35), (3, PI s11), (4, .ptr gt.length 0 0 0), (5, PI (x1.Name.size : Int)), (9, .d (.rd (s9.map qa9))), (10, PI s10), (11, PI s11)], (gt ++ (.row false 0 2 [[.d (.v (.string x1.Name)), PI x1.Arity]] :: []))⟩), ?_, nofun, rfl, [PI 35], rfl, ?_⟩
  rotate_left 2
  simp only [h16, if_false] at hr
  rcases pcA (8 < x1.Arity) with h17 | h17
  simp only [h17, if_true] at hr
  obtain rfl := oiA hr
  refine ⟨(.ret, ⟨[(0, .d (.rd (s0.map qa9))), (2, PI 35), (3, PI s11), (4, .ptr gt.length 0 0 0), (5, PI (x1.Name.size : Int)), (9, .d (.rd (s9.map qa9))), (10, PI s10), (11, PI s11)], (gt ++ (.row false 0 2 [[.d (.v (.string x1.Name)), PI x1.Arity]] :: []))⟩), ?_, nofun, rfl, [PI 35], rfl, ?_⟩
  rotate_left 2
  simp only [h17, if_false] at hr
  obtain ⟨x8, h18, hr⟩ := bsome hr
  obtain ⟨x9, h19, hr⟩ := bsome hr
  have h19k := fun h args ha => qbs9 (h := h) (args := args) h19 ha
  try simp only [go_sem] at h19k
  cases h20 : x9
  simp only [h20, Bool.false_eq_true, if_false] at hr
  obtain rfl := oiA hr
  refine ⟨(gt ++ (.row false 0 2 [[.d (.v (.string x1.Name)), PI x1.Arity]] :: [])), ?_⟩
  rotate_left
  simp only [h20, if_true] at hr
  obtain rfl := oiA hr
  refine ⟨(.ret, ⟨[(0, .d (.rd (s0.map qa9))), (2, PI 36), (3, PI s11), (4, .ptr gt.length 0 0 0), (5, PI (x1.Name.size : Int)), (9, .d (.rd (s9.map qa9))), (10, PI s10), (11, PI s11)], (gt ++ (.row false 0 2 [[.d (.v (.string x1.Name)), PI x1.Arity]] :: []))⟩), ?_, nofun, rfl, [PI 36], rfl, ?_⟩
  rotate_left 2
  simp only [h12, if_false] at hr
  obtain rfl := oiA hr
  refine ⟨(.ret, ⟨[(0, .d (.rd (s0.map qa9))), (2, PI 34), (3, PI s11), (4, .ptr gt.length 0 0 0), (5, PI (x1.Name.size : Int)), (9, .d (.rd (s9.map qa9))), (10, PI s10), (11, PI s11)], (gt ++ (.row false 0 2 [[.d (.v (.string x1.Name)), PI x1.Arity]] :: []))⟩), ?_, nofun, rfl, [PI 34], rfl, ?_⟩
  rotate_left 2
  simp only [h4, if_true] at hr
  rcases pcA (x1.Arity < 0) with h5 | h5
  simp only [h5, if_true] at hr
  obtain rfl := oiA hr
  refine ⟨(.ret, ⟨[(0, .d (.rd (s0.map qa9))), (2, PI 35), (3, PI s11), (4, .ptr gt.length 0 0 0), (5, PI (x1.Name.size : Int)), (9, .d (.rd (s9.map qa9))), (10, PI s10), (11, PI s11)], (gt ++ (.row false 0 2 [[.d (.v (.string x1.Name)), PI x1.Arity]] :: []))⟩), ?_, nofun, rfl, [PI 35], rfl, ?_⟩
  rotate_left 2
  simp only [h5, if_false] at hr
  rcases pcA (8 < x1.Arity) with h6 | h6
  simp only [h6, if_true] at hr
  obtain rfl := oiA hr
  refine ⟨(.ret, ⟨[(0, .d (.rd (s0.map qa9))), (2, PI 35), (3, PI s11), (4, .ptr gt.length 0 0 0), (5, PI (x1.Name.size : Int)), (9, .d (.rd (s9.map qa9))), (10, PI s10), (11, PI s11)], (gt ++ (.row false 0 2 [[.d (.v (.string x1.Name)), PI x1.Arity]] :: []))⟩), ?_, nofun, rfl, [PI 35], rfl, ?_⟩
  rotate_left 2
  simp only [h6, if_false] at hr
  obtain ⟨x3, h7, hr⟩ := bsome hr
  obtain ⟨x4, h8, hr⟩ := bsome hr
  have h8k := fun h args ha => qbs9 (h := h) (args := args) h8 ha
  try simp only [go_sem] at h8k
  cases h9 : x4
  simp only [h9, Bool.false_eq_true, if_false] at hr
  obtain rfl := oiA hr
  refine ⟨(gt ++ (.row false 0 2 [[.d (.v (.string x1.Name)), PI x1.Arity]] :: [])), ?_⟩
  rotate_left
  simp only [h9, if_true] at hr
  obtain rfl := oiA hr
  refine ⟨(.ret, ⟨[(0, .d (.rd (s0.map qa9))), (2, PI 36), (3, PI s11), (4, .ptr gt.length 0 0 0), (5, PI (x1.Name.size : Int)), (9, .d (.rd (s9.map qa9))), (10, PI s10), (11, PI s11)], (gt ++ (.row false 0 2 [[.d (.v (.string x1.Name)), PI x1.Arity]] :: []))⟩), ?_, nofun, rfl, [PI 36], rfl, ?_⟩
  rotate_left 2
  simp only [h1, if_false] at hr
  obtain rfl := oiA hr
  refine ⟨(.exit 0, ⟨[(0, .d (.rd (s0.map qa9))), (2, PI 0), (9, .d (.rd (s9.map qa9))), (10, PI s10), (11, PI s11)], gt⟩), ?_, nofun, gt, rfl⟩
  rotate_left
  all_goals (simp +decide only [go_sem, Int.reduceToNat, Nat.reduceAdd, Nat.reduceLT, Nat.reduceMul, Nat.reducePow, reduceCtorEq, qcY9, b69_0, *])
theorem qmI9 {s0 : List Symbol} {s9 : List Symbol} {s10 : Int} {s : Int} {g : AHeap} {x} (h : wh (qN9 s0 s9 s10) s = some x) : ∃ q, qp9 (semA C (Lim C) 18049582882103101 b69_0) (qcY9 s0 s9 s10 s g) = some q ∧ qfu9 s0 s9 s10 x q := qcx9 (qmH9 s0 s9 s10) h
theorem qns9 {a0 : List Symbol} {r : Int} (hr : qz9 a0 = some r) : ∃ p hp, Lim C 69 [.d (.rd (a0.map qa9))] [] = some (p, hp) ∧ rsT hp p = some (PI r) := by
  simp only [qz9] at hr
  rcases pcA (128 < (a0.length : Int)) with h1 | h1
  simp only [h1, if_true] at hr
  obtain rfl := oiA hr
  refine qh9 is69 (nbA rfl) (q := (.ret, ⟨[(0, .d (.rd (a0.map qa9))), (2, PI 37)], []⟩)) ?_ (.inr rfl) ⟨[PI 37], rfl, ?_⟩
  rotate_left 2
  simp only [h1, if_false] at hr
  obtain ⟨x10, h2, hr⟩ := bsome hr
  obtain ⟨q2, h2L, h2X⟩ := qmI9 (g := []) h2
  rcases x10 with x11 | x12
  simp only [qfu9, qcY9] at h2X h2L
  obtain ⟨e2, st2⟩ := q2
  obtain ⟨rfl, h2R⟩ := h2X
  try simp only [go_sem, Nat.reduceAdd, la1, la2, la3, la4, la5, la6] at h2L
  obtain rfl := oiA hr
  refine qh9 is69 (nbA rfl) ?_ (.inr rfl) h2R
  rotate_left
  simp only [qfu9, qcY9] at h2X h2L
  obtain ⟨z13, rfl⟩ := h2X
  try simp only [go_sem, Nat.reduceAdd, la1, la2, la3, la4, la5, la6] at h2L
  obtain rfl := oiA hr
  refine qh9 is69 (nbA rfl) (q := (.ret, ⟨[(0, .d (.rd (a0.map qa9))), (2, PI 0), (9, .d (.rd (a0.map qa9))), (10, PI (a0.length : Int)), (11, PI x12)], z13⟩)) ?_ (.inr rfl) ⟨[PI 0], rfl, ?_⟩
  rotate_left 2
  all_goals (simp +decide only [go_sem, Int.reduceToNat, Nat.reduceAdd, Nat.reduceLT, Nat.reduceMul, Nat.reducePow, reduceCtorEq, qg9, c69, *])
theorem qfI9 {a0 : List Symbol} {r : Int} (hr : qz9 a0 = some r) {h : AHeap} : callP C (Lim C) 69 [.d (.rd (a0.map qa9))] h = some (PI r, h) := qbk9 (ds := [.rd (a0.map qa9)]) rfl rfl rfl (qns9 hr) h
def c134 : ACode := .seq (.reg [] [] [.K 4 (.mv (.const (.bool false)))]) (.seq (.reg [] [] [.M 5 0, .T 6 (.slen (.tmp 5)), .M 7 1, .T 8 (.slen (.tmp 7)), .T 9 (.bin .geq (.tmp 6) (.tmp 8)), .M 10 9, .MG 11 10 true 0, .MG 12 10 true 0, .TG 13 10 true (.slen (.tmp 12)), .MG 14 10 true 1, .TG 15 10 true (.slen (.tmp 14)), .TG 16 10 true (.bin .sub (.tmp 13) (.tmp 15)), .TG 17 10 true (.cutS (.tmp 11) (some (.tmp 16)) none), .MG 18 10 true 1, .TG 19 10 true (.bin .eql (.tmp 17) (.tmp 18)), .T 20 (.pick (.tmp 10) (.tmp 19) (.const (.bool false))), .N 4 20]) (.ret))
theorem is134 : IsF C 134 21 19 c134 [.tmp 4] := ⟨⟨Tryd.f134, _, C_P ▸ Tryd.func134, rfl, rfl, rfl, by kernel_rfl, rfl⟩⟩
theorem qgR9 {a0 : ByteArray} {a1 : ByteArray} {r : Bool} (hr : qbI9 a0 a1 = some r) : ∃ p hp, Lim C 134 [.d (.v (.string a0)), .d (.v (.string a1))] [] = some (p, hp) ∧ rsT hp p = some (PB r) := by
  simp only [qbI9] at hr
  rcases pcA ((a1.size : Int) ≤ (a0.size : Int)) with h1 | h1
  simp only [h1, if_true] at hr
  obtain ⟨x1, h2, hr⟩ := bsome hr
  obtain rfl := oiA hr
  refine qh9 is134 (nbA rfl) (q := (.ret, ⟨[(0, .d (.v (.string a0))), (1, .d (.v (.string a1))), (4, PB (decide (x1 = a1)))], []⟩)) ?_ (.inr rfl) ⟨[PB (decide (x1 = a1))], rfl, ?_⟩
  rotate_left 2
  simp only [h1, if_false] at hr
  obtain rfl := oiA hr
  refine qh9 is134 (nbA rfl) (q := (.ret, ⟨[(0, .d (.v (.string a0))), (1, .d (.v (.string a1))), (4, PB false)], []⟩)) ?_ (.inr rfl) ⟨[PB false], rfl, ?_⟩
  rotate_left 2
  all_goals (simp +decide only [go_sem, Int.reduceToNat, Nat.reduceAdd, Nat.reduceLT, Nat.reduceMul, Nat.reducePow, reduceCtorEq, qg9, c134, *])
theorem qgK9 {a0 : ByteArray} {a1 : ByteArray} {r : Bool} (hr : qbI9 a0 a1 = some r) {h : AHeap} : callP C (Lim C) 134 [.d (.v (.string a0)), .d (.v (.string a1))] h = some (PB r, h) := qbk9 (ds := [.v (.string a0), .v (.string a1)]) rfl rfl rfl (qgR9 hr) h
def c118 : ACode := .seq (.reg [] [] [.K 4 (.mv (.const (.bool false)))]) (.seq (.reg [] [] [.M 5 0, .M 6 1, .T 7 (.call 134 [.tmp 5, .tmp 6]), .N 4 7]) (.ret))
theorem is118 : IsF C 118 8 19 c118 [.tmp 4] := ⟨⟨Tryd.f118, _, C_P ▸ Tryd.func118, rfl, rfl, rfl, by kernel_rfl, rfl⟩⟩
theorem qkR9 {a0 : ByteArray} {a1 : ByteArray} {r : Bool} (hr : qep9 a0 a1 = some r) : ∃ p hp, Lim C 118 [.d (.v (.string a0)), .d (.v (.string a1))] [] = some (p, hp) ∧ rsT hp p = some (PB r) := by
  simp only [qep9] at hr
  obtain ⟨x1, h1, hr⟩ := bsome hr
  have h1k := fun h => qgK9 (h := h) h1
  try simp only [go_sem] at h1k
  obtain rfl := oiA hr
  refine qh9 is118 (nbA rfl) (q := (.ret, ⟨[(0, .d (.v (.string a0))), (1, .d (.v (.string a1))), (4, PB x1)], []⟩)) ?_ (.inr rfl) ⟨[PB x1], rfl, ?_⟩
  rotate_left 2
  all_goals (simp +decide only [go_sem, Int.reduceToNat, Nat.reduceAdd, Nat.reduceLT, Nat.reduceMul, Nat.reducePow, reduceCtorEq, qg9, c118, *])
theorem qkT9 {a0 : ByteArray} {a1 : ByteArray} {r : Bool} (hr : qep9 a0 a1 = some r) {h : AHeap} : callP C (Lim C) 118 [.d (.v (.string a0)), .d (.v (.string a1))] h = some (PB r, h) := qbk9 (ds := [.v (.string a0), .v (.string a1)]) rfl rfl rfl (qkR9 hr) h
def c117 : ACode := .seq (.reg [] [] [.K 1 (.box (.tmp 0)), .K 2 (.mv (.const (.bool false)))]) (.seq (.reg [] [] [.T 3 (.fa 0 (.tmp 1)), .T 4 (.load none (.tmp 3)), .T 5 (.call 118 [.tmp 4, .const (.string { data := #[35] })]), .N 2 5]) (.ret))
theorem is117 : IsF C 117 6 7 c117 [.tmp 2] := ⟨⟨Tryd.f117, _, C_P ▸ Tryd.func117, rfl, rfl, rfl, by kernel_rfl, rfl⟩⟩
theorem qmj9 {a0 : Symbol} {r : Bool} (hr : qdY9 a0 = some r) : ∃ p hp, Lim C 117 [.d (.ag (qa9 a0))] [] = some (p, hp) ∧ rsT hp p = some (PB r) := by
  simp only [qdY9] at hr
  obtain ⟨x1, h1, hr⟩ := bsome hr
  have h1k := fun h => qkT9 (h := h) h1
  try simp only [go_sem] at h1k
  obtain rfl := oiA hr
  refine qh9 is117 (nbA rfl) (q := (.ret, ⟨[(0, .d (.ag (qa9 a0))), (1, .ptr 0 0 0 0), (2, PB x1)], (.row false 0 2 [[.d (.v (.string a0.Name)), PI a0.Arity]] :: [])⟩)) ?_ (.inr rfl) ⟨[PB x1], rfl, ?_⟩
  rotate_left 2
  all_goals (simp +decide only [go_sem, Int.reduceToNat, Nat.reduceAdd, Nat.reduceLT, Nat.reduceMul, Nat.reducePow, reduceCtorEq, qg9, c117, *])
theorem qml9 {a0 : Symbol} {r : Bool} (hr : qdY9 a0 = some r) {h : AHeap} {args : List PV} (ha : mapO (rs h depth) args = some [.ag (qa9 a0)]) : callP C (Lim C) 117 args h = some (PB r, if scalar (PB r) = true then h else freezeAll (args.flatMap (reach h depth)) h) := qdD9 rfl rfl rfl (qmj9 hr) ha
def qm9 (s0 : List Symbol) (s7 : Int) : Int → Unit → St := fun s8 _ => ⟨[(0, .d (.rd (s0.map qa9))), (1, .d (.fn 117 [])), (4, PI 0), (7, PI s7), (8, PI s8)], []⟩
def qH9 (s0 : List Symbol) (s7 : Int) : (Int ⊕ Int) → AExit × St → Prop
  | .inl r, q => q.1 = .ret ∧ RetOK C [.tmp 4] q.2 (PI r)
  | .inr s8, q => q = (.exit 0, ⟨[(0, .d (.rd (s0.map qa9))), (1, .d (.fn 117 [])), (4, PI 0), (7, PI s7), (8, PI s8)], []⟩)
theorem qdn9 (s0 : List Symbol) (s7 : Int) : ∀ (s : Int) (g : Unit) r, ql9 s0 s7 s = some r → Sum.elim (fun s' => ∃ g', semA C (Lim C) 66483 qhk9 (qm9 s0 s7 s g) = some (.normal, qm9 s0 s7 s' g')) (fun x => ∃ q, semA C (Lim C) 66483 qhk9 (qm9 s0 s7 s g) = some q ∧ q.1 ≠ .normal ∧ qH9 s0 s7 x q) r := by
  intro s g r hr
  have ⟨s8, hs0⟩ : ∃ y, y = s := ⟨_, rfl⟩
  subst hs0
  simp only [ql9] at hr
  rcases pcA (s8 < s7) with h1 | h1
  simp only [h1, if_true] at hr
  obtain ⟨x1, h2, hr⟩ := bsome hr
  obtain ⟨x2, h3, hr⟩ := bsome hr
  have h3k := fun h => qml9 (h := h) (args := [.ag [.d (.v (.string x1.Name)), PI x1.Arity]]) h3 rfl
  try simp only [go_sem] at h3k
  cases h4 : x2
  simp only [h4, Bool.false_eq_true, if_false] at hr
  obtain rfl := oiA hr
  refine ⟨(), ?_⟩
  rotate_left
  simp only [h4, if_true] at hr
  obtain rfl := oiA hr
  refine ⟨(.ret, ⟨[(0, .d (.rd (s0.map qa9))), (1, .d (.fn 117 [])), (4, PI s8), (5, PI s8), (7, PI s7), (8, PI s8)], []⟩), ?_, nofun, rfl, [PI s8], rfl, ?_⟩
  rotate_left 2
  simp only [h1, if_false] at hr
  obtain rfl := oiA hr
  refine ⟨(.exit 0, ⟨[(0, .d (.rd (s0.map qa9))), (1, .d (.fn 117 [])), (4, PI 0), (7, PI s7), (8, PI s8)], []⟩), ?_, nofun, rfl⟩
  rotate_left
  all_goals (simp +decide only [go_sem, Int.reduceToNat, Nat.reduceAdd, Nat.reduceLT, Nat.reduceMul, Nat.reducePow, reduceCtorEq, qm9, qhk9, *])
theorem qdp9 {s0 : List Symbol} {s7 : Int} {s : Int} {g : Unit} {x} (h : wh (ql9 s0 s7) s = some x) : ∃ q, qp9 (semA C (Lim C) 66483 qhk9) (qm9 s0 s7 s g) = some q ∧ qH9 s0 s7 x q := qcx9 (qdn9 s0 s7) h
theorem qdq9 {a0 : List Symbol} {r : Int} (hr : qy9 a0 = some r) : ∃ p hp, Lim C 116 [.d (.rd (a0.map qa9)), .d (.fn 117 [])] [] = some (p, hp) ∧ rsT hp p = some (PI r) := by
  simp only [qy9] at hr
  obtain ⟨x3, h1, hr⟩ := bsome hr
  obtain ⟨q1, h1L, h1X⟩ := qdp9 (g := ()) h1
  rcases x3 with x4 | x5
  simp only [qH9, qm9] at h1X h1L
  obtain ⟨e1, st1⟩ := q1
  obtain ⟨rfl, h1R⟩ := h1X
  try simp only [go_sem, Nat.reduceAdd, la1, la2, la3, la4, la5, la6] at h1L
  obtain rfl := oiA hr
  refine qh9 is116 (nbA rfl) ?_ (.inr rfl) h1R
  rotate_left
  simp only [qH9, qm9] at h1X h1L
  subst h1X
  try simp only [go_sem, Nat.reduceAdd, la1, la2, la3, la4, la5, la6] at h1L
  obtain rfl := oiA hr
  refine qh9 is116 (nbA rfl) (q := (.ret, ⟨[(0, .d (.rd (a0.map qa9))), (1, .d (.fn 117 [])), (4, PI (-1)), (7, PI (a0.length : Int)), (8, PI x5)], []⟩)) ?_ (.inr rfl) ⟨[PI (-1)], rfl, ?_⟩
  rotate_left 2
  all_goals (simp +decide only [go_sem, Int.reduceToNat, Nat.reduceAdd, Nat.reduceLT, Nat.reduceMul, Nat.reducePow, reduceCtorEq, qg9, c116, *])
theorem qdr9 {a0 : List Symbol} {r : Int} (hr : qy9 a0 = some r) {h : AHeap} : callP C (Lim C) 116 [.d (.rd (a0.map qa9)), .d (.fn 117 [])] h = some (PI r, h) := qbk9 (ds := [.rd (a0.map qa9), .fn 117 []]) rfl rfl rfl (qdq9 hr) h
theorem qcX9 {a0 : List Symbol} {r : Bool} (hr : qq9 a0 = some r) : ∃ p hp, Lim C 94 [.d (.rd (a0.map qa9)), .d (.fn 117 [])] [] = some (p, hp) ∧ rsT hp p = some (PB r) := by
  simp only [qq9] at hr
  obtain ⟨x1, h1, hr⟩ := bsome hr
  have h1k := fun h => qdr9 (h := h) h1
  try simp only [go_sem] at h1k
  obtain rfl := oiA hr
  refine qh9 is94 (nbA rfl) (q := (.ret, ⟨[(0, .d (.rd (a0.map qa9))), (1, .d (.fn 117 [])), (4, PB (decide (0 ≤ x1)))], []⟩)) ?_ (.inr rfl) ⟨[PB (decide (0 ≤ x1))], rfl, ?_⟩
  rotate_left 2
  all_goals (simp +decide only [go_sem, Int.reduceToNat, Nat.reduceAdd, Nat.reduceLT, Nat.reduceMul, Nat.reducePow, reduceCtorEq, qg9, c94, *])
theorem qda9 {a0 : List Symbol} {r : Bool} (hr : qq9 a0 = some r) {h : AHeap} {args : List PV} (ha : mapO (rs h depth) args = some [.rd (a0.map qa9), .fn 117 []]) : callP C (Lim C) 94 args h = some (PB r, if scalar (PB r) = true then h else freezeAll (args.flatMap (reach h depth)) h) := qdD9 rfl rfl rfl (qcX9 hr) ha
def c100 : ACode := .seq (.reg [] [] [.K 2 (.mv (cI 0))]) (.seq (.seq (.reg [] [] [.M 4 0, .T 5 (.call 69 [.tmp 4]), .N 3 5]) (.seq (.reg [] [] [.M 6 3, .K 7 (.bin .neq (.tmp 6) (cI 0))]) (.cond (.tmp 7) (some 7) (.seq (.reg [] [] [.M 8 3, .N 2 8]) (.ret)) (.skip)))) (.seq (.seq (.reg [] [] [.M 9 0, .T 10 (.len (.tmp 9)), .K 11 (.bin .gtr (.tmp 10) (cI 64))]) (.cond (.tmp 11) (some 11) (.seq (.reg [] [] [.K 2 (.mv (cI 37))]) (.ret)) (.skip))) (.seq (.seq (.reg [] [] [.M 12 0, .K 13 (.call 94 [.tmp 12, .func 117])]) (.cond (.tmp 13) (some 13) (.seq (.reg [] [] [.K 2 (.mv (cI 34))]) (.ret)) (.skip))) (.seq (.reg [] [] [.K 2 (.mv (cI 0))]) (.ret)))))
theorem is100 : IsF C 100 14 10381 c100 [.tmp 2] := ⟨⟨Tryd.f100, _, C_P ▸ Tryd.func100, rfl, rfl, rfl, by kernel_rfl, rfl⟩⟩
theorem qob9 {a0 : List Symbol} {r : Int} (hr : qfk9 a0 = some r) : ∃ p hp, Lim C 100 [.d (.rd (a0.map qa9))] [] = some (p, hp) ∧ rsT hp p = some (PI r) := by
  simp only [qfk9] at hr
  obtain ⟨x1, h1, hr⟩ := bsome hr
  have h1k := fun h => qfI9 (h := h) h1
  try simp only [go_sem] at h1k
  rcases pcA (x1 = 0) with h2 | h2
  simp only [h2, if_true] at hr
  rcases pcA (64 < (a0.length : Int)) with h3 | h3
  simp only [h3, if_true] at hr
  obtain rfl := oiA hr
  refine qh9 is100 (nbA rfl) (q := (.ret, ⟨[(0, .d (.rd (a0.map qa9))), (2, PI 37), (3, PI x1)], []⟩)) ?_ (.inr rfl) ⟨[PI 37], rfl, ?_⟩
  rotate_left 2
  simp only [h3, if_false] at hr
  obtain ⟨x2, h4, hr⟩ := bsome hr
  have h4k := fun h => qda9 (h := h) (args := [.d (.rd (a0.map qa9)), .fn 117 []]) h4 rfl
  try simp only [go_sem] at h4k
  cases h5 : x2
  simp only [h5, Bool.false_eq_true, if_false] at hr
  obtain rfl := oiA hr
  refine qh9 is100 (nbA rfl) (q := (.ret, ⟨[(0, .d (.rd (a0.map qa9))), (2, PI 0), (3, PI x1)], []⟩)) ?_ (.inr rfl) ⟨[PI 0], rfl, ?_⟩
  rotate_left 2
  simp only [h5, if_true] at hr
  obtain rfl := oiA hr
  refine qh9 is100 (nbA rfl) (q := (.ret, ⟨[(0, .d (.rd (a0.map qa9))), (2, PI 34), (3, PI x1)], []⟩)) ?_ (.inr rfl) ⟨[PI 34], rfl, ?_⟩
  rotate_left 2
  simp only [h2, if_false] at hr
  obtain rfl := oiA hr
  refine qh9 is100 (nbA rfl) (q := (.ret, ⟨[(0, .d (.rd (a0.map qa9))), (2, PI x1), (3, PI x1)], []⟩)) ?_ (.inr rfl) ⟨[PI x1], rfl, ?_⟩
  rotate_left 2
  all_goals (simp +decide only [go_sem, Int.reduceToNat, Nat.reduceAdd, Nat.reduceLT, Nat.reduceMul, Nat.reducePow, reduceCtorEq, qg9, c100, *])
theorem qog9 {a0 : List Symbol} {r : Int} (hr : qfk9 a0 = some r) {h : AHeap} : callP C (Lim C) 100 [.d (.rd (a0.map qa9))] h = some (PI r, h) := qbk9 (ds := [.rd (a0.map qa9)]) rfl rfl rfl (qob9 hr) h
def qfS9 : ACode := .reg [] [] [.K 89 (.bin .lss (.tmp 88) (.tmp 87))]
def qfZ9 : ACode := .reg [] [] [.M 90 0, .T 91 (.call 132 [.tmp 90]), .N 5 91]
def qef9 : ACode := .reg [] [] [.M 92 4, .M 93 4, .T 94 (.nilC (.tmp 93)), .T 95 (.fa 2 (.tmp 94)), .T 96 (.load none (.tmp 95)), .M 97 5, .T 98 (.lit 1 [(0, .tmp 97)]), .T 99 (.app 1 16 (.tmp 96) (.tmp 98)), .T 100 (.nilC (.tmp 92)), .T 101 (.fa 2 (.tmp 100)), ⟨none, .store 1 (.tmp 101) (.tmp 99), none, false, false⟩]
def qeF9 : ACode := .reg [] [] [.M 102 4, .T 103 (.nilC (.tmp 102)), .T 104 (.fa 1 (.tmp 103)), ⟨some (105, false), .load none (.tmp 104), none, true, false⟩, .M 106 5, ⟨some (107, false), .inv (.tmp 106) "lodestone/term.size" [], none, true, false⟩, .T 108 (.bin .add (.tmp 105) (.tmp 107)), .T 109 (.nilC (.tmp 102)), .T 110 (.fa 1 (.tmp 109)), ⟨none, .store 1 (.tmp 110) (.tmp 108), none, false, false⟩]
def qgP9 : ACode := .reg [] [] [.T 111 (.bin .add (.tmp 88) (cI 1)), .N 88 111]
def qhR9 : ACode := .reg [] [] [.K 2 (.mv (.const Go.Value.nilIface))]
def qhH9 : ACode := .reg [] [] [.M 7 0, .T 8 (.nilC (.tmp 7)), .T 9 (.fa 3 (.tmp 8)), .T 10 (.load none (.tmp 9)), .T 11 (.bin .neq (.tmp 10) (cI 0)), .N 6 11]
def qhJ9 : ACode := .reg [] [] [.T 12 (.mkI 183 (cI 0)), .N 2 12]
def qhG9 : ACode := .reg [] [] [.M 14 0, .T 15 (.nilC (.tmp 14)), .T 16 (.fa 2 (.tmp 15)), ⟨some (17, false), .load none (.tmp 16), none, true, false⟩, .M 18 0, .T 19 (.nilC (.tmp 18)), .T 20 (.fa 1 (.tmp 19)), ⟨some (21, false), .load none (.tmp 20), none, true, false⟩, ⟨some (22, false), .len (.tmp 21), none, true, false⟩, .T 23 (.bin .eql (.tmp 17) (.tmp 22)), .N 13 23]
def qhF9 : ACode := .reg [] [] [.M 24 0, .T 25 (.nilC (.tmp 24)), .T 26 (.fa 3 (.tmp 25)), ⟨none, .store 1 (.tmp 26) (cI 31), none, false, false⟩]
def qhy9 : ACode := .reg [] [] [.T 27 (.mkI 183 (cI 0)), .N 2 27]
def qhw9 : ACode := .reg [] [] [.M 28 0, .T 29 (.nilC (.tmp 28)), .T 30 (.fa 1 (.tmp 29)), ⟨some (31, false), .load none (.tmp 30), none, true, false⟩, .M 32 0, .T 33 (.nilC (.tmp 32)), .T 34 (.fa 2 (.tmp 33)), ⟨some (35, false), .load none (.tmp 34), none, true, false⟩, ⟨some (36, false), .ix 1 (.tmp 31) (.tmp 35), none, true, false⟩, ⟨some (37, false), .load none (.tmp 36), none, true, false⟩, .N 3 37]
def qhu9 : ACode := .reg [] [] [.M 39 3, .M 40 0, .T 41 (.nilC (.tmp 40)), .T 42 (.fa 0 (.tmp 41)), .T 43 (.load none (.tmp 42)), .T 44 (.len (.tmp 43)), .T 45 (.bin .geq (.tmp 39) (.tmp 44)), .M 46 45, .MG 47 46 false 3, .TG 48 46 false (.bin .lss (.tmp 47) (cI (-1048576))), .T 49 (.pick (.tmp 46) (.const (.bool true)) (.tmp 48)), .N 38 49]
def qhB9 : ACode := .reg [] [] [.M 50 0, .T 51 (.nilC (.tmp 50)), .T 52 (.fa 3 (.tmp 51)), ⟨none, .store 1 (.tmp 52) (cI 30), none, false, false⟩]
def qhQ9 : ACode := .reg [] [] [.T 53 (.mkI 183 (cI 0)), .N 2 53]
def qgJ9 : ACode := .reg [] [] [.M 55 3, .T 56 (.bin .lss (.tmp 55) (cI 0)), .N 54 56]
def qgL9 : ACode := .reg [] [] [.M 57 0, .T 58 (.nilC (.tmp 57)), .T 59 (.fa 2 (.tmp 58)), .T 60 (.load none (.tmp 59)), .T 61 (.bin .add (.tmp 60) (cI 1)), .T 62 (.nilC (.tmp 57)), .T 63 (.fa 2 (.tmp 62)), ⟨none, .store 1 (.tmp 63) (.tmp 61), none, false, false⟩]
def qgQ9 : ACode := .reg [] [] [.M 64 3, .T 65 (.bin .sub (cI (-1)) (.tmp 64)), .T 66 (.mkI 183 (.tmp 65)), .N 2 66]
def qgS9 : ACode := .reg [] [] [.M 67 0, .T 68 (.nilC (.tmp 67)), .T 69 (.fa 2 (.tmp 68)), .T 70 (.load none (.tmp 69)), .T 71 (.build [(0, 1), (1, 1), (2, 1)] [.d (.v (.int .i64 0)), .d (.v (.int .i64 0)), .im true []] [(0, .tmp 70), (1, .const (.int .i64 1))]), .T 72 (.box (.tmp 71)), .N 4 72]
def qgU9 : ACode := .reg [] [] [.M 73 0, .T 74 (.nilC (.tmp 73)), .T 75 (.fa 2 (.tmp 74)), .T 76 (.load none (.tmp 75)), .T 77 (.bin .add (.tmp 76) (cI 1)), .T 78 (.nilC (.tmp 73)), .T 79 (.fa 2 (.tmp 78)), ⟨none, .store 1 (.tmp 79) (.tmp 77), none, false, false⟩]
def qgT9 : ACode := .reg [] [] [.M 80 0, .T 81 (.nilC (.tmp 80)), .T 82 (.fa 0 (.tmp 81)), .T 83 (.load none (.tmp 82)), .M 84 3, .T 85 (.ix 2 (.tmp 83) (.tmp 84)), .T 86 (.fa 1 (.tmp 85)), .K 87 (.load none (.tmp 86)), .K 88 (.mv (cI 0))]
def qgO9 : ACode := .reg [] [] [.M 112 4, .T 113 (.mkI 103 (.tmp 112)), .N 2 113]
def qjg9 : ACode := .seq (qfS9) (.seq (.cond (.tmp 89) (some 89) (.skip) (.exit 2)) (.seq (.block 3 618970019642690137449562144 (.seq (qfZ9) (.seq (qef9) (qeF9)))) (qgP9)))
def c132 : ACode := .seq (qhR9) (.seq (.block 0 8256 (.seq (qhH9) (.cond (.tmp 6) (some 6) (.seq (qhJ9) (.ret)) (.seq (qhG9) (.cond (.tmp 13) (some 13) (.seq (qhF9) (.seq (qhy9) (.ret))) (.skip)))))) (.seq (qhw9) (.seq (.block 1 18014673387388928 (.seq (qhu9) (.cond (.tmp 38) (some 38) (.seq (qhB9) (.seq (qhQ9) (.ret))) (.seq (qgJ9) (.cond (.tmp 54) (some 54) (.seq (qgL9) (.seq (qgQ9) (.ret))) (.skip)))))) (.seq (qgS9) (.seq (qgU9) (.seq (.seq (qgT9) (.block 2 618970019642690137449562144 (.loop qjg9))) (.seq (qgO9) (.ret))))))))
theorem is132 : IsF C 132 114 1083197534392722413924130941 c132 [.tmp 2] := ⟨⟨Tryd.f132, _, C_P ▸ Tryd.func132, rfl, rfl, rfl, by kernel_rfl, rfl⟩⟩
def qse9 : ACode := .reg [] [] [.K 2 (.mv (cI 0))]
def qsj9 : ACode := .reg [] [] [.K 2 (.mv (cI 1))]
def c160 : ACode := .seq (qse9) (.seq (qsj9) (.ret))
theorem is160 : IsF C 160 3 4 c160 [.tmp 2] := ⟨⟨Tryd.f160, _, C_P ▸ Tryd.func160, rfl, rfl, rfl, by kernel_rfl, rfl⟩⟩
def qsk9 : ACode := .reg [] [] [.K 2 (.mv (cI 0))]
def qsc9 : ACode := .reg [] [] [.M 3 0, .T 4 (.nilC (.tmp 3)), .T 5 (.fa 1 (.tmp 4)), .T 6 (.load none (.tmp 5)), .N 2 6]
def c157 : ACode := .seq (qsk9) (.seq (qsc9) (.ret))
theorem is157 : IsF C 157 7 5 c157 [.tmp 2] := ⟨⟨Tryd.f157, _, C_P ▸ Tryd.func157, rfl, rfl, rfl, by kernel_rfl, rfl⟩⟩
def qmf9 : ACode := .reg [] [] [.K 4 (.mv (.const Go.Value.nilIface)), .K 5 (.mv (cI 0))]
def qme9 : ACode := .reg [] [] [.M 8 0, .M 9 1, .T 10 (.build [(0, 1), (1, 1), (2, 1), (3, 1)] [.im true [], .im true [], .d (.v (.int .i64 0)), .d (.v (.int .i64 0))] [(0, .tmp 8), (1, .tmp 9)]), .T 11 (.box (.tmp 10)), .N 6 11]
def qlZ9 : ACode := .reg [] [] [.M 12 6, .T 13 (.call 132 [.tmp 12]), .N 7 13]
def qmd9 : ACode := .reg [] [] [.M 14 6, .T 15 (.nilC (.tmp 14)), .T 16 (.fa 3 (.tmp 15)), .T 17 (.load none (.tmp 16)), .T 18 (.bin .eql (.tmp 17) (cI 0)), .M 19 18, .MG 20 19 true 6, .TG 21 19 true (.nilC (.tmp 20)), .TG 22 19 true (.fa 2 (.tmp 21)), .TG 23 19 true (.load none (.tmp 22)), .MG 24 19 true 1, .TG 25 19 true (.len (.tmp 24)), .TG 26 19 true (.bin .lss (.tmp 23) (.tmp 25)), .K 27 (.pick (.tmp 19) (.tmp 26) (.const (.bool false)))]
def qlV9 : ACode := .reg [] [] [.M 28 6, .T 29 (.nilC (.tmp 28)), .T 30 (.fa 3 (.tmp 29)), ⟨none, .store 1 (.tmp 30) (cI 32), none, false, false⟩]
def qmh9 : ACode := .reg [] [] [.M 31 7, .M 32 6, .T 33 (.nilC (.tmp 32)), .T 34 (.fa 3 (.tmp 33)), ⟨some (35, false), .load none (.tmp 34), none, true, false⟩, .N 4 31, .N 5 35]
def c113 : ACode := .seq (qmf9) (.seq (qme9) (.seq (qlZ9) (.seq (.seq (qmd9) (.cond (.tmp 27) (some 27) (qlV9) (.skip))) (.seq (qmh9) (.ret)))))
theorem is113 : IsF C 113 36 134217971 c113 [.tmp 4, .tmp 5] := ⟨⟨Tryd.f113, _, C_P ▸ Tryd.func113, rfl, rfl, rfl, by kernel_rfl, rfl⟩⟩
def qqH9 : ACode := .reg [] [] [.K 4 (.mv (.const Go.Value.nilIface)), .K 5 (.mv (cI 0))]
def qpI9 : ACode := .reg [] [] [.M 7 0, .T 8 (.call 69 [.tmp 7]), .N 6 8]
def qqD9 : ACode := .reg [] [] [.M 9 6, .K 10 (.bin .neq (.tmp 9) (cI 0))]
def qpD9 : ACode := .reg [] [] [.M 11 6, .K 4 (.mv (.const Go.Value.nilIface)), .N 5 11]
def qqT9 : ACode := .reg [] [] [.M 12 0, .M 13 1, .T 14 (.call 113 [.tmp 12, .tmp 13]), .T 15 (.ext (.tmp 14) 0), .T 16 (.ext (.tmp 14) 1), .N 4 15, .N 5 16]
def c91 : ACode := .seq (qqH9) (.seq (.seq (qpI9) (.seq (qqD9) (.cond (.tmp 10) (some 10) (.seq (qpD9) (.ret)) (.skip)))) (.seq (qqT9) (.ret)))
theorem is91 : IsF C 91 17 1139 c91 [.tmp 4, .tmp 5] := ⟨⟨Tryd.f91, _, C_P ▸ Tryd.func91, rfl, rfl, rfl, by kernel_rfl, rfl⟩⟩
section
variable {sig : List Symbol} {t : List Int} {h : AHeap} {r : Nat}
abbrev RO (sig : List Symbol) (t : List Int) (a b : Int) : AObj := .row false 0 4 [[.d (.rd (sig.map qa9)), .d (.rd (t.map intD)), PI a, PI b]]
theorem quc9 : qfG9 C.P 183 "lodestone/term.size" = some 160 := by kernel_rfl
theorem qsT9 : qfG9 C.P 103 "lodestone/term.size" = some 157 := by kernel_rfl
theorem qvd9 {n : Int} {h : AHeap} : callP C (Lim C) 160 [PI n] h = some (PI 1, h) := by
  refine qbk9 (ds := [.v (.int .i64 n)]) rfl rfl rfl ?_ h
  refine qh9 is160 (nbA rfl) (q := (.ret, ⟨[(2, PI 1)], []⟩)) ?_ (.inr rfl) ⟨[PI 1], rfl, rfl⟩
  simp +decide only [c160, qse9, qsj9, qg9, go_sem, Int.reduceToNat, Nat.reduceAdd, Nat.reduceLT, Nat.reduceMul, Nat.reducePow, reduceCtorEq]
theorem qsC9 {id : Nat} {a b : Int} {K : PV} (ho : h[id]? = some (.row false 0 3 [[PI a, PI b, K]])) : callP C (Lim C) 157 [.ptr id 0 0 0] h = some (PI b, h) := by
  have e : callP C (Lim C) 157 [.ptr id 0 0 0] h = Lim C 157 [.ptr id 0 0 0] h := rfl
  rw [e]
  refine Lim_A is157 (nbA rfl) (env := [(0, .ptr id 0 0 0), (2, PI b)]) (e := .ret) ?_ (.inr rfl) (vs := [PI b]) rfl
  simp +decide only [c157, qsk9, qsc9, qg9, go_sem, Int.reduceToNat, Nat.reduceAdd, Nat.reduceLT, Nat.reduceMul, Nat.reducePow, reduceCtorEq, opNil, ho]
abbrev Lf (n : Int) : PV := .ifc 183 (PI n)
abbrev rdr (r : Nat) : PV := .ptr r 0 0 0
theorem rdA {a b : Int} (ho : h[r]? = some (RO sig t a b)) (hb : b ≠ 0) : Lim C 132 [rdr r] h = some (Lf 0, h) := by
  have hb' : (b = 0) = False := eq_false hb
  refine Lim_A is132 (nbA rfl) (env := [(0, rdr r), (2, Lf 0)]) (e := .ret) ?_ (.inr rfl) (vs := [Lf 0]) rfl
  simp +decide only [c132, qhR9, qhH9, qhJ9, qhG9, qhF9, qhy9, qhw9, qhu9, qhB9, qhQ9, qgJ9, qgL9, qgQ9, qgS9, qgU9, qgT9, qfS9, qfZ9, qef9, qeF9, qgP9, qgO9, qg9, go_sem, Int.reduceToNat, Nat.reduceAdd, Nat.reduceLT, Nat.reduceMul, Nat.reducePow, reduceCtorEq, opNil, ho, hb']
theorem rdB {a : Int} (ho : h[r]? = some (RO sig t a 0)) (ha : a = (t.length : Int)) : Lim C 132 [rdr r] h = some (Lf 0, h.set r (RO sig t a 31)) := by
  have ha' : (a = (t.length : Int)) = True := eq_true ha
  refine Lim_A is132 (nbA rfl) (env := [(0, rdr r), (2, Lf 0)]) (e := .ret) ?_ (.inr rfl) (vs := [Lf 0]) rfl
  simp +decide only [c132, qhR9, qhH9, qhJ9, qhG9, qhF9, qhy9, qhw9, qhu9, qhB9, qhQ9, qgJ9, qgL9, qgQ9, qgS9, qgU9, qgT9, qfS9, qfZ9, qef9, qeF9, qgP9, qgO9, qg9, go_sem, Int.reduceToNat, Nat.reduceAdd, Nat.reduceLT, Nat.reduceMul, Nat.reducePow, reduceCtorEq, opNil, ho, ha']
theorem rdC {a c : Int} (ho : h[r]? = some (RO sig t a 0)) (ha : a ≠ (t.length : Int)) (hx : idx t a = some c) (hc : (sig.length : Int) ≤ c ∨ c < -1048576) : Lim C 132 [rdr r] h = some (Lf 0, h.set r (RO sig t a 30)) := by
  have ha' : (a = (t.length : Int)) = False := eq_false ha
  refine Lim_A is132 (nbA rfl) (env := [(0, rdr r), (2, Lf 0), (3, PI c)]) (e := .ret) ?_ (.inr rfl) (vs := [Lf 0]) rfl
  rcases pcA ((sig.length : Int) ≤ c) with h1 | h1
  · simp +decide only [c132, qhR9, qhH9, qhJ9, qhG9, qhF9, qhy9, qhw9, qhu9, qhB9, qhQ9, qgJ9, qgL9, qgQ9, qgS9, qgU9, qgT9, qfS9, qfZ9, qef9, qeF9, qgP9, qgO9, qg9, go_sem, Int.reduceToNat, Nat.reduceAdd, Nat.reduceLT, Nat.reduceMul, Nat.reducePow, reduceCtorEq, opNil, ho, ha', hx, h1]
  · have h2 : (c < -1048576) = True := eq_true (hc.resolve_left (of_eq_false h1))
    simp +decide only [c132, qhR9, qhH9, qhJ9, qhG9, qhF9, qhy9, qhw9, qhu9, qhB9, qhQ9, qgJ9, qgL9, qgQ9, qgS9, qgU9, qgT9, qfS9, qfZ9, qef9, qeF9, qgP9, qgO9, qg9, go_sem, Int.reduceToNat, Nat.reduceAdd, Nat.reduceLT, Nat.reduceMul, Nat.reducePow, reduceCtorEq, opNil, ho, ha', hx, h1, h2]
theorem rdD {a c : Int} (ho : h[r]? = some (RO sig t a 0)) (ha : a ≠ (t.length : Int)) (hx : idx t a = some c) (hc : ¬ ((sig.length : Int) ≤ c ∨ c < -1048576)) (hn : c < 0) : Lim C 132 [rdr r] h = some (Lf (w64 (-1 - c)), h.set r (RO sig t (w64 (a + 1)) 0)) := by
  have ha' : (a = (t.length : Int)) = False := eq_false ha
  have h1 : ((sig.length : Int) ≤ c) = False := eq_false fun e => hc (.inl e)
  have h2 : (c < -1048576) = False := eq_false fun e => hc (.inr e)
  have h3 : (c < 0) = True := eq_true hn
  refine Lim_A is132 (nbA rfl) (env := [(0, rdr r), (2, Lf (w64 (-1 - c))), (3, PI c)]) (e := .ret) ?_ (.inr rfl) (vs := [Lf (w64 (-1 - c))]) rfl
  simp +decide only [c132, qhR9, qhH9, qhJ9, qhG9, qhF9, qhy9, qhw9, qhu9, qhB9, qhQ9, qgJ9, qgL9, qgQ9, qgS9, qgU9, qgT9, qfS9, qfZ9, qef9, qeF9, qgP9, qgO9, qg9, go_sem, Int.reduceToNat, Nat.reduceAdd, Nat.reduceLT, Nat.reduceMul, Nat.reducePow, reduceCtorEq, opNil, ho, ha', hx, h1, h2, h3]
abbrev St5 (r X : Nat) (c ar j : Int) (h : AHeap) : St := ⟨[(0, rdr r), (2, .d (.v .nilIface)), (3, PI c), (4, .ptr X 0 0 0), (87, PI ar), (88, PI j)], h⟩
abbrev St6 (r X : Nat) (c ar j : Int) (x : PV) (h : AHeap) : St := ⟨[(0, rdr r), (2, .d (.v .nilIface)), (3, PI c), (4, .ptr X 0 0 0), (5, x), (87, PI ar), (88, PI j)], h⟩
abbrev In (id : Nat) : PV := .ifc 103 (.ptr id 0 0 0)
abbrev XO (a n : Int) (K : PV) : AObj := .row false 0 3 [[PI a, PI n, K]]
inductive SizeOk (h : AHeap) : PV → Int → Prop where
  | leaf (n : Int) : SizeOk h (Lf n) 1
  | inner (id : Nat) (a s : Int) (K : PV) (ho : h[id]? = some (XO a s K)) : SizeOk h (In id) s
theorem rd17 {X : Nat} {c ar j : Int} {x : PV} {h1 : AHeap} (hc : Lim C 132 [rdr r] h = some (x, h1)) : semA C (Lim C) 1083197534392722413924130941 qfZ9 (St5 r X c ar j h) = some (.normal, St6 r X c ar j x h1) := by
  have e : callP C (Lim C) 132 [rdr r] h = some (x, h1) := hc
  simp +decide only [qfZ9, go_sem, Int.reduceToNat, Nat.reduceAdd, Nat.reduceLT, Nat.reduceMul, Nat.reducePow, reduceCtorEq, e]
theorem rd18a {X : Nat} {c ar j a n s : Int} {x : PV} (hx : SizeOk h x s) (ho : h[X]? = some (XO a n (.im true []))) : semA C (Lim C) 1083197534392722413924130941 qef9 (St6 r X c ar j x h) = some (.normal, St6 r X c ar j x ((h ++ [AObj.row false 0 1 [[x]]]).set X (XO a n (.ref h.length 0 0 1)))) := by
  have hlt := (List.getElem?_eq_some_iff.1 ho).1
  have ho2 : ∀ o, (h ++ [o])[X]? = some (XO a n (.im true [])) := fun o => by rw [List.getElem?_append_left hlt]; exact ho
  cases hx <;> simp +decide only [qef9, go_sem, Int.reduceToNat, Nat.reduceAdd, Nat.reduceLT, Nat.reduceMul, Nat.reducePow, reduceCtorEq, opNil, ho, ho2]
theorem rd18b {X kid v : Nat} {c ar j a n s : Int} {x : PV} {es : List (List PV)} (hx : SizeOk h x s) (ho : h[X]? = some (XO a n (.ref kid v 0 es.length))) (hk : h[kid]? = some (.row false v 1 es)) (hne : X ≠ kid) (hb : (es.length + 1) * 16 ≤ 140737488355328) :
    semA C (Lim C) 1083197534392722413924130941 qef9 (St6 r X c ar j x h) = some (.normal, St6 r X c ar j x ((h.set kid (.row false (v + 1) 1 (es ++ [[x]]))).set X (XO a n (.ref kid (v + 1) 0 (es ++ [[x]]).length)))) := by
  have hb' := eq_true hb
  have ho2 : ∀ o, (h.set kid o)[X]? = some (XO a n (.ref kid v 0 es.length)) := fun o => by rw [List.getElem?_set_ne (Ne.symm hne)]; exact ho
  cases hx <;> simp +decide only [qef9, go_sem, Int.reduceToNat, Nat.reduceAdd, Nat.reduceLT, Nat.reduceMul, Nat.reducePow, reduceCtorEq, opNil, ho, ho2, hk, hb', List.take_length]
theorem rd19 {X : Nat} {c ar j a n s : Int} {K x : PV} (hx : SizeOk h x s) (ho : h[X]? = some (XO a n K)) : semA C (Lim C) 1083197534392722413924130941 qeF9 (St6 r X c ar j x h) = some (.normal, St6 r X c ar j x (h.set X (XO a (w64 (n + s)) K))) := by
  cases hx with
  | leaf m => simp +decide only [qeF9, go_sem, Int.reduceToNat, Nat.reduceAdd, Nat.reduceLT, Nat.reduceMul, Nat.reducePow, reduceCtorEq, opNil, ho, quc9, qvd9]
  | inner id a' s K' hi => simp +decide only [qeF9, go_sem, Int.reduceToNat, Nat.reduceAdd, Nat.reduceLT, Nat.reduceMul, Nat.reducePow, reduceCtorEq, opNil, ho, qsT9, qsC9 hi]
theorem qvt9 (l : List Int) : ∀ k, ∃ m, m ≤ l.length ∧ (rdT sig l k).1 = l.drop m := by
  induction l with
  | nil => intro k; cases k <;> exact ⟨0, Nat.le_refl _, rfl⟩
  | cons c l ih =>
    intro k
    cases k with
    | zero => exact ⟨0, Nat.zero_le _, rfl⟩
    | succ k =>
      rw [rdT]
      split
      · exact ⟨0, Nat.zero_le _, rfl⟩
      · obtain ⟨m, h1, h2⟩ := ih (k + arOf sig c)
        exact ⟨m + 1, by simp; omega, by rw [h2, List.drop_succ_cons]⟩
theorem qiZ9 (l : List Int) : ∀ j k, rdT sig l (j + k) = if (rdT sig l j).2 = 0 then rdT sig (rdT sig l j).1 k else rdT sig l j := by
  induction l with
  | nil =>
    intro j k
    cases j with
    | zero => rw [Nat.zero_add]; rfl
    | succ j => rw [show j + 1 + k = (j + k) + 1 by omega]; rfl
  | cons c l ih =>
    intro j k
    cases j with
    | zero => rw [Nat.zero_add]; rfl
    | succ j =>
      rw [show j + 1 + k = (j + k) + 1 by omega, rdT, rdT]
      by_cases hc : (sig.length : Int) ≤ c ∨ c < -1048576
      · simp only [if_pos hc]; rfl
      · simp only [if_neg hc]
        rw [show j + k + arOf sig c = (j + arOf sig c) + k by omega]
        exact ih _ _
inductive KV (S : Nat → Prop) (h : AHeap) : PV → List PV → Prop where
  | none : KV S h (.im true []) []
  | row (kid v : Nat) (ks : List PV) (hS : S kid) (ho : h[kid]? = some (.row false v 1 (ks.map fun x => [x]))) : KV S h (.ref kid v 0 ks.length) ks
inductive Forest (sig : List Symbol) (t : List Int) (S : Nat → Prop) (h : AHeap) : List PV → Nat → Nat → Prop where
  | nil (i : Nat) : Forest sig t S h [] i i
  | leaf (xs : List PV) (i e : Nat) (c : Int) (hc : t[i]? = some c) (hn : c < 0) (hf : Forest sig t S h xs (i + 1) e) : Forest sig t S h (Lf (w64 (-1 - c)) :: xs) i e
  | node (xs ks : List PV) (i j e c id : Nat) (s : Symbol) (K : PV) (hc : t[i]? = some (c : Int)) (hs : sig[c]? = some s) (hS : S id) (ho : h[id]? = some (XO i ((j : Int) - i) K)) (hK : KV S h K ks) (hl : ks.length = s.Arity.toNat)
      (hk : Forest sig t S h ks (i + 1) j) (hf : Forest sig t S h xs j e) : Forest sig t S h (In id :: xs) i e
theorem KV.mono {S S' : Nat → Prop} {h h' : AHeap} (hh : ∀ id, S id → S' id ∧ h'[id]? = h[id]?) {K : PV} {ks : List PV} (hk : KV S h K ks) : KV S' h' K ks := by
  cases hk with
  | none => exact .none
  | row kid v ks hS ho => exact .row kid v ks (hh _ hS).1 ((hh _ hS).2.trans ho)
theorem Forest.mono {S S' : Nat → Prop} {h h' : AHeap} (hh : ∀ id, S id → S' id ∧ h'[id]? = h[id]?) {xs : List PV} {i e : Nat} (hf : Forest sig t S h xs i e) : Forest sig t S' h' xs i e := by
  induction hf with
  | nil i => exact .nil i
  | leaf xs i e c hc hn hf ih => exact .leaf xs i e c hc hn ih
  | node xs ks i j e c id s K hc hs hS ho hK hl hk hf ih1 ih2 => exact .node xs ks i j e c id s K hc hs (hh _ hS).1 ((hh _ hS).2.trans ho) (hK.mono hh) hl ih1 ih2
theorem Forest.append {S : Nat → Prop} {h : AHeap} {xs ys : List PV} {i j e : Nat} (h1 : Forest sig t S h xs i j) (h2 : Forest sig t S h ys j e) : Forest sig t S h (xs ++ ys) i e := by
  induction h1 with
  | nil i => exact h2
  | leaf xs i e c hc hn hf ih => exact .leaf _ i _ c hc hn (ih h2)
  | node xs ks i j e c id s K hc hs hS ho hK hl hk hf ih1 ih2 => exact .node _ ks i j _ c id s K hc hs hS ho hK hl hk (ih2 h2)
theorem Forest.size {S : Nat → Prop} {h : AHeap} {x : PV} {i e : Nat} (hf : Forest sig t S h [x] i e) : SizeOk h x ((e : Int) - i) := by
  cases hf with
  | leaf _ _ _ c hc hn hf => cases hf; rw [show ((i + 1 : Nat) : Int) - i = 1 by omega]; exact .leaf _
  | node _ ks _ j _ c id s K hc hs hS ho hK hl hk hf => cases hf; exact .inner _ _ _ _ ho
theorem SizeOk.inj {h : AHeap} {x : PV} {s s' : Int} (h1 : SizeOk h x s) (h2 : SizeOk h x s') : s = s' := by
  cases h1 with
  | leaf n => cases h2; rfl
  | inner id a s K ho =>
    cases h2 with
    | inner _ a' _ K' ho' =>
      rw [ho] at ho'
      simp only [Option.some.injEq, AObj.row.injEq, List.cons.injEq, PV.d.injEq, D.v.injEq, Value.int.injEq] at ho'
      exact ho'.2.2.2.1.2.1.2
theorem SizeOk.stay {h h' : AHeap} {x : PV} {s : Int} (h1 : SizeOk h x s) (hh : ∀ id o, h[id]? = some o → x = In id → h'[id]? = some o) : SizeOk h' x s := by
  cases h1 with
  | leaf n => exact .leaf n
  | inner id a s K ho => exact .inner id a s K (hh id _ ho rfl)
def RdOk (sig : List Symbol) (t : List Int) (r : Nat) (h : AHeap) (i : Nat) : Prop := ∃ x h', Lim C 132 [rdr r] h = some (x, h') ∧ h'[r]? = some (RO sig t ((t.length - (rdT sig (t.drop i) 1).1.length : Nat) : Int) (rdT sig (t.drop i) 1).2) ∧ h.length ≤ h'.length ∧
  (∀ id, id < h.length → id ≠ r → h'[id]? = h[id]?) ∧ (∃ s id, SizeOk h' x s ∧ h.length ≤ id ∧ (∀ k, x = In k → h.length ≤ k ∧ k < h'.length)) ∧ ((rdT sig (t.drop i) 1).2 = 0 → Forest sig t (fun id => h.length ≤ id ∧ id < h'.length) h' [x] i (t.length - (rdT sig (t.drop i) 1).1.length))
def KVk (X : Nat) (h : AHeap) (K : PV) (ks : List PV) (kd : Option Nat) : Prop := (kd = none ∧ K = .im true [] ∧ ks = []) ∨ ∃ kid v, kd = some kid ∧ X < kid ∧ K = .ref kid v 0 ks.length ∧ h[kid]? = some (.row false v 1 (ks.map fun x => [x]))
theorem KVk.stay {X : Nat} {h h' : AHeap} {K : PV} {ks : List PV} {kd : Option Nat} (hk : KVk X h K ks kd) (hh : ∀ id, kd = some id → h'[id]? = h[id]?) : KVk X h' K ks kd := by
  rcases hk with h1 | ⟨kid, v, h1, h2, h3, h4⟩
  · exact .inl h1
  · exact .inr ⟨kid, v, h1, h2, h3, (hh _ h1).trans h4⟩
theorem qhK9 {h : AHeap} {o : AObj} {id : Nat} (hlt : id < h.length) : (h ++ [o])[id]? = h[id]? := List.getElem?_append_left hlt
theorem step18 {X i : Nat} {c ar j n s : Int} {K x : PV} {ks : List PV} {kd : Option Nat} (hX : h[X]? = some (XO i n K)) (hK : KVk X h K ks kd) (hx : SizeOk h x s) (hxk : ∀ k, x = In k → k ≠ X ∧ kd ≠ some k) (hb : (ks.length + 1) * 16 ≤ 140737488355328) :
    ∃ h2 h3 K' kd', semA C (Lim C) 1083197534392722413924130941 qef9 (St6 r X c ar j x h) = some (.normal, St6 r X c ar j x h2) ∧ semA C (Lim C) 1083197534392722413924130941 qeF9 (St6 r X c ar j x h2) = some (.normal, St6 r X c ar j x h3) ∧
      h3[X]? = some (XO i (w64 (n + s)) K') ∧ KVk X h3 K' (ks ++ [x]) kd' ∧ h.length ≤ h3.length ∧ (∀ id, id < h.length → id ≠ X → kd ≠ some id → h3[id]? = h[id]?) ∧ (∀ id, kd' = some id → kd = some id ∨ id = h.length) ∧ (∀ id, kd' = some id → id < h3.length) := by
  have hlt := (List.getElem?_eq_some_iff.1 hX).1
  rcases hK with ⟨rfl, rfl, rfl⟩ | ⟨kid, v, rfl, hXk, rfl, hkid⟩
  · have e18 := rd18a (r := r) (c := c) (ar := ar) (j := j) hx hX
    have hx2 : SizeOk ((h ++ [AObj.row false 0 1 [[x]]]).set X (XO i n (.ref h.length 0 0 1))) x s := hx.stay fun id o ho he => by
      rw [List.getElem?_set_ne (Ne.symm (hxk id he).1), qhK9 (List.getElem?_eq_some_iff.1 ho).1]; exact ho
    have hX2 : ((h ++ [AObj.row false 0 1 [[x]]]).set X (XO i n (.ref h.length 0 0 1)))[X]? = some (XO i n (.ref h.length 0 0 1)) := by
      rw [List.getElem?_set_self (by simp; omega)]
    have e19 := rd19 (r := r) (c := c) (ar := ar) (j := j) hx2 hX2
    refine ⟨_, _, .ref h.length 0 0 1, some h.length, e18, e19, ?_, ?_, by simp, fun id h1 h2 _ => ?_, fun id e => .inr (oiA e).symm, fun id e => by cases e; simp⟩
    · rw [List.getElem?_set_self (by simp; omega)]
    · refine .inr ⟨h.length, 0, rfl, hlt, rfl, ?_⟩
      rw [List.getElem?_set_ne (by omega), List.getElem?_set_ne (by omega)]
      simp
    · rw [List.getElem?_set_ne (Ne.symm h2), List.getElem?_set_ne (Ne.symm h2), qhK9 h1]
  · have hne : X ≠ kid := by omega
    have hl : (ks.map fun x => [x]).length = ks.length := by simp
    have hX' : h[X]? = some (XO i n (.ref kid v 0 (ks.map fun x => [x]).length)) := by rw [hl]; exact hX
    have e18 := rd18b (r := r) (c := c) (ar := ar) (j := j) hx hX' hkid hne (by rw [hl]; exact hb)
    have hkl := (List.getElem?_eq_some_iff.1 hkid).1
    have hx2 : SizeOk ((h.set kid (.row false (v + 1) 1 ((ks.map fun x => [x]) ++ [[x]]))).set X (XO i n (.ref kid (v + 1) 0 ((ks.map fun x => [x]) ++ [[x]]).length))) x s := hx.stay fun id o ho he => by
      have h1 := (hxk id he).1
      have h2 : kid ≠ id := fun e => (hxk id he).2 (by rw [e])
      rw [List.getElem?_set_ne (Ne.symm h1), List.getElem?_set_ne h2]; exact ho
    have hX2 : ((h.set kid (.row false (v + 1) 1 ((ks.map fun x => [x]) ++ [[x]]))).set X (XO i n (.ref kid (v + 1) 0 ((ks.map fun x => [x]) ++ [[x]]).length)))[X]? = some (XO i n (.ref kid (v + 1) 0 ((ks.map fun x => [x]) ++ [[x]]).length)) := by
      rw [List.getElem?_set_self (by simp; omega)]
    have e19 := rd19 (r := r) (c := c) (ar := ar) (j := j) hx2 hX2
    refine ⟨_, _, .ref kid (v + 1) 0 ((ks.map fun x => [x]) ++ [[x]]).length, some kid, e18, e19, ?_, ?_, by simp, fun id h1 h2 h3 => ?_, fun id e => .inl e, fun id e => by cases e; simp; omega⟩
    · rw [List.getElem?_set_self (by simp; omega)]
    · refine .inr ⟨kid, v + 1, rfl, hXk, by simp, ?_⟩
      rw [List.getElem?_set_ne (by omega), List.getElem?_set_ne (by omega), List.getElem?_set_self (by omega)]
      simp
    · have h4 : kid ≠ id := fun e => h3 (by rw [e])
      rw [List.getElem?_set_ne (Ne.symm h2), List.getElem?_set_ne (Ne.symm h2), List.getElem?_set_ne h4]
theorem round101 {X : Nat} {c ar j : Int} {x : PV} {h1 h2 h3 : AHeap} (hj : j < ar) (hc : Lim C 132 [rdr r] h = some (x, h1)) (e18 : semA C (Lim C) 1083197534392722413924130941 qef9 (St6 r X c ar j x h1) = some (.normal, St6 r X c ar j x h2))
    (e19 : semA C (Lim C) 1083197534392722413924130941 qeF9 (St6 r X c ar j x h2) = some (.normal, St6 r X c ar j x h3)) : semA C (Lim C) 1083197534392722413924130941 qjg9 (St5 r X c ar j h) = some (.normal, St5 r X c ar (w64 (j + 1)) h3) := by
  have hj' := eq_true hj
  have e17 := rd17 (X := X) (c := c) (ar := ar) (j := j) hc
  simp +decide only [qjg9, qfS9, qgP9, go_sem, Int.reduceToNat, Nat.reduceAdd, Nat.reduceLT, Nat.reduceMul, Nat.reducePow, reduceCtorEq, e17, e18, e19, hj']
theorem leave101 {X : Nat} {c ar j : Int} (hj : ¬ j < ar) : semA C (Lim C) 1083197534392722413924130941 qjg9 (St5 r X c ar j h) = some (.exit 2, St5 r X c ar j h) := by
  have hj' := eq_false hj
  simp +decide only [qjg9, qfS9, go_sem, Int.reduceToNat, Nat.reduceAdd, Nat.reduceLT, Nat.reduceMul, Nat.reducePow, reduceCtorEq, hj']
theorem rdE {a c ar : Int} {f : Symbol} {h' : AHeap} (hlt : r < h.length) (ho : h[r]? = some (RO sig t a 0)) (ha : a ≠ (t.length : Int)) (hx : idx t a = some c) (hc : ¬ ((sig.length : Int) ≤ c ∨ c < -1048576)) (hn : ¬ c < 0) (hf : idx sig c = some f) (hl : qp9 (semA C (Lim C) 1083197534392722413924130941 qjg9) (St5 r h.length c f.Arity 0 ((h ++ [XO a 1 (.im true [])]).set r (RO sig t (w64 (a + 1)) 0))) = some (.exit 2, St5 r h.length c f.Arity ar h')) :
    Lim C 132 [rdr r] h = some (In h.length, h') := by
  have ha' : (a = (t.length : Int)) = False := eq_false ha
  have h1 : ((sig.length : Int) ≤ c) = False := eq_false fun e => hc (.inl e)
  have h2 : (c < -1048576) = False := eq_false fun e => hc (.inr e)
  have h3 : (c < 0) = False := eq_false hn
  have ho2 : ∀ o, (h ++ [o])[r]? = some (RO sig t a 0) := fun o => by rw [qhK9 hlt]; exact ho
  have ho3 : ∀ o o', ((h ++ [o]).set r o')[r]? = some o' := fun o o' => List.getElem?_set_self (by simp; omega)
  refine Lim_A is132 (nbA rfl) (env := [(0, rdr r), (2, In h.length), (3, PI c), (4, .ptr h.length 0 0 0), (87, PI f.Arity), (88, PI ar)]) (e := .ret) ?_ (.inr rfl) (vs := [In h.length]) rfl
  simp +decide only [c132, qhR9, qhH9, qhJ9, qhG9, qhF9, qhy9, qhw9, qhu9, qhB9, qhQ9, qgJ9, qgL9, qgQ9, qgS9, qgU9, qgT9, qgO9, qg9, go_sem, Int.reduceToNat, Nat.reduceAdd, Nat.reduceLT, Nat.reduceMul, Nat.reducePow, reduceCtorEq, opNil, ho, ho2, ho3, ha', hx, h1, h2, h3, hf, hl]
structure LInv (sig : List Symbol) (t : List Int) (r X i : Nat) (h0 : AHeap) (j : Nat) (h : AHeap) : Prop where
  rx : r < X
  xl : X < h.length
  fr : ∀ id, id < X → id ≠ r → h[id]? = h0[id]?
  rd : h[r]? = some (RO sig t ((t.length - (rdT sig (t.drop (i + 1)) j).1.length : Nat) : Int) (rdT sig (t.drop (i + 1)) j).2)
  ex : ∃ (n : Int) (K : PV) (ks : List PV) (kd : Option Nat), h[X]? = some (XO i n K) ∧ ks.length = j ∧ KVk X h K ks kd ∧ (∀ id, kd = some id → id < h.length) ∧
    ((rdT sig (t.drop (i + 1)) j).2 = 0 → n = ((t.length - (rdT sig (t.drop (i + 1)) j).1.length : Nat) : Int) - i ∧ Forest sig t (fun id => X < id ∧ id < h.length ∧ kd ≠ some id) h ks (i + 1) (t.length - (rdT sig (t.drop (i + 1)) j).1.length))
theorem qqA9 {l : List Int} {i k : Nat} (hi : i ≤ t.length) : i ≤ t.length - (rdT sig (t.drop i) k).1.length ∧ t.length - (rdT sig (t.drop i) k).1.length ≤ t.length ∧ t.drop (t.length - (rdT sig (t.drop i) k).1.length) = (rdT sig (t.drop i) k).1 := by
  obtain ⟨m, h1, h2⟩ := qvt9 (sig := sig) (t.drop i) k
  rw [h2]
  rw [List.length_drop] at h1
  rw [List.drop_drop, List.length_drop]
  refine ⟨by omega, by omega, ?_⟩
  congr 1
  omega
theorem loop101 {X i : Nat} {c ar : Int} {h0 : AHeap} (hL : t.length < 4611686018427387904) (hi : i + 1 ≤ t.length) (hA : ar ≤ 1099511627776) (IH : ∀ (i' : Nat) (h' : AHeap), i < i' → i' ≤ t.length → h'[r]? = some (RO sig t i' 0) → RdOk sig t r h' i') :
    ∀ (m j : Nat) (h : AHeap), j + m = ar.toNat → LInv sig t r X i h0 j h → ∃ h', qp9 (semA C (Lim C) 1083197534392722413924130941 qjg9) (St5 r X c ar j h) = some (.exit 2, St5 r X c ar ar.toNat h') ∧ LInv sig t r X i h0 ar.toNat h' := by
  intro m
  induction m with
  | zero =>
    intro j h hj hv
    have : j = ar.toNat := by omega
    subst this
    exact ⟨h, qmT9 (leave101 (by omega)) (by simp), hv⟩
  | succ m ih =>
    intro j h hj hv
    have hlt : (j : Int) < ar := by omega
    obtain ⟨n, K, ks, kd, k1, k2, k3, k3b, k4⟩ := hv.ex
    obtain ⟨p1, p2, p3⟩ := qqA9 (sig := sig) (l := t) (k := j) hi
    have hadd := qiZ9 (sig := sig) (t.drop (i + 1)) j 1
    have hw : w64 ((j : Int) + 1) = ((j + 1 : Nat) : Int) := by unfold w64; rw [IntKind.wrap_i64]; omega
    have hbd : (ks.length + 1) * 16 ≤ 140737488355328 := by omega
    -- one argument is read
    have step : ∃ x h1 s, Lim C 132 [rdr r] h = some (x, h1) ∧ h1[r]? = some (RO sig t ((t.length - (rdT sig (t.drop (i + 1)) (j + 1)).1.length : Nat) : Int) (rdT sig (t.drop (i + 1)) (j + 1)).2) ∧ h.length ≤ h1.length ∧ (∀ id, id < h.length → id ≠ r → h1[id]? = h[id]?) ∧
        SizeOk h1 x s ∧ (∀ k, x = In k → h.length ≤ k ∧ k < h1.length) ∧ ((rdT sig (t.drop (i + 1)) (j + 1)).2 = 0 → (rdT sig (t.drop (i + 1)) j).2 = 0 ∧ Forest sig t (fun id => h.length ≤ id ∧ id < h1.length) h1 [x] (t.length - (rdT sig (t.drop (i + 1)) j).1.length) (t.length - (rdT sig (t.drop (i + 1)) (j + 1)).1.length)) := by
      have hrd := hv.rd
      by_cases hb : (rdT sig (t.drop (i + 1)) j).2 = 0
      · rw [hb] at hrd
        rw [if_pos hb] at hadd
        obtain ⟨x, h1, q1, q2, q3, q4, ⟨s, _, q5, _, q6⟩, q7⟩ := IH _ h (by omega) p2 hrd
        rw [p3, ← hadd] at q2 q7
        exact ⟨x, h1, s, q1, q2, q3, q4, q5, q6, fun e => ⟨hb, q7 e⟩⟩
      · rw [if_neg hb] at hadd
        rw [hadd]
        exact ⟨Lf 0, h, 1, rdA hrd hb, hrd, Nat.le_refl _, fun _ _ _ => rfl, .leaf 0, fun k e => (by cases e), fun e => absurd e hb⟩
    obtain ⟨x, h1, s, s1, s2, s3, s4, s5, s6, s7⟩ := step
    have hXr : X ≠ r := by have := hv.rx; omega
    have hkr : ∀ id, kd = some id → X < id := by
      intro id e
      rcases k3 with ⟨e1, _⟩ | ⟨kid, v, e1, e2, _⟩
      · rw [e1] at e; cases e
      · rw [e1] at e; cases e; exact e2
    have hX1 : h1[X]? = some (XO i n K) := (s4 X hv.xl hXr).trans k1
    have hK1 : KVk X h1 K ks kd := k3.stay fun id e => s4 id (k3b id e) (by have := hkr id e; have := hv.rx; omega)
    have hxk : ∀ k, x = In k → k ≠ X ∧ kd ≠ some k := fun k e => by
      have h1' := s6 k e
      have := hv.xl
      exact ⟨by omega, fun e' => by have := k3b k e'; omega⟩
    obtain ⟨h2, h3, K', kd', e18, e19, g1, g2, g3, g4, g5, g6⟩ := step18 (r := r) (c := c) (ar := ar) (j := j) hX1 hK1 s5 hxk hbd
    have hr3 : h3[r]? = h1[r]? := g4 r (by have := hv.rx; have := hv.xl; omega) (Ne.symm hXr) (fun e => by have := hkr r e; have := hv.rx; omega)
    have hv' : LInv sig t r X i h0 (j + 1) h3 := by
      refine ⟨hv.rx, by have := hv.xl; omega, fun id hid hne => ?_, by rw [hr3]; exact s2, w64 (n + s), K', ks ++ [x], kd', g1, by simp [k2], g2, g6, fun hb => ?_⟩
      · rw [g4 id (by have := hv.xl; omega) (by omega) (fun e => by have := hkr id e; omega), s4 id (by have := hv.xl; omega) hne]
        exact hv.fr id hid hne
      · obtain ⟨hb0, hF⟩ := s7 hb
        obtain ⟨c1, c2⟩ := k4 hb0
        have hsz := s5.inj hF.size
        obtain ⟨p1', p2', _⟩ := qqA9 (sig := sig) (l := t) (k := j + 1) hi
        refine ⟨?_, ?_⟩
        · rw [c1, hsz]
          unfold w64
          rw [IntKind.wrap_i64]
          omega
        · refine Forest.append (c2.mono fun id hid => ?_) (hF.mono fun id hid => ?_)
          · obtain ⟨a1, a2, a3⟩ := hid
            refine ⟨⟨a1, by omega, fun e => ?_⟩, ?_⟩
            · rcases g5 id e with e' | e'
              · exact a3 e'
              · omega
            · rw [g4 id (by omega) (by omega) a3, s4 id a2 (by have := hv.rx; omega)]
          · obtain ⟨a1, a2⟩ := hid
            have hne : kd ≠ some id := fun e => by have := k3b id e; omega
            refine ⟨⟨by have := hv.xl; omega, by omega, fun e => ?_⟩, ?_⟩
            · rcases g5 id e with e' | e'
              · exact hne e'
              · omega
            · rw [g4 id a2 (by have := hv.xl; omega) hne]
    obtain ⟨h', f1, f2⟩ := ih (j + 1) h3 (by omega) hv'
    have hround := round101 hlt s1 e18 e19
    rw [hw] at hround
    exact ⟨h', qnT9 hround f1, f2⟩
theorem rd_ok (hL : t.length < 4611686018427387904) (hA : ∀ s ∈ sig, s.Arity ≤ 1099511627776) : ∀ (n i : Nat) (h : AHeap), i ≤ t.length → t.length - i ≤ n → h[r]? = some (RO sig t i 0) → RdOk sig t r h i := by
  intro n
  induction n with
  | zero =>
    intro i h hi hn ho
    have : i = t.length := by omega
    subst this
    have hlt := (List.getElem?_eq_some_iff.1 ho).1
    have e : rdT sig (t.drop t.length) 1 = ([], 31) := by rw [List.drop_eq_nil_of_le (Nat.le_refl _)]; rfl
    rw [RdOk, e]
    refine ⟨_, _, rdB ho rfl, ?_, by simp, fun id h1 h2 => by rw [List.getElem?_set_ne (Ne.symm h2)], ⟨1, h.length, .leaf 0, Nat.le_refl _, fun k e => by cases e⟩, fun e => by cases e⟩
    rw [List.getElem?_set_self hlt]; rfl
  | succ n ih =>
    intro i h hi hn ho
    have hlt := (List.getElem?_eq_some_iff.1 ho).1
    by_cases hil : i = t.length
    · exact ih i h hi (by omega) ho
    have hit : i < t.length := by omega
    have ha : (i : Int) ≠ (t.length : Int) := by omega
    have hd := List.drop_eq_getElem_cons hit
    have hget : t[i]? = some t[i] := List.getElem?_eq_getElem hit
    have hx : idx t (i : Int) = some t[i] := by unfold idx; rw [if_pos (by omega)]; simp
    have hw : w64 ((i : Int) + 1) = ((i + 1 : Nat) : Int) := by unfold w64; rw [IntKind.wrap_i64]; omega
    by_cases hc : (sig.length : Int) ≤ t[i] ∨ t[i] < -1048576
    · have e : rdT sig (t.drop i) 1 = (t.drop i, 30) := by rw [hd]; simp only [rdT, if_pos hc]
      rw [RdOk, e]
      refine ⟨_, _, rdC ho ha hx hc, ?_, by simp, fun id h1 h2 => by rw [List.getElem?_set_ne (Ne.symm h2)], ⟨1, h.length, .leaf 0, Nat.le_refl _, fun k e => by cases e⟩, fun e => by cases e⟩
      rw [List.getElem?_set_self hlt, List.length_drop, show t.length - (t.length - i) = i by omega]
    by_cases hneg : t[i] < 0
    · have har : arOf sig t[i] = 0 := by unfold arOf; rw [if_neg (by omega)]
      have e : rdT sig (t.drop i) 1 = (t.drop (i + 1), 0) := by
        rw [hd]; simp only [rdT, if_neg hc, har]
        cases t.drop (i + 1) <;> rfl
      rw [RdOk, e]
      have hp : t.length - (t.drop (i + 1)).length = i + 1 := by rw [List.length_drop]; omega
      simp only [hp]
      refine ⟨_, _, rdD ho ha hx hc hneg, ?_, by simp, fun id h1 h2 => by rw [List.getElem?_set_ne (Ne.symm h2)], ⟨1, h.length, .leaf _, Nat.le_refl _, fun k e => by cases e⟩, fun _ => .leaf _ _ _ _ hget hneg (.nil _)⟩
      rw [List.getElem?_set_self hlt, hw]
    · obtain ⟨c, hcn⟩ : ∃ c : Nat, t[i] = (c : Int) := ⟨t[i].toNat, by omega⟩
      have hcs : c < sig.length := by rw [hcn] at hc; omega
      have hs : sig[c]? = some sig[c] := List.getElem?_eq_getElem hcs
      have hf : idx sig t[i] = some sig[c] := by unfold idx; rw [if_pos (by omega), hcn]; simp
      have har : arOf sig t[i] = sig[c].Arity.toNat := by unfold arOf; rw [if_pos (by omega), hcn]; simp [hs]
      have e : rdT sig (t.drop i) 1 = rdT sig (t.drop (i + 1)) sig[c].Arity.toNat := by
        rw [hd]; simp only [rdT, if_neg hc, har, Nat.zero_add]
      have hi1 : i + 1 ≤ t.length := hit
      have hr0 : ((h ++ [XO (i : Int) 1 (.im true [])]).set r (RO sig t (w64 ((i : Int) + 1)) 0))[h.length]? = some (XO (i : Int) 1 (.im true [])) := by
        rw [List.getElem?_set_ne (by omega)]; simp
      have hv0 : LInv sig t r h.length i h 0 ((h ++ [XO (i : Int) 1 (.im true [])]).set r (RO sig t (w64 ((i : Int) + 1)) 0)) := by
        have e0 : rdT sig (t.drop (i + 1)) 0 = (t.drop (i + 1), 0) := by cases t.drop (i + 1) <;> rfl
        have hp : t.length - (t.drop (i + 1)).length = i + 1 := by rw [List.length_drop]; omega
        refine ⟨hlt, by simp, fun id h1 h2 => ?_, ?_, 1, .im true [], [], none, hr0, rfl, .inl ⟨rfl, rfl, rfl⟩, fun id e => (by cases e), fun _ => ?_⟩
        · rw [List.getElem?_set_ne (Ne.symm h2), qhK9 h1]
        · rw [e0, hp, List.getElem?_set_self (by simp; omega), hw]
        · rw [e0, hp]
          exact ⟨by omega, .nil _⟩
      obtain ⟨h', f1, f2⟩ := loop101 (c := t[i]) (ar := sig[c].Arity) hL hi1 (hA _ (List.getElem_mem hcs)) (fun i' h'' h1 h2 h3 => ih i' h'' h2 (by omega) h3) sig[c].Arity.toNat 0 _ (by omega) hv0
      have hE := rdE hlt ho ha hx hc hneg hf (by simpa using f1)
      rw [RdOk, e]
      obtain ⟨n', K, ks, kd, k1, k2, k3, k3b, k4⟩ := f2.ex
      refine ⟨_, _, hE, f2.rd, by have := f2.xl; omega, fun id h1 h2 => f2.fr id h1 h2, ⟨n', h.length, .inner _ _ _ _ k1, Nat.le_refl _, fun k e => by cases e; exact ⟨Nat.le_refl _, f2.xl⟩⟩, fun hb => ?_⟩
      obtain ⟨c1, c2⟩ := k4 hb
      refine .node [] ks i _ _ c h.length sig[c] K (by rw [hget, hcn]) hs ⟨Nat.le_refl _, f2.xl⟩ (by rw [k1, c1]) ?_ k2 (c2.mono fun id hid => ⟨⟨by omega, hid.2.1⟩, rfl⟩) (.nil _)
      rcases k3 with ⟨_, rfl, rfl⟩ | ⟨kid, v, e1, e2, rfl, e4⟩
      · exact .none
      · exact .row kid v ks ⟨by omega, k3b _ e1⟩ e4
abbrev TArgs (sig : List Symbol) (t : List Int) : List PV := [.d (.rd (sig.map qa9)), .d (.rd (t.map intD))]
theorem qqe9 (hL : t.length < 4611686018427387904) (hA : ∀ s ∈ sig, s.Arity ≤ 1099511627776) (h : AHeap) : ∃ x h', Lim C 113 (TArgs sig t) h = some (.tp [x, PI (qB9 sig t)], h') ∧ h.length ≤ h'.length ∧ (∀ id, id < h.length → h'[id]? = h[id]?) ∧
    (∃ s, SizeOk h' x s) ∧ (qB9 sig t = 0 → Forest sig t (fun id => h.length < id ∧ id < h'.length) h' [x] 0 t.length) := by
  have ho : (h ++ [RO sig t 0 0])[h.length]? = some (RO sig t ((0 : Nat) : Int) 0) := by simp
  obtain ⟨x, h1, q1, q2, q3, q4, ⟨s, _, q5, _, q6⟩, q7⟩ := rd_ok (r := h.length) hL hA t.length 0 _ (Nat.zero_le _) (by omega) ho
  have hcall : callP C (Lim C) 132 [.ptr h.length 0 0 0] (h ++ [RO sig t 0 0]) = some (x, h1) := q1
  obtain ⟨p1, p2, p3⟩ := qqA9 (sig := sig) (l := t) (k := 1) (Nat.zero_le t.length)
  rw [List.drop_zero] at *
  have hle : h.length + 1 ≤ h1.length := by simpa using q3
  have hself : ∀ o, (h1.set h.length o)[h.length]? = some o := fun o => List.getElem?_set_self (by omega)
  have hst : ∀ o, SizeOk (h1.set h.length o) x s := fun o => q5.stay fun id ob hob he => by
    have := (q6 id he).1
    rw [List.length_append] at this
    rw [List.getElem?_set_ne (by simp at this; omega)]; exact hob
  by_cases hb : (rdT sig t 1).2 = 0
  · by_cases hn : (rdT sig t 1).1 = []
    · have e : qB9 sig t = 0 := by unfold qB9; simp [hb, hn]
      rw [e]
      have hlen : t.length - (rdT sig t 1).1.length = t.length := by rw [hn]; simp
      rw [hb, hlen] at q2
      have hlt : ((t.length : Int) < (t.length : Int)) = False := eq_false (by omega)
      refine ⟨x, h1, Lim_A is113 (nbA rfl) (env := [(0, .d (.rd (sig.map qa9))), (1, .d (.rd (t.map intD))), (4, x), (5, PI 0), (6, .ptr h.length 0 0 0), (7, x)]) (e := .ret) ?_ (.inr rfl) (vs := [x, PI 0]) rfl, by omega, fun id hid => ?_, ⟨s, q5⟩, fun _ => ?_⟩
      · simp +decide only [c113, qmf9, qme9, qlZ9, qmd9, qlV9, qmh9, qg9, go_sem, Int.reduceToNat, Nat.reduceAdd, Nat.reduceLT, Nat.reduceMul, Nat.reducePow, reduceCtorEq, opNil, hcall, q2, hlt]
      · rw [q4 id (by simp; omega) (by omega), qhK9 hid]
      · have := q7 hb
        rw [hlen] at this
        exact this.mono fun id hid => ⟨⟨by have := hid.1; simp at this; omega, hid.2⟩, rfl⟩
    · have e : qB9 sig t = 32 := by unfold qB9; simp [hb, hn]
      rw [e]
      rw [hb] at q2
      have hlt : (((t.length - (rdT sig t 1).1.length : Nat) : Int) < (t.length : Int)) = True := by
        have h1 : 0 < (rdT sig t 1).1.length := List.length_pos_iff.2 hn
        have h2 : (rdT sig t 1).1.length ≤ t.length := by
          have := congrArg List.length p3
          rw [List.length_drop] at this
          omega
        exact eq_true (by omega)
      refine ⟨x, _, Lim_A is113 (h' := h1.set h.length (RO sig t ((t.length - (rdT sig t 1).1.length : Nat) : Int) 32)) (nbA rfl) (env := [(0, .d (.rd (sig.map qa9))), (1, .d (.rd (t.map intD))), (4, x), (5, PI 32), (6, .ptr h.length 0 0 0), (7, x)]) (e := .ret) ?_ (.inr rfl) (vs := [x, PI 32]) rfl, by simp; omega, fun id hid => ?_, ⟨s, hst _⟩, fun e => by cases e⟩
      · simp +decide only [c113, qmf9, qme9, qlZ9, qmd9, qlV9, qmh9, qg9, go_sem, Int.reduceToNat, Nat.reduceAdd, Nat.reduceLT, Nat.reduceMul, Nat.reducePow, reduceCtorEq, opNil, hcall, q2, hlt, hself]
      · rw [List.getElem?_set_ne (by omega), q4 id (by simp; omega) (by omega), qhK9 hid]
  · have e : qB9 sig t = (rdT sig t 1).2 := by unfold qB9; simp [hb]
    rw [e]
    have hb' := eq_false hb
    refine ⟨x, h1, Lim_A is113 (nbA rfl) (env := [(0, .d (.rd (sig.map qa9))), (1, .d (.rd (t.map intD))), (4, x), (5, PI (rdT sig t 1).2), (6, .ptr h.length 0 0 0), (7, x)]) (e := .ret) ?_ (.inr rfl) (vs := [x, PI (rdT sig t 1).2]) rfl, by omega, fun id hid => ?_, ⟨s, q5⟩, fun e => absurd e hb⟩
    · simp +decide only [c113, qmf9, qme9, qlZ9, qmd9, qlV9, qmh9, qg9, go_sem, Int.reduceToNat, Nat.reduceAdd, Nat.reduceLT, Nat.reduceMul, Nat.reducePow, reduceCtorEq, opNil, hcall, q2, hb']
    · rw [q4 id (by simp; omega) (by omega), qhK9 hid]
theorem qxp9 (hL : t.length < 4611686018427387904) (hA : ∀ s ∈ sig, s.Arity ≤ 1099511627776) (hs : qz9 sig = some 0) (h : AHeap) : ∃ x h', Lim C 91 (TArgs sig t) h = some (.tp [x, PI (qB9 sig t)], h') ∧ h.length ≤ h'.length ∧ (∀ id, id < h.length → h'[id]? = h[id]?) ∧
    (∃ s, SizeOk h' x s) ∧ (qB9 sig t = 0 → Forest sig t (fun id => h.length < id ∧ id < h'.length) h' [x] 0 t.length) := by
  obtain ⟨x, h', q1, q2⟩ := qqe9 hL hA h
  have hcall : callP C (Lim C) 113 (TArgs sig t) h = some (.tp [x, PI (qB9 sig t)], h') := q1
  have hk := fun h => qfI9 (h := h) hs
  refine ⟨x, h', Lim_A is91 (nbA rfl) (env := [(0, .d (.rd (sig.map qa9))), (1, .d (.rd (t.map intD))), (4, x), (5, PI (qB9 sig t)), (6, PI 0)]) (e := .ret) ?_ (.inr rfl) (vs := [x, PI (qB9 sig t)]) rfl, q2⟩
  simp +decide only [c91, qqH9, qpI9, qqD9, qpD9, qqT9, qg9, go_sem, Int.reduceToNat, Nat.reduceAdd, Nat.reduceLT, Nat.reduceMul, Nat.reducePow, reduceCtorEq, opNil, hcall, hk]
theorem qxc9 {e : Int} (hs : qz9 sig = some e) (he : e ≠ 0) (h : AHeap) : Lim C 91 (TArgs sig t) h = some (.tp [.d (.v .nilIface), PI e], h) := by
  have hk := fun h => qfI9 (h := h) hs
  have he' := eq_false he
  refine Lim_A is91 (nbA rfl) (env := [(0, .d (.rd (sig.map qa9))), (1, .d (.rd (t.map intD))), (4, .d (.v .nilIface)), (5, PI e), (6, PI e)]) (e := .ret) ?_ (.inr rfl) (vs := [.d (.v .nilIface), PI e]) rfl
  simp +decide only [c91, qqH9, qpI9, qqD9, qpD9, qqT9, qg9, go_sem, Int.reduceToNat, Nat.reduceAdd, Nat.reduceLT, Nat.reduceMul, Nat.reducePow, reduceCtorEq, opNil, hk, he']
end

def qso9 : ACode := .reg [] [] [.K 4 (.mv (cI 0))]
def qsl9 : ACode := .reg [] [] [.M 8 0, .M 9 1, .T 10 (.call 113 [.tmp 8, .tmp 9]), .M 7 10, .T 11 (.ext (.tmp 7) 0), .T 12 (.ext (.tmp 7) 1), .M 5 11, .N 6 12]
def qsi9 : ACode := .reg [] [] [.M 13 6, .N 4 13]
def c119 : ACode := .seq (qso9) (.seq (qsl9) (.seq (qsi9) (.ret)))
theorem is119 : IsF C 119 14 83 c119 [.tmp 4] := ⟨⟨Tryd.f119, _, C_P ▸ Tryd.func119, rfl, rfl, rfl, by kernel_rfl, rfl⟩⟩
theorem qpE9 {sig : List Symbol} {t : List Int} {r : Int} (hr : qfx9 sig t = some r) : ∃ p hp, Lim C 119 (TArgs sig t) [] = some (p, hp) ∧ rsT hp p = some (PI r) := by
  simp only [qfx9] at hr
  obtain ⟨hL, hr⟩ := gsome hr
  replace hL := of_eq_true hL
  replace hr := oiA hr
  subst hr
  obtain ⟨x, h', q1, _⟩ := qqe9 hL.1 (fun s hs => by have := List.all_eq_true.1 hL.2 s hs; exact of_decide_eq_true this) []
  have hcall : callP C (Lim C) 113 (TArgs sig t) [] = some (.tp [x, PI (qB9 sig t)], h') := q1
  refine ⟨_, _, Lim_A is119 (h' := h') (nbA rfl) (env := [(0, .d (.rd (sig.map qa9))), (1, .d (.rd (t.map intD))), (4, PI (qB9 sig t)), (6, PI (qB9 sig t))]) (e := .ret) ?_ (.inr rfl) (vs := [PI (qB9 sig t)]) rfl, rfl⟩
  simp +decide only [c119, qso9, qsl9, qsi9, qg9, go_sem, Int.reduceToNat, Nat.reduceAdd, Nat.reduceLT, Nat.reduceMul, Nat.reducePow, reduceCtorEq, opNil, hcall]
theorem qlE9 {a0 : List Symbol} {a1 : List Int} {r : Int} (hr : qfx9 a0 a1 = some r) {h : AHeap} : callP C (Lim C) 119 (TArgs a0 a1) h = some (PI r, h) := qbk9 (ds := [.rd (a0.map qa9), .rd (a1.map intD)]) rfl rfl rfl (qpE9 hr) h

def qlK9 : ACode := .seq (.reg [] [] [.K 13 (.bin .lss (.tmp 12) (.tmp 11))]) (.seq (.cond (.tmp 13) (some 13) (.skip) (.exit 0)) (.seq (.block 1 268444000 (.seq (.reg [] [] [.M 14 12, .T 15 (.ix 1 (.tmp 10) (.tmp 12)), .T 16 (.load none (.tmp 15)), .N 5 14, .N 6 16]) (.seq (.reg [] [] [.M 18 3, .M 19 6, .T 20 (.look (Go.TypeDesc.int .i64) (.d (.v (.int .i64 0))) (.tmp 18) (.tmp 19) true), .M 17 20, .T 21 (.ext (.tmp 17) 0), .T 22 (.ext (.tmp 17) 1), .M 7 21, .N 8 22]) (.seq (.reg [] [] [.M 23 6, .T 24 (.bin .lss (.tmp 23) (cI 0)), .M 25 24, .MG 26 25 true 8, .TG 27 25 true (.not (.tmp 26)), .K 28 (.pick (.tmp 25) (.tmp 27) (.const (.bool false)))]) (.cond (.tmp 28) (some 28) (.seq (.reg [] [] [.M 29 3, .M 30 6, .M 31 5, ⟨none, .mput (Go.TypeDesc.int .i64) (.tmp 29) (.tmp 30) (.tmp 31), none, false, false⟩]) (.reg [] [] [.M 32 4, .M 33 6, .T 34 (.bin .sub (cI (-1)) (.tmp 33)), .T 35 (.lit 1 [(0, .tmp 34)]), .T 36 (.app 1 8 (.tmp 32) (.tmp 35)), .N 4 36])) (.skip)))))) (.reg [] [] [.T 37 (.bin .add (.tmp 12) (cI 1)), .N 12 37])))
def c120 : ACode := .seq (.reg [] [(2, 0)] [.K 2 (.mv (.const (.slice none 0 0)))]) (.seq (.reg [] [] [.T 9 (.mkMap), .N 3 9]) (.seq (.reg [] [(4, 1)] [.K 4 (.mv (.const (.slice none 0 0)))]) (.seq (.seq (.reg [] [] [.N 10 0, .K 11 (.len (.tmp 10)), .K 12 (.mv (cI 0))]) (.block 0 268444000 (.loop qlK9))) (.seq (.reg [] [(2, 0)] [.M 38 4, .N 2 38]) (.ret)))))
theorem is120 : IsF C 120 39 268451197 c120 [.tmp 2] := ⟨⟨Tryd.f120, _, C_P ▸ Tryd.func120, rfl, rfl, rfl, by kernel_rfl, rfl⟩⟩
def qfq9 (s0 : List Int) (s2 : List Int) (s10 : List Int) (s11 : Int) : Int × (List (Int × Int)) × (List Int) → Nat → St := fun (s12, m3, o4) v4 => ⟨[(0, .d (.rd (s0.map intD))), (2, .d (.rd (s2.map intD))), (3, .mp 0), (4, .ref 1 v4 0 o4.length), (10, .d (.rd (s10.map intD))), (11, PI s11), (12, PI s12)], (.map (mapP keyI intD m3) :: (.row false v4 1 (rowP intD o4) :: []))⟩
def qjk9 (s0 : List Int) (s2 : List Int) (s10 : List Int) (s11 : Int) : (Int × (List (Int × Int)) × (List Int)) → AExit × St → Prop := fun (s12, m3, o4) q => ∃ v4 : Nat, q = (.exit 0, ⟨[(0, .d (.rd (s0.map intD))), (2, .d (.rd (s2.map intD))), (3, .mp 0), (4, .ref 1 v4 0 o4.length), (10, .d (.rd (s10.map intD))), (11, PI s11), (12, PI s12)], (.map (mapP keyI intD m3) :: (.row false v4 1 (rowP intD o4) :: []))⟩)
theorem qpM9 (s0 : List Int) (s2 : List Int) (s10 : List Int) (s11 : Int) : ∀ (s : Int × (List (Int × Int)) × (List Int)) (g : Nat) r, qci9 s0 s2 s10 s11 s = some r → Sum.elim (fun s' => ∃ g', semA C (Lim C) 268451197 qlK9 (qfq9 s0 s2 s10 s11 s g) = some (.normal, qfq9 s0 s2 s10 s11 s' g')) (fun x => ∃ q, semA C (Lim C) 268451197 qlK9 (qfq9 s0 s2 s10 s11 s g) = some q ∧ q.1 ≠ .normal ∧ qjk9 s0 s2 s10 s11 x q) r := by
  intro s g r hr
  obtain ⟨s12, m3, o4⟩ := s
  have ⟨v4, hg0⟩ : ∃ y, y = g := ⟨_, rfl⟩
  subst hg0
  simp only [qci9] at hr
  rcases pcA (s12 < s11) with h1 | h1
  simp only [h1, if_true] at hr
  obtain ⟨x1, h2, hr⟩ := bsome hr
  rcases h3 : mget m3 x1 with _ | x2
  simp only [h3] at hr
  rcases pcA (x1 < 0) with h4 | h4
  simp only [h4, if_true] at hr
  obtain ⟨h5, hr⟩ := gsome hr
  obtain rfl := oiA hr
  refine ⟨(v4 + 1), ?_⟩
  rotate_left
  simp only [h4, if_false] at hr
  obtain rfl := oiA hr
  refine ⟨v4, ?_⟩
  rotate_left
  simp only [h3] at hr
  rcases pcA (x1 < 0) with h6 | h6
  simp only [h6, if_true] at hr
  obtain rfl := oiA hr
  refine ⟨v4, ?_⟩
  rotate_left
  simp only [h6, if_false] at hr
  obtain rfl := oiA hr
  refine ⟨v4, ?_⟩
  rotate_left
  simp only [h1, if_false] at hr
  obtain rfl := oiA hr
  refine ⟨(.exit 0, ⟨[(0, .d (.rd (s0.map intD))), (2, .d (.rd (s2.map intD))), (3, .mp 0), (4, .ref 1 v4 0 o4.length), (10, .d (.rd (s10.map intD))), (11, PI s11), (12, PI s12)], (.map (mapP keyI intD m3) :: (.row false v4 1 (rowP intD o4) :: []))⟩), ?_, nofun, v4, rfl⟩
  rotate_left
  all_goals (simp +decide only [go_sem, Int.reduceToNat, Nat.reduceAdd, Nat.reduceLT, Nat.reduceMul, Nat.reducePow, reduceCtorEq, qfq9, qlK9, *])
theorem qqn9 {s0 : List Int} {s2 : List Int} {s10 : List Int} {s11 : Int} {s : Int × (List (Int × Int)) × (List Int)} {g : Nat} {x} (h : wh (qci9 s0 s2 s10 s11) s = some x) : ∃ q, qp9 (semA C (Lim C) 268451197 qlK9) (qfq9 s0 s2 s10 s11 s g) = some q ∧ qjk9 s0 s2 s10 s11 x q := qcx9 (qpM9 s0 s2 s10 s11) h
theorem qrj9 {a0 : List Int} {r : (List Int)} (hr : qga9 a0 = some r) : ∃ p hp, Lim C 120 [.d (.rd (a0.map intD))] [] = some (p, hp) ∧ rsT hp p = some (.d (.rd (r.map intD))) := by
  simp only [qga9] at hr
  obtain ⟨x3, h1, hr⟩ := bsome hr
  obtain ⟨q1, h1L, h1X⟩ := qqn9 (g := 0) h1
  obtain ⟨x4, x5, x6⟩ := x3
  simp only [qjk9, qfq9] at h1X h1L
  obtain ⟨z7, rfl⟩ := h1X
  try simp only [go_sem, Nat.reduceAdd, la1, la2, la3, la4, la5, la6] at h1L
  obtain rfl := oiA hr
  refine qh9 is120 (nbA rfl) (q := (.ret, ⟨[(0, .d (.rd (a0.map intD))), (2, .d (.rd (x6.map intD))), (3, .mp 0), (4, .ref 1 z7 0 x6.length), (10, .d (.rd (a0.map intD))), (11, PI (a0.length : Int)), (12, PI x4)], (.map (mapP keyI intD x5) :: (.row true z7 1 (rowP intD x6) :: []))⟩)) ?_ (.inr rfl) ⟨[.d (.rd (x6.map intD))], rfl, ?_⟩
  rotate_left 2
  all_goals (simp +decide only [go_sem, Int.reduceToNat, Nat.reduceAdd, Nat.reduceLT, Nat.reduceMul, Nat.reducePow, reduceCtorEq, qg9, c120, *])
theorem qmv9 {a0 : List Int} {r : (List Int)} (hr : qga9 a0 = some r) {h : AHeap} : callP C (Lim C) 120 [.d (.rd (a0.map intD))] h = some (.d (.rd (r.map intD)), h) := qbk9 (ds := [.rd (a0.map intD)]) rfl rfl rfl (qrj9 hr) h
def qlQ9 : ACode := .seq (.reg [] [] [.K 9 (.bin .lss (.tmp 8) (.tmp 7))]) (.seq (.cond (.tmp 9) (some 9) (.skip) (.exit 0)) (.seq (.block 1 66080 (.seq (.reg [] [] [.M 10 8, .N 5 10]) (.seq (.reg [] [] [.M 11 1, .M 12 0, .M 13 5, .T 14 (.ix 1 (.tmp 12) (.tmp 13)), .T 15 (.load none (.tmp 14)), .K 16 (.bin .eql (.tmp 11) (.tmp 15))]) (.cond (.tmp 16) (some 16) (.seq (.reg [] [] [.M 17 5, .N 4 17]) (.ret)) (.skip))))) (.reg [] [] [.T 18 (.bin .add (.tmp 8) (cI 1)), .N 8 18])))
def c135 : ACode := .seq (.reg [] [] [.K 4 (.mv (cI 0))]) (.seq (.seq (.reg [] [] [.M 6 0, .K 7 (.len (.tmp 6)), .K 8 (.mv (cI 0))]) (.block 0 66080 (.loop qlQ9))) (.seq (.reg [] [] [.K 4 (.mv (cI (-1)))]) (.ret)))
theorem is135 : IsF C 135 19 66483 c135 [.tmp 4] := ⟨⟨Tryd.f135, _, C_P ▸ Tryd.func135, rfl, rfl, rfl, by kernel_rfl, rfl⟩⟩
def qbl9 (s0 : List Int) (s1 : Int) (s7 : Int) : Int → Unit → St := fun s8 _ => ⟨[(0, .d (.rd (s0.map intD))), (1, PI s1), (4, PI 0), (7, PI s7), (8, PI s8)], []⟩
def qdl9 (s0 : List Int) (s1 : Int) (s7 : Int) : (Int ⊕ Int) → AExit × St → Prop
  | .inl r, q => q.1 = .ret ∧ RetOK C [.tmp 4] q.2 (PI r)
  | .inr s8, q => q = (.exit 0, ⟨[(0, .d (.rd (s0.map intD))), (1, PI s1), (4, PI 0), (7, PI s7), (8, PI s8)], []⟩)
theorem qiF9 (s0 : List Int) (s1 : Int) (s7 : Int) : ∀ (s : Int) (g : Unit) r, qbn9 s0 s1 s7 s = some r → Sum.elim (fun s' => ∃ g', semA C (Lim C) 66483 qlQ9 (qbl9 s0 s1 s7 s g) = some (.normal, qbl9 s0 s1 s7 s' g')) (fun x => ∃ q, semA C (Lim C) 66483 qlQ9 (qbl9 s0 s1 s7 s g) = some q ∧ q.1 ≠ .normal ∧ qdl9 s0 s1 s7 x q) r := by
  intro s g r hr
  have ⟨s8, hs0⟩ : ∃ y, y = s := ⟨_, rfl⟩
  subst hs0
  simp only [qbn9] at hr
  rcases pcA (s8 < s7) with h1 | h1
  simp only [h1, if_true] at hr
  obtain ⟨x1, h2, hr⟩ := bsome hr
  rcases pcA (s1 = x1) with h3 | h3
  simp only [h3, if_true] at hr
  obtain rfl := oiA hr
  refine ⟨(.ret, ⟨[(0, .d (.rd (s0.map intD))), (1, PI s1), (4, PI s8), (5, PI s8), (7, PI s7), (8, PI s8)], []⟩), ?_, nofun, rfl, [PI s8], rfl, ?_⟩
  rotate_left 2
  simp only [h3, if_false] at hr
  obtain rfl := oiA hr
  refine ⟨(), ?_⟩
  rotate_left
  simp only [h1, if_false] at hr
  obtain rfl := oiA hr
  refine ⟨(.exit 0, ⟨[(0, .d (.rd (s0.map intD))), (1, PI s1), (4, PI 0), (7, PI s7), (8, PI s8)], []⟩), ?_, nofun, rfl⟩
  rotate_left
  all_goals (simp +decide only [go_sem, Int.reduceToNat, Nat.reduceAdd, Nat.reduceLT, Nat.reduceMul, Nat.reducePow, reduceCtorEq, qbl9, qlQ9, *])
theorem qiN9 {s0 : List Int} {s1 : Int} {s7 : Int} {s : Int} {g : Unit} {x} (h : wh (qbn9 s0 s1 s7) s = some x) : ∃ q, qp9 (semA C (Lim C) 66483 qlQ9) (qbl9 s0 s1 s7 s g) = some q ∧ qdl9 s0 s1 s7 x q := qcx9 (qiF9 s0 s1 s7) h
theorem qjd9 {a0 : List Int} {a1 : Int} {r : Int} (hr : qcP9 a0 a1 = some r) : ∃ p hp, Lim C 135 [.d (.rd (a0.map intD)), PI a1] [] = some (p, hp) ∧ rsT hp p = some (PI r) := by
  simp only [qcP9] at hr
  obtain ⟨x2, h1, hr⟩ := bsome hr
  obtain ⟨q1, h1L, h1X⟩ := qiN9 (g := ()) h1
  rcases x2 with x3 | x4
  simp only [qdl9, qbl9] at h1X h1L
  obtain ⟨e1, st1⟩ := q1
  obtain ⟨rfl, h1R⟩ := h1X
  try simp only [go_sem, Nat.reduceAdd, la1, la2, la3, la4, la5, la6] at h1L
  obtain rfl := oiA hr
  refine qh9 is135 (nbA rfl) ?_ (.inr rfl) h1R
  rotate_left
  simp only [qdl9, qbl9] at h1X h1L
  subst h1X
  try simp only [go_sem, Nat.reduceAdd, la1, la2, la3, la4, la5, la6] at h1L
  obtain rfl := oiA hr
  refine qh9 is135 (nbA rfl) (q := (.ret, ⟨[(0, .d (.rd (a0.map intD))), (1, PI a1), (4, PI (-1)), (7, PI (a0.length : Int)), (8, PI x4)], []⟩)) ?_ (.inr rfl) ⟨[PI (-1)], rfl, ?_⟩
  rotate_left 2
  all_goals (simp +decide only [go_sem, Int.reduceToNat, Nat.reduceAdd, Nat.reduceLT, Nat.reduceMul, Nat.reducePow, reduceCtorEq, qg9, c135, *])
theorem qjo9 {a0 : List Int} {a1 : Int} {r : Int} (hr : qcP9 a0 a1 = some r) {h : AHeap} : callP C (Lim C) 135 [.d (.rd (a0.map intD)), PI a1] h = some (PI r, h) := qbk9 (ds := [.rd (a0.map intD), .v (.int .i64 a1)]) rfl rfl rfl (qjd9 hr) h
def c121 : ACode := .seq (.reg [] [] [.K 4 (.mv (.const (.bool false)))]) (.seq (.reg [] [] [.M 5 0, .M 6 1, .T 7 (.call 135 [.tmp 5, .tmp 6]), .T 8 (.bin .geq (.tmp 7) (cI 0)), .N 4 8]) (.ret))
theorem is121 : IsF C 121 9 19 c121 [.tmp 4] := ⟨⟨Tryd.f121, _, C_P ▸ Tryd.func121, rfl, rfl, rfl, by kernel_rfl, rfl⟩⟩
theorem qis9 {a0 : List Int} {a1 : Int} {r : Bool} (hr : qbP9 a0 a1 = some r) : ∃ p hp, Lim C 121 [.d (.rd (a0.map intD)), PI a1] [] = some (p, hp) ∧ rsT hp p = some (PB r) := by
  simp only [qbP9] at hr
  obtain ⟨x1, h1, hr⟩ := bsome hr
  have h1k := fun h => qjo9 (h := h) h1
  try simp only [go_sem] at h1k
  obtain rfl := oiA hr
  refine qh9 is121 (nbA rfl) (q := (.ret, ⟨[(0, .d (.rd (a0.map intD))), (1, PI a1), (4, PB (decide (0 ≤ x1)))], []⟩)) ?_ (.inr rfl) ⟨[PB (decide (0 ≤ x1))], rfl, ?_⟩
  rotate_left 2
  all_goals (simp +decide only [go_sem, Int.reduceToNat, Nat.reduceAdd, Nat.reduceLT, Nat.reduceMul, Nat.reducePow, reduceCtorEq, qg9, c121, *])
theorem qir9 {a0 : List Int} {a1 : Int} {r : Bool} (hr : qbP9 a0 a1 = some r) {h : AHeap} : callP C (Lim C) 121 [.d (.rd (a0.map intD)), PI a1] h = some (PB r, h) := qbk9 (ds := [.rd (a0.map intD), .v (.int .i64 a1)]) rfl rfl rfl (qis9 hr) h
def qll9 : ACode := .seq (.reg [] [] [.K 47 (.bin .lss (.tmp 46) (.tmp 45))]) (.seq (.cond (.tmp 47) (some 47) (.skip) (.exit 1)) (.seq (.block 2 9147936743096832 (.seq (.reg [] [] [.T 48 (.ix 1 (.tmp 44) (.tmp 46)), .T 49 (.load none (.tmp 48)), .N 9 49]) (.seq (.reg [] [] [.M 50 7, .M 51 9, .T 52 (.call 121 [.tmp 50, .tmp 51]), .K 53 (.not (.tmp 52))]) (.cond (.tmp 53) (some 53) (.seq (.reg [] [] [.K 4 (.mv (cI 72))]) (.ret)) (.skip))))) (.reg [] [] [.T 54 (.bin .add (.tmp 46) (cI 1)), .N 46 54])))
def c101 : ACode := .seq (.reg [] [] [.K 3 (.box (.tmp 1)), .K 4 (.mv (cI 0))]) (.seq (.seq (.reg [] [] [.M 10 0, .T 11 (.fa 0 (.tmp 3)), .T 12 (.load none (.tmp 11)), .T 13 (.call 119 [.tmp 10, .tmp 12]), .N 5 13]) (.seq (.reg [] [] [.M 14 5, .K 15 (.bin .neq (.tmp 14) (cI 0))]) (.cond (.tmp 15) (some 15) (.seq (.reg [] [] [.M 16 5, .N 4 16]) (.ret)) (.skip)))) (.seq (.seq (.reg [] [] [.M 17 0, .T 18 (.fa 1 (.tmp 3)), .T 19 (.load none (.tmp 18)), .T 20 (.call 119 [.tmp 17, .tmp 19]), .N 6 20]) (.seq (.reg [] [] [.M 21 6, .K 22 (.bin .neq (.tmp 21) (cI 0))]) (.cond (.tmp 22) (some 22) (.seq (.reg [] [] [.M 23 6, .N 4 23]) (.ret)) (.skip)))) (.seq (.block 0 8606711808 (.seq (.reg [] [] [.T 25 (.fa 0 (.tmp 3)), .T 26 (.load none (.tmp 25)), .T 27 (.len (.tmp 26)), .T 28 (.fa 1 (.tmp 3)), .T 29 (.load none (.tmp 28)), .T 30 (.len (.tmp 29)), .T 31 (.raw ({ dst := some 31, op := Go.Op.call { callee := Go.Callee.builtin Go.Builtin.max, args := #[.tmp 27, .tmp 30], argTypes := #[3, 3] }, type := 3, pos := "system.go:37", after := #[{ on := 2, ground := Go.Ground.data }, { on := 5, ground := Go.Ground.data }], guard := none })), .T 32 (.bin .gtr (.tmp 31) (cI 512)), .N 24 32]) (.cond (.tmp 24) (some 24) (.seq (.reg [] [] [.K 4 (.mv (cI 2))]) (.ret)) (.seq (.reg [] [] [.T 34 (.fa 0 (.tmp 3)), .T 35 (.load none (.tmp 34)), .T 36 (.ix 1 (.tmp 35) (cI 0)), .T 37 (.load none (.tmp 36)), .T 38 (.bin .lss (.tmp 37) (cI 0)), .N 33 38]) (.cond (.tmp 33) (some 33) (.seq (.reg [] [] [.K 4 (.mv (cI 71))]) (.ret)) (.skip)))))) (.seq (.reg [] [] [.T 39 (.fa 0 (.tmp 3)), .T 40 (.load none (.tmp 39)), .T 41 (.call 120 [.tmp 40]), .N 7 41]) (.seq (.seq (.reg [] [] [.T 42 (.fa 1 (.tmp 3)), .T 43 (.load none (.tmp 42)), .K 44 (.call 120 [.tmp 43]), .K 45 (.len (.tmp 44)), .K 46 (.mv (cI 0))]) (.block 1 9147936743096832 (.loop qll9))) (.seq (.reg [] [] [.K 4 (.mv (cI 0))]) (.ret)))))))
theorem is101 : IsF C 101 55 9271090656346875 c101 [.tmp 4] := ⟨⟨Tryd.f101, _, C_P ▸ Tryd.func101, rfl, rfl, rfl, by kernel_rfl, rfl⟩⟩
def qdy9 (s0 : List Symbol) (s1 : Rule) (s5 : Int) (s6 : Int) (s7 : List Int) (s44 : List Int) (s45 : Int) (b3_0 : List Int) (b3_1 : List Int) : Int → Unit → St := fun s46 _ => ⟨[(0, .d (.rd (s0.map qa9))), (1, .d (.ag (qd9 s1))), (3, .ptr 0 0 0 0), (4, PI 0), (5, PI s5), (6, PI s6), (7, .d (.rd (s7.map intD))), (44, .d (.rd (s44.map intD))), (45, PI s45), (46, PI s46)], (.row false 0 2 [[.d (.rd (b3_0.map intD)), .d (.rd (b3_1.map intD))]] :: [])⟩
def qgj9 (s0 : List Symbol) (s1 : Rule) (s5 : Int) (s6 : Int) (s7 : List Int) (s44 : List Int) (s45 : Int) (b3_0 : List Int) (b3_1 : List Int) : (Int ⊕ Int) → AExit × St → Prop
  | .inl r, q => q.1 = .ret ∧ RetOK C [.tmp 4] q.2 (PI r)
  | .inr s46, q => q = (.exit 1, ⟨[(0, .d (.rd (s0.map qa9))), (1, .d (.ag (qd9 s1))), (3, .ptr 0 0 0 0), (4, PI 0), (5, PI s5), (6, PI s6), (7, .d (.rd (s7.map intD))), (44, .d (.rd (s44.map intD))), (45, PI s45), (46, PI s46)], (.row false 0 2 [[.d (.rd (b3_0.map intD)), .d (.rd (b3_1.map intD))]] :: [])⟩)
theorem qnZ9 (s0 : List Symbol) (s1 : Rule) (s5 : Int) (s6 : Int) (s7 : List Int) (s44 : List Int) (s45 : Int) (b3_0 : List Int) (b3_1 : List Int) : ∀ (s : Int) (g : Unit) r, qdz9 s0 s1 s5 s6 s7 s44 s45 b3_0 b3_1 s = some r → Sum.elim (fun s' => ∃ g', semA C (Lim C) 9271090656346875 qll9 (qdy9 s0 s1 s5 s6 s7 s44 s45 b3_0 b3_1 s g) = some (.normal, qdy9 s0 s1 s5 s6 s7 s44 s45 b3_0 b3_1 s' g')) (fun x => ∃ q, semA C (Lim C) 9271090656346875 qll9 (qdy9 s0 s1 s5 s6 s7 s44 s45 b3_0 b3_1 s g) = some q ∧ q.1 ≠ .normal ∧ qgj9 s0 s1 s5 s6 s7 s44 s45 b3_0 b3_1 x q) r := by
  intro s g r hr
  have ⟨s46, hs0⟩ : ∃ y, y = s := ⟨_, rfl⟩
  subst hs0
  simp only [qdz9] at hr
  rcases pcA (s46 < s45) with h1 | h1
  simp only [h1, if_true] at hr
  obtain ⟨x6, h2, hr⟩ := bsome hr
  obtain ⟨x7, h3, hr⟩ := bsome hr
  have h3k := fun h => qir9 (h := h) h3
  try simp only [go_sem] at h3k
  cases h4 : x7
  simp only [h4, Bool.false_eq_true, if_false] at hr
  obtain rfl := oiA hr
  refine ⟨(.ret, ⟨[(0, .d (.rd (s0.map qa9))), (1, .d (.ag (qd9 s1))), (3, .ptr 0 0 0 0), (4, PI 72), (5, PI s5), (6, PI s6), (7, .d (.rd (s7.map intD))), (9, PI x6), (44, .d (.rd (s44.map intD))), (45, PI s45), (46, PI s46)], (.row false 0 2 [[.d (.rd (b3_0.map intD)), .d (.rd (b3_1.map intD))]] :: [])⟩), ?_, nofun, rfl, [PI 72], rfl, ?_⟩
  rotate_left 2
  simp only [h4, if_true] at hr
  obtain rfl := oiA hr
  refine ⟨(), ?_⟩
  rotate_left
  simp only [h1, if_false] at hr
  obtain rfl := oiA hr
  refine ⟨(.exit 1, ⟨[(0, .d (.rd (s0.map qa9))), (1, .d (.ag (qd9 s1))), (3, .ptr 0 0 0 0), (4, PI 0), (5, PI s5), (6, PI s6), (7, .d (.rd (s7.map intD))), (44, .d (.rd (s44.map intD))), (45, PI s45), (46, PI s46)], (.row false 0 2 [[.d (.rd (b3_0.map intD)), .d (.rd (b3_1.map intD))]] :: [])⟩), ?_, nofun, rfl⟩
  rotate_left
  all_goals (simp +decide only [go_sem, Int.reduceToNat, Nat.reduceAdd, Nat.reduceLT, Nat.reduceMul, Nat.reducePow, reduceCtorEq, qdy9, qll9, *])
theorem qnR9 {s0 : List Symbol} {s1 : Rule} {s5 : Int} {s6 : Int} {s7 : List Int} {s44 : List Int} {s45 : Int} {b3_0 : List Int} {b3_1 : List Int} {s : Int} {g : Unit} {x} (h : wh (qdz9 s0 s1 s5 s6 s7 s44 s45 b3_0 b3_1) s = some x) : ∃ q, qp9 (semA C (Lim C) 9271090656346875 qll9) (qdy9 s0 s1 s5 s6 s7 s44 s45 b3_0 b3_1 s g) = some q ∧ qgj9 s0 s1 s5 s6 s7 s44 s45 b3_0 b3_1 x q := qcx9 (qnZ9 s0 s1 s5 s6 s7 s44 s45 b3_0 b3_1) h
theorem qpi9 {a0 : List Symbol} {a1 : Rule} {r : Int} (hr : qbW9 a0 a1 = some r) : ∃ p hp, Lim C 101 [.d (.rd (a0.map qa9)), .d (.ag (qd9 a1))] [] = some (p, hp) ∧ rsT hp p = some (PI r) := by
  simp only [qbW9] at hr
  obtain ⟨x1, h1, hr⟩ := bsome hr
  have h1k := fun h => qlE9 (h := h) h1
  try simp only [go_sem] at h1k
  rcases pcA (x1 = 0) with h2 | h2
  simp only [h2, if_true] at hr
  obtain ⟨x2, h3, hr⟩ := bsome hr
  have h3k := fun h => qlE9 (h := h) h3
  try simp only [go_sem] at h3k
  rcases pcA (x2 = 0) with h4 | h4
  simp only [h4, if_true] at hr
  rcases pcA (512 < (max (a1.L.length : Int) (a1.R.length : Int))) with h5 | h5
  simp only [h5, if_true] at hr
  obtain rfl := oiA hr
  refine qh9 is101 (nbA rfl) (q := (.ret, ⟨[(0, .d (.rd (a0.map qa9))), (1, .d (.ag (qd9 a1))), (3, .ptr 0 0 0 0), (4, PI 2), (5, PI x1), (6, PI x2)], (.row false 0 2 [[.d (.rd (a1.L.map intD)), .d (.rd (a1.R.map intD))]] :: [])⟩)) ?_ (.inr rfl) ⟨[PI 2], rfl, ?_⟩
  rotate_left 2
  simp only [h5, if_false] at hr
  obtain ⟨x3, h6, hr⟩ := bsome hr
  rcases pcA (x3 < 0) with h7 | h7
  simp only [h7, if_true] at hr
  obtain rfl := oiA hr
  refine qh9 is101 (nbA rfl) (q := (.ret, ⟨[(0, .d (.rd (a0.map qa9))), (1, .d (.ag (qd9 a1))), (3, .ptr 0 0 0 0), (4, PI 71), (5, PI x1), (6, PI x2)], (.row false 0 2 [[.d (.rd (a1.L.map intD)), .d (.rd (a1.R.map intD))]] :: [])⟩)) ?_ (.inr rfl) ⟨[PI 71], rfl, ?_⟩
  rotate_left 2
  simp only [h7, if_false] at hr
  obtain ⟨x4, h8, hr⟩ := bsome hr
  have h8k := fun h => qmv9 (h := h) h8
  try simp only [go_sem] at h8k
  obtain ⟨x5, h9, hr⟩ := bsome hr
  have h9k := fun h => qmv9 (h := h) h9
  try simp only [go_sem] at h9k
  obtain ⟨x8, h10, hr⟩ := bsome hr
  obtain ⟨q10, h10L, h10X⟩ := qnR9 (g := ()) h10
  rcases x8 with x9 | x10
  simp only [qgj9, qdy9] at h10X h10L
  obtain ⟨e10, st10⟩ := q10
  obtain ⟨rfl, h10R⟩ := h10X
  try simp only [go_sem, Nat.reduceAdd, la1, la2, la3, la4, la5, la6] at h10L
  obtain rfl := oiA hr
  refine qh9 is101 (nbA rfl) ?_ (.inr rfl) h10R
  rotate_left
  simp only [qgj9, qdy9] at h10X h10L
  subst h10X
  try simp only [go_sem, Nat.reduceAdd, la1, la2, la3, la4, la5, la6] at h10L
  obtain rfl := oiA hr
  refine qh9 is101 (nbA rfl) (q := (.ret, ⟨[(0, .d (.rd (a0.map qa9))), (1, .d (.ag (qd9 a1))), (3, .ptr 0 0 0 0), (4, PI 0), (5, PI x1), (6, PI x2), (7, .d (.rd (x4.map intD))), (44, .d (.rd (x5.map intD))), (45, PI (x5.length : Int)), (46, PI x10)], (.row false 0 2 [[.d (.rd (a1.L.map intD)), .d (.rd (a1.R.map intD))]] :: [])⟩)) ?_ (.inr rfl) ⟨[PI 0], rfl, ?_⟩
  rotate_left 2
  simp only [h4, if_false] at hr
  obtain rfl := oiA hr
  refine qh9 is101 (nbA rfl) (q := (.ret, ⟨[(0, .d (.rd (a0.map qa9))), (1, .d (.ag (qd9 a1))), (3, .ptr 0 0 0 0), (4, PI x2), (5, PI x1), (6, PI x2)], (.row false 0 2 [[.d (.rd (a1.L.map intD)), .d (.rd (a1.R.map intD))]] :: [])⟩)) ?_ (.inr rfl) ⟨[PI x2], rfl, ?_⟩
  rotate_left 2
  simp only [h2, if_false] at hr
  obtain rfl := oiA hr
  refine qh9 is101 (nbA rfl) (q := (.ret, ⟨[(0, .d (.rd (a0.map qa9))), (1, .d (.ag (qd9 a1))), (3, .ptr 0 0 0 0), (4, PI x1), (5, PI x1)], (.row false 0 2 [[.d (.rd (a1.L.map intD)), .d (.rd (a1.R.map intD))]] :: [])⟩)) ?_ (.inr rfl) ⟨[PI x1], rfl, ?_⟩
  rotate_left 2
  all_goals (simp +decide only [go_sem, Int.reduceToNat, Nat.reduceAdd, Nat.reduceLT, Nat.reduceMul, Nat.reducePow, reduceCtorEq, qg9, c101, *])
theorem qpn9 {a0 : List Symbol} {a1 : Rule} {r : Int} (hr : qbW9 a0 a1 = some r) {h : AHeap} {args : List PV} (ha : mapO (rs h depth) args = some [.rd (a0.map qa9), .ag (qd9 a1)]) : callP C (Lim C) 101 args h = some (PI r, if scalar (PI r) = true then h else freezeAll (args.flatMap (reach h depth)) h) := qdD9 rfl rfl rfl (qpi9 hr) ha
def b77_0 : ACode := .seq (.reg [] [] [.K 22 (.bin .lss (.tmp 21) (.tmp 20))]) (.seq (.cond (.tmp 22) (some 22) (.skip) (.exit 0)) (.seq (.block 1 2151678176 (.seq (.reg [] [] [.M 23 21, .T 24 (.ix 2 (.tmp 19) (.tmp 21)), .T 25 (.load (some 2) (.tmp 24)), .K 6 (.alloc [.im true [], .im true []] 2), .N 5 23, ⟨none, .store 2 (.tmp 6) (.tmp 25), none, false, false⟩]) (.seq (.reg [] [] [.T 26 (.fa 0 (.tmp 1)), .T 27 (.load none (.tmp 26)), .T 28 (.load (some 2) (.tmp 6)), .T 29 (.call 101 [.tmp 27, .tmp 28]), .N 7 29]) (.seq (.reg [] [] [.M 30 7, .K 31 (.bin .neq (.tmp 30) (cI 0))]) (.cond (.tmp 31) (some 31) (.seq (.reg [] [] [.M 32 7, .M 33 5, .N 2 32, .N 3 33]) (.ret)) (.skip)))))) (.reg [] [] [.T 34 (.bin .add (.tmp 21) (cI 1)), .N 21 34])))
def c77 : ACode := .seq (.reg [] [] [.K 1 (.box (.tmp 0)), .K 2 (.mv (cI 0)), .K 3 (.mv (cI 0))]) (.seq (.seq (.reg [] [] [.T 8 (.fa 0 (.tmp 1)), .T 9 (.load none (.tmp 8)), .T 10 (.call 100 [.tmp 9]), .N 4 10]) (.seq (.reg [] [] [.M 11 4, .K 12 (.bin .neq (.tmp 11) (cI 0))]) (.cond (.tmp 12) (some 12) (.seq (.reg [] [] [.M 13 4, .N 2 13, .K 3 (.mv (cI (-1)))]) (.ret)) (.skip)))) (.seq (.seq (.reg [] [] [.T 14 (.fa 1 (.tmp 1)), .T 15 (.load none (.tmp 14)), .T 16 (.len (.tmp 15)), .K 17 (.bin .gtr (.tmp 16) (cI 64))]) (.cond (.tmp 17) (some 17) (.seq (.reg [] [] [.K 2 (.mv (cI 70)), .K 3 (.mv (cI (-1)))]) (.ret)) (.skip))) (.seq (.seq (.reg [] [] [.T 18 (.fa 1 (.tmp 1)), .K 19 (.load none (.tmp 18)), .K 20 (.len (.tmp 19)), .K 21 (.mv (cI 0))]) (.block 0 2151678176 (.loop b77_0))) (.seq (.reg [] [] [.K 2 (.mv (cI 0)), .K 3 (.mv (cI 0))]) (.ret)))))
theorem is77 : IsF C 77 35 2155483391 c77 [.tmp 2, .tmp 3] := ⟨⟨Tryd.f77, _, C_P ▸ Tryd.func77, rfl, rfl, rfl, by kernel_rfl, rfl⟩⟩
def qdt9 (s0 : System) (s4 : Int) (s19 : List Rule) (s20 : Int) (b1_0 : List Symbol) (b1_1 : List Rule) : Int → AHeap → St := fun s21 gt => ⟨[(0, .d (.ag (qf9 s0))), (1, .ptr 0 0 0 0), (2, PI 0), (3, PI 0), (4, PI s4), (19, .d (.rd (s19.map qd9))), (20, PI s20), (21, PI s21)], (.row false 0 2 [[.d (.rd (b1_0.map qa9)), .d (.rd (b1_1.map qd9))]] :: gt)⟩
def qfH9 (s0 : System) (s4 : Int) (s19 : List Rule) (s20 : Int) (b1_0 : List Symbol) (b1_1 : List Rule) : ((Int × Int) ⊕ Int) → AExit × St → Prop
  | .inl r, q => q.1 = .ret ∧ RetOK C [.tmp 2, .tmp 3] q.2 (.tp [PI r.1, PI r.2])
  | .inr s21, q => ∃ h1 : AHeap, q = (.exit 0, ⟨[(0, .d (.ag (qf9 s0))), (1, .ptr 0 0 0 0), (2, PI 0), (3, PI 0), (4, PI s4), (19, .d (.rd (s19.map qd9))), (20, PI s20), (21, PI s21)], (.row false 0 2 [[.d (.rd (b1_0.map qa9)), .d (.rd (b1_1.map qd9))]] :: h1)⟩)
theorem qnp9 (s0 : System) (s4 : Int) (s19 : List Rule) (s20 : Int) (b1_0 : List Symbol) (b1_1 : List Rule) : ∀ (s : Int) (g : AHeap) r, qds9 s0 s4 s19 s20 b1_0 b1_1 s = some r → Sum.elim (fun s' => ∃ g', semA C (Lim C) 2155483391 b77_0 (qdt9 s0 s4 s19 s20 b1_0 b1_1 s g) = some (.normal, qdt9 s0 s4 s19 s20 b1_0 b1_1 s' g')) (fun x => ∃ q, semA C (Lim C) 2155483391 b77_0 (qdt9 s0 s4 s19 s20 b1_0 b1_1 s g) = some q ∧ q.1 ≠ .normal ∧ qfH9 s0 s4 s19 s20 b1_0 b1_1 x q) r := by
  intro s g r hr
  have ⟨s21, hs0⟩ : ∃ y, y = s := ⟨_, rfl⟩
  subst hs0
  have ⟨gt, hg0⟩ : ∃ y, y = g := ⟨_, rfl⟩
  subst hg0
  simp only [qds9] at hr
  rcases pcA (s21 < s20) with h1 | h1
  simp only [h1, if_true] at hr
  obtain ⟨x2, h2, hr⟩ := bsome hr
  obtain ⟨x3, h3, hr⟩ := bsome hr
  have h3k := fun h => qpn9 (h := h) (args := [.d (.rd (b1_0.map qa9)), .ag [.d (.rd (x2.L.map intD)), .d (.rd (x2.R.map intD))]]) h3 rfl
  try simp only [go_sem] at h3k
  rcases pcA (x3 = 0) with h4 | h4
  simp only [h4, if_true] at hr
  obtain rfl := oiA hr
  refine ⟨(gt ++ (.row false 0 2 [[.d (.rd (x2.L.map intD)), .d (.rd (x2.R.map intD))]] :: [])), ?_⟩
  rotate_left
  simp only [h4, if_false] at hr
  obtain rfl := oiA hr
  refine ⟨(.ret, ⟨[(0, .d (.ag (qf9 s0))), (1, .ptr 0 0 0 0), (2, PI x3), (3, PI s21), (4, PI s4), (5, PI s21), (6, .ptr (gt.length + 1) 0 0 0), (7, PI x3), (19, .d (.rd (s19.map qd9))), (20, PI s20), (21, PI s21)], (.row false 0 2 [[.d (.rd (b1_0.map qa9)), .d (.rd (b1_1.map qd9))]] :: (gt ++ (.row false 0 2 [[.d (.rd (x2.L.map intD)), .d (.rd (x2.R.map intD))]] :: [])))⟩), ?_, nofun, rfl, [PI x3, PI s21], rfl, ?_⟩
  rotate_left 2
  simp only [h1, if_false] at hr
  obtain rfl := oiA hr
  refine ⟨(.exit 0, ⟨[(0, .d (.ag (qf9 s0))), (1, .ptr 0 0 0 0), (2, PI 0), (3, PI 0), (4, PI s4), (19, .d (.rd (s19.map qd9))), (20, PI s20), (21, PI s21)], (.row false 0 2 [[.d (.rd (b1_0.map qa9)), .d (.rd (b1_1.map qd9))]] :: gt)⟩), ?_, nofun, gt, rfl⟩
  rotate_left
  all_goals (simp +decide only [go_sem, Int.reduceToNat, Nat.reduceAdd, Nat.reduceLT, Nat.reduceMul, Nat.reducePow, reduceCtorEq, qdt9, b77_0, *])
theorem qmY9 {s0 : System} {s4 : Int} {s19 : List Rule} {s20 : Int} {b1_0 : List Symbol} {b1_1 : List Rule} {s : Int} {g : AHeap} {x} (h : wh (qds9 s0 s4 s19 s20 b1_0 b1_1) s = some x) : ∃ q, qp9 (semA C (Lim C) 2155483391 b77_0) (qdt9 s0 s4 s19 s20 b1_0 b1_1 s g) = some q ∧ qfH9 s0 s4 s19 s20 b1_0 b1_1 x q := qcx9 (qnp9 s0 s4 s19 s20 b1_0 b1_1) h
theorem qol9 {a0 : System} {r : Int × Int} (hr : qfp9 a0 = some r) : ∃ p hp, Lim C 77 [.d (.ag (qf9 a0))] [] = some (p, hp) ∧ rsT hp p = some (.tp [PI r.1, PI r.2]) := by
  simp only [qfp9] at hr
  obtain ⟨x1, h1, hr⟩ := bsome hr
  have h1k := fun h => qog9 (h := h) h1
  try simp only [go_sem] at h1k
  rcases pcA (x1 = 0) with h2 | h2
  simp only [h2, if_true] at hr
  rcases pcA (64 < (a0.Rules.length : Int)) with h3 | h3
  simp only [h3, if_true] at hr
  obtain rfl := oiA hr
  refine qh9 is77 (nbA rfl) (q := (.ret, ⟨[(0, .d (.ag (qf9 a0))), (1, .ptr 0 0 0 0), (2, PI 70), (3, PI (-1)), (4, PI x1)], (.row false 0 2 [[.d (.rd (a0.Sig.map qa9)), .d (.rd (a0.Rules.map qd9))]] :: [])⟩)) ?_ (.inr rfl) ⟨[PI 70, PI (-1)], rfl, ?_⟩
  rotate_left 2
  simp only [h3, if_false] at hr
  obtain ⟨x4, h4, hr⟩ := bsome hr
  obtain ⟨q4, h4L, h4X⟩ := qmY9 (g := []) h4
  rcases x4 with x5 | x6
  simp only [qfH9, qdt9] at h4X h4L
  obtain ⟨e4, st4⟩ := q4
  obtain ⟨rfl, h4R⟩ := h4X
  try simp only [go_sem, Nat.reduceAdd, la1, la2, la3, la4, la5, la6] at h4L
  obtain rfl := oiA hr
  refine qh9 is77 (nbA rfl) ?_ (.inr rfl) h4R
  rotate_left
  simp only [qfH9, qdt9] at h4X h4L
  obtain ⟨z7, rfl⟩ := h4X
  try simp only [go_sem, Nat.reduceAdd, la1, la2, la3, la4, la5, la6] at h4L
  obtain rfl := oiA hr
  refine qh9 is77 (nbA rfl) (q := (.ret, ⟨[(0, .d (.ag (qf9 a0))), (1, .ptr 0 0 0 0), (2, PI 0), (3, PI 0), (4, PI x1), (19, .d (.rd (a0.Rules.map qd9))), (20, PI (a0.Rules.length : Int)), (21, PI x6)], (.row false 0 2 [[.d (.rd (a0.Sig.map qa9)), .d (.rd (a0.Rules.map qd9))]] :: z7)⟩)) ?_ (.inr rfl) ⟨[PI 0, PI 0], rfl, ?_⟩
  rotate_left 2
  simp only [h2, if_false] at hr
  obtain rfl := oiA hr
  refine qh9 is77 (nbA rfl) (q := (.ret, ⟨[(0, .d (.ag (qf9 a0))), (1, .ptr 0 0 0 0), (2, PI x1), (3, PI (-1)), (4, PI x1)], (.row false 0 2 [[.d (.rd (a0.Sig.map qa9)), .d (.rd (a0.Rules.map qd9))]] :: [])⟩)) ?_ (.inr rfl) ⟨[PI x1, PI (-1)], rfl, ?_⟩
  rotate_left 2
  all_goals (simp +decide only [go_sem, Int.reduceToNat, Nat.reduceAdd, Nat.reduceLT, Nat.reduceMul, Nat.reducePow, reduceCtorEq, qg9, c77, *])
theorem qok9 {a0 : System} {r : Int × Int} (hr : qfp9 a0 = some r) {h : AHeap} {args : List PV} (ha : mapO (rs h depth) args = some [.ag (qf9 a0)]) : callP C (Lim C) 77 args h = some (.tp [PI r.1, PI r.2], if scalar (.tp [PI r.1, PI r.2]) = true then h else freezeAll (args.flatMap (reach h depth)) h) := qdD9 rfl rfl rfl (qol9 hr) ha
def qpP9 : ACode := .reg [] [] [.K 4 (.mv (cI 0))]
def qqZ9 : ACode := .reg [] [] [.M 8 0, .M 9 1, .T 10 (.call 91 [.tmp 8, .tmp 9]), .M 7 10, .T 11 (.ext (.tmp 7) 0), .T 12 (.ext (.tmp 7) 1), .M 5 11, .N 6 12]
def qqv9 : ACode := .reg [] [] [.M 13 6, .N 4 13]
def c62 : ACode := .seq (qpP9) (.seq (qqZ9) (.seq (qqv9) (.ret)))
theorem is62 : IsF C 62 14 83 c62 [.tmp 4] := ⟨⟨Tryd.f62, _, C_P ▸ Tryd.func62, rfl, rfl, rfl, by kernel_rfl, rfl⟩⟩
theorem qpR9 {sig : List Symbol} {t : List Int} {r : Int} (hr : qcg9 sig t = some r) : ∃ p hp, Lim C 62 (TArgs sig t) [] = some (p, hp) ∧ rsT hp p = some (PI r) := by
  simp only [qcg9] at hr
  obtain ⟨e, he, hr⟩ := bsome hr
  by_cases h0 : e = 0
  · subst h0
    simp only [if_true] at hr
    obtain ⟨hL, hr⟩ := gsome hr
    replace hr := oiA hr
    subst hr
    obtain ⟨x, h', q1, _⟩ := qxp9 (of_eq_true hL) (fun s hs => by have := qeY9 he s hs; omega) he []
    have hcall : callP C (Lim C) 91 (TArgs sig t) [] = some (.tp [x, PI (qB9 sig t)], h') := q1
    refine ⟨_, _, Lim_A is62 (h' := h') (nbA rfl) (env := [(0, .d (.rd (sig.map qa9))), (1, .d (.rd (t.map intD))), (4, PI (qB9 sig t)), (6, PI (qB9 sig t))]) (e := .ret) ?_ (.inr rfl) (vs := [PI (qB9 sig t)]) rfl, rfl⟩
    simp +decide only [c62, qpP9, qqZ9, qqv9, qg9, go_sem, Int.reduceToNat, Nat.reduceAdd, Nat.reduceLT, Nat.reduceMul, Nat.reducePow, reduceCtorEq, opNil, hcall]
  · rw [if_neg h0] at hr
    replace hr := oiA hr
    subst hr
    have hcall : callP C (Lim C) 91 (TArgs sig t) [] = some (.tp [.d (.v .nilIface), PI e], []) := qxc9 he h0 []
    refine ⟨_, _, Lim_A is62 (h' := []) (nbA rfl) (env := [(0, .d (.rd (sig.map qa9))), (1, .d (.rd (t.map intD))), (4, PI e), (6, PI e)]) (e := .ret) ?_ (.inr rfl) (vs := [PI e]) rfl, rfl⟩
    simp +decide only [c62, qpP9, qqZ9, qqv9, qg9, go_sem, Int.reduceToNat, Nat.reduceAdd, Nat.reduceLT, Nat.reduceMul, Nat.reducePow, reduceCtorEq, opNil, hcall]
theorem qfi9 {a0 : List Symbol} {a1 : List Int} {r : Int} (hr : qcg9 a0 a1 = some r) {h : AHeap} : callP C (Lim C) 62 (TArgs a0 a1) h = some (PI r, h) := qbk9 (ds := [.rd (a0.map qa9), .rd (a1.map intD)]) rfl rfl rfl (qpR9 hr) h

def c42 : ACode := .seq (.reg [] [] [.K 2 (.box (.tmp 0)), .K 4 (.mv (cI 0))]) (.seq (.seq (.reg [] [] [.T 8 (.load (some 2) (.tmp 2)), .T 9 (.call 77 [.tmp 8]), .M 7 9, .T 10 (.ext (.tmp 7) 0), .T 11 (.ext (.tmp 7) 1), .N 5 10, .M 6 11]) (.seq (.reg [] [] [.M 12 5, .K 13 (.bin .neq (.tmp 12) (cI 0))]) (.cond (.tmp 13) (some 13) (.seq (.reg [] [] [.M 14 5, .N 4 14]) (.ret)) (.skip)))) (.seq (.reg [] [] [.T 15 (.fa 0 (.tmp 2)), .T 16 (.load none (.tmp 15)), .M 17 1, .T 18 (.call 62 [.tmp 16, .tmp 17]), .N 4 18]) (.ret)))
theorem is42 : IsF C 42 19 8247 c42 [.tmp 4] := ⟨⟨Tryd.f42, _, C_P ▸ Tryd.func42, rfl, rfl, rfl, by kernel_rfl, rfl⟩⟩
theorem qpH9 {a0 : System} {a1 : List Int} {r : Int} (hr : qeQ9 a0 a1 = some r) : ∃ p hp, Lim C 42 [.d (.ag (qf9 a0)), .d (.rd (a1.map intD))] [] = some (p, hp) ∧ rsT hp p = some (PI r) := by
  simp only [qeQ9] at hr
  obtain ⟨x1, h1, hr⟩ := bsome hr
  have h1k := fun h => qok9 (h := h) (args := [.ag [.d (.rd (a0.Sig.map qa9)), .d (.rd (a0.Rules.map qd9))]]) h1 rfl
  try simp only [go_sem] at h1k
  rcases pcA (x1.1 = 0) with h2 | h2
  simp only [h2, if_true] at hr
  obtain ⟨x2, h3, hr⟩ := bsome hr
  have h3k := fun h => qfi9 (h := h) h3
  try simp only [go_sem] at h3k
  obtain rfl := oiA hr
  refine qh9 is42 (nbA rfl) (q := (.ret, ⟨[(0, .d (.ag (qf9 a0))), (1, .d (.rd (a1.map intD))), (2, .ptr 0 0 0 0), (4, PI x2), (5, PI x1.1)], (.row false 0 2 [[.d (.rd (a0.Sig.map qa9)), .d (.rd (a0.Rules.map qd9))]] :: [])⟩)) ?_ (.inr rfl) ⟨[PI x2], rfl, ?_⟩
  rotate_left 2
  simp only [h2, if_false] at hr
  obtain rfl := oiA hr
  refine qh9 is42 (nbA rfl) (q := (.ret, ⟨[(0, .d (.ag (qf9 a0))), (1, .d (.rd (a1.map intD))), (2, .ptr 0 0 0 0), (4, PI x1.1), (5, PI x1.1)], (.row false 0 2 [[.d (.rd (a0.Sig.map qa9)), .d (.rd (a0.Rules.map qd9))]] :: [])⟩)) ?_ (.inr rfl) ⟨[PI x1.1], rfl, ?_⟩
  rotate_left 2
  all_goals (simp +decide only [go_sem, Int.reduceToNat, Nat.reduceAdd, Nat.reduceLT, Nat.reduceMul, Nat.reducePow, reduceCtorEq, qg9, c42, *])
theorem qje9 {a0 : System} {a1 : List Int} {r : Int} (hr : qeQ9 a0 a1 = some r) {h : AHeap} {args : List PV} (ha : mapO (rs h depth) args = some [.ag (qf9 a0), .rd (a1.map intD)]) : callP C (Lim C) 42 args h = some (PI r, if scalar (PI r) = true then h else freezeAll (args.flatMap (reach h depth)) h) := qdD9 rfl rfl rfl (qpH9 hr) ha
def b78_0 : ACode := .seq (.reg [] [] [.K 24 (.bin .lss (.tmp 23) (.tmp 22))]) (.seq (.cond (.tmp 24) (some 24) (.skip) (.exit 0)) (.seq (.block 1 16777216 (.reg [] [] [.T 25 (.load none (.tmp 3)), .M 26 7, .T 27 (.callV (.tmp 25) [.tmp 26]), .N 7 27])) (.reg [] [] [.T 28 (.bin .add (.tmp 23) (cI 1)), .N 23 28])))
def c78 : ACode := .seq (.reg [] [] [.K 6 (.mv (cI 0))]) (.seq (.reg [] [] [.M 8 0, .T 9 (.bin .add (.tmp 8) (cI 1)), .N 7 9]) (.seq (.seq (.reg [] [] [.T 10 (.load none (.tmp 1)), .M 11 0, .T 12 (.ix 1 (.tmp 10) (.tmp 11)), .T 13 (.load none (.tmp 12)), .K 14 (.bin .geq (.tmp 13) (cI 0))]) (.cond (.tmp 14) (some 14) (.seq (.reg [] [] [⟨some (15, false), .load none (.tmp 2), none, true, false⟩, ⟨some (16, false), .load none (.tmp 1), none, true, false⟩, .M 17 0, ⟨some (18, false), .ix 1 (.tmp 16) (.tmp 17), none, true, false⟩, ⟨some (19, false), .load none (.tmp 18), none, true, false⟩, ⟨some (20, false), .ix 2 (.tmp 15) (.tmp 19), none, true, false⟩, .T 21 (.fa 1 (.tmp 20)), ⟨some (22, true), .load none (.tmp 21), none, true, false⟩, .K 23 (.mv (cI 0))]) (.block 0 16777216 (.loop b78_0))) (.skip))) (.seq (.reg [] [] [.T 29 (.load none (.tmp 4)), .M 30 0, .M 31 7, .T 32 (.ix 1 (.tmp 29) (.tmp 30)), ⟨none, .store 1 (.tmp 32) (.tmp 31), none, false, false⟩]) (.seq (.reg [] [] [.M 33 7, .N 6 33]) (.ret)))))
theorem is78 : IsF C 78 34 29376735 c78 [.tmp 6] := ⟨⟨Tryd.f78, _, C_P ▸ Tryd.func78, rfl, rfl, rfl, by kernel_rfl, rfl⟩⟩
def qdU9 (s0 : Int) (s22 : Int) (g1 : AHeap) (g2 : AHeap) (g3 : AHeap) (v3_0_3_0 : Nat) (n3_0_3_0 : Nat) (g4 : AHeap) (g5 : AHeap) (g6 : AHeap) : Int × Int × (List Symbol) × (List Int) × (List Int) → AHeap → St := fun (s7, s23, b2_0, b1_0, o3_0_3_0) gt => ⟨[(0, PI s0), (1, .ptr (g1.length + g2.length + 1) 0 0 0), (2, .ptr g1.length 0 0 0), (3, .ptr (g1.length + g2.length + g3.length + g4.length + g5.length + 4) 0 0 0), (4, .ptr (g1.length + g2.length + g3.length + g4.length + 3) 0 0 0), (6, PI 0), (7, PI s7), (22, PI s22), (23, PI s23)], (g1 ++ (.row false 0 1 [[.d (.rd (b2_0.map qa9))]] :: (g2 ++ (.row false 0 1 [[.d (.rd (b1_0.map intD))]] :: (g3 ++ (.row false v3_0_3_0 1 (rowP intD o3_0_3_0) :: (g4 ++ (.row false 0 1 [[.ref (g1.length + g2.length + g3.length + 2) v3_0_3_0 0 n3_0_3_0]] :: (g5 ++ (.row false 0 1 [[.fn 78 [.ptr (g1.length + g2.length + 1) 0 0 0, .ptr g1.length 0 0 0, .ptr (g1.length + g2.length + g3.length + g4.length + g5.length + 4) 0 0 0, .ptr (g1.length + g2.length + g3.length + g4.length + 3) 0 0 0]]] :: (g6 ++ gt)))))))))))⟩
def qfJ9 (s0 : Int) (s22 : Int) (g1 : AHeap) (g2 : AHeap) (g3 : AHeap) (v3_0_3_0 : Nat) (n3_0_3_0 : Nat) (g4 : AHeap) (g5 : AHeap) (g6 : AHeap) : Int × Int × (List Symbol) × (List Int) × (List Int) → Prop := fun (s7, s23, b2_0, b1_0, o3_0_3_0) => o3_0_3_0.length = n3_0_3_0
def qho9 (s0 : Int) (s22 : Int) (g1 : AHeap) (g2 : AHeap) (g3 : AHeap) (v3_0_3_0 : Nat) (n3_0_3_0 : Nat) (g4 : AHeap) (g5 : AHeap) (g6 : AHeap) : (Int × Int × (List Symbol) × (List Int) × (List Int)) → AExit × St → Prop := fun (s7, s23, b2_0, b1_0, o3_0_3_0) q => ∃ h1 : AHeap, q = (.exit 0, ⟨[(0, PI s0), (1, .ptr (g1.length + g2.length + 1) 0 0 0), (2, .ptr g1.length 0 0 0), (3, .ptr (g1.length + g2.length + g3.length + g4.length + g5.length + 4) 0 0 0), (4, .ptr (g1.length + g2.length + g3.length + g4.length + 3) 0 0 0), (6, PI 0), (7, PI s7), (22, PI s22), (23, PI s23)], (g1 ++ (.row false 0 1 [[.d (.rd (b2_0.map qa9))]] :: (g2 ++ (.row false 0 1 [[.d (.rd (b1_0.map intD))]] :: (g3 ++ (.row false v3_0_3_0 1 (rowP intD o3_0_3_0) :: (g4 ++ (.row false 0 1 [[.ref (g1.length + g2.length + g3.length + 2) v3_0_3_0 0 n3_0_3_0]] :: (g5 ++ (.row false 0 1 [[.fn 78 [.ptr (g1.length + g2.length + 1) 0 0 0, .ptr g1.length 0 0 0, .ptr (g1.length + g2.length + g3.length + g4.length + g5.length + 4) 0 0 0, .ptr (g1.length + g2.length + g3.length + g4.length + 3) 0 0 0]]] :: (g6 ++ h1)))))))))))⟩) ∧ o3_0_3_0.length = n3_0_3_0
theorem qmZ9 {rec : Int × (List Symbol) × (List Int) × (List Int) → Option (Int × (List Symbol) × (List Int) × (List Int))} (hrec : ∀ {s0 : Int} {b2_0 : List Symbol} {b1_0 : List Int} {o3_0_3_0 : List Int} {g1 : AHeap} {g2 : AHeap} {g3 : AHeap} {v3_0_3_0 : Nat} {n3_0_3_0 : Nat} {g4 : AHeap} {g5 : AHeap} {g6 : AHeap} (hln3_0_3_0 : o3_0_3_0.length = n3_0_3_0) {r : Int × (List Symbol) × (List Int) × (List Int)} (_ : rec (s0, b2_0, b1_0, o3_0_3_0) = some r), ∃ hz : AHeap, callP C (Lim C) 78 [PI s0, .ptr (g1.length + g2.length + 1) 0 0 0, .ptr g1.length 0 0 0, .ptr (g1.length + g2.length + g3.length + g4.length + g5.length + 4) 0 0 0, .ptr (g1.length + g2.length + g3.length + g4.length + 3) 0 0 0] (g1 ++ (.row false 0 1 [[.d (.rd (b2_0.map qa9))]] :: (g2 ++ (.row false 0 1 [[.d (.rd (b1_0.map intD))]] :: (g3 ++ (.row false v3_0_3_0 1 (rowP intD o3_0_3_0) :: (g4 ++ (.row false 0 1 [[.ref (g1.length + g2.length + g3.length + 2) v3_0_3_0 0 n3_0_3_0]] :: (g5 ++ (.row false 0 1 [[.fn 78 [.ptr (g1.length + g2.length + 1) 0 0 0, .ptr g1.length 0 0 0, .ptr (g1.length + g2.length + g3.length + g4.length + g5.length + 4) 0 0 0, .ptr (g1.length + g2.length + g3.length + g4.length + 3) 0 0 0]]] :: g6)))))))))) = some (resOf [PI r.1], (g1 ++ (.row false 0 1 [[.d (.rd (r.2.1.map qa9))]] :: (g2 ++ (.row false 0 1 [[.d (.rd (r.2.2.1.map intD))]] :: (g3 ++ (.row false v3_0_3_0 1 (rowP intD r.2.2.2) :: (g4 ++ (.row false 0 1 [[.ref (g1.length + g2.length + g3.length + 2) v3_0_3_0 0 n3_0_3_0]] :: (g5 ++ (.row false 0 1 [[.fn 78 [.ptr (g1.length + g2.length + 1) 0 0 0, .ptr g1.length 0 0 0, .ptr (g1.length + g2.length + g3.length + g4.length + g5.length + 4) 0 0 0, .ptr (g1.length + g2.length + g3.length + g4.length + 3) 0 0 0]]] :: (g6 ++ hz)))))))))))) ∧ r.2.2.2.length = n3_0_3_0) (s0 : Int) (s22 : Int) (g1 : AHeap) (g2 : AHeap) (g3 : AHeap) (v3_0_3_0 : Nat) (n3_0_3_0 : Nat) (g4 : AHeap) (g5 : AHeap) (g6 : AHeap) : ∀ (s : Int × Int × (List Symbol) × (List Int) × (List Int)) (g : AHeap) r, qfJ9 s0 s22 g1 g2 g3 v3_0_3_0 n3_0_3_0 g4 g5 g6 s → qcy9 rec s0 s22 s = some r → Sum.elim (fun s' => (∃ g', semA C (Lim C) 29376735 b78_0 (qdU9 s0 s22 g1 g2 g3 v3_0_3_0 n3_0_3_0 g4 g5 g6 s g) = some (.normal, qdU9 s0 s22 g1 g2 g3 v3_0_3_0 n3_0_3_0 g4 g5 g6 s' g')) ∧ qfJ9 s0 s22 g1 g2 g3 v3_0_3_0 n3_0_3_0 g4 g5 g6 s') (fun x => ∃ q, semA C (Lim C) 29376735 b78_0 (qdU9 s0 s22 g1 g2 g3 v3_0_3_0 n3_0_3_0 g4 g5 g6 s g) = some q ∧ q.1 ≠ .normal ∧ qho9 s0 s22 g1 g2 g3 v3_0_3_0 n3_0_3_0 g4 g5 g6 x q) r := by
  intro s g r hI hr
  obtain ⟨s7, s23, b2_0, b1_0, o3_0_3_0⟩ := s
  have ⟨gt, hg0⟩ : ∃ y, y = g := ⟨_, rfl⟩
  subst hg0
  simp only [qfJ9] at hI
  have hI0 := hI
  simp only [qcy9] at hr
  rcases pcA (s23 < s22) with h1 | h1
  simp only [h1, if_true] at hr
  obtain ⟨x3, h2, hr⟩ := bsome hr
  obtain ⟨z4, h2k, h2l0⟩ := hrec (g1 := g1) (g2 := g2) (g3 := g3) (v3_0_3_0 := v3_0_3_0) (n3_0_3_0 := n3_0_3_0) (g4 := g4) (g5 := g5) (g6 := (g6 ++ gt)) (show o3_0_3_0.length = n3_0_3_0 by first | assumption | (simp only [llA, lrA]; first | done | assumption | omega) | omega) h2
  try simp only [go_sem, Nat.reduceAdd, la1, la2, la3, la4, la5, la6] at h2k
  obtain rfl := oiA hr
  refine ⟨⟨(gt ++ z4), ?_⟩, (show x3.2.2.2.length = n3_0_3_0 by first | assumption | (simp only [llA, lrA]; first | done | assumption | omega) | omega)⟩
  rotate_left
  simp only [h1, if_false] at hr
  obtain rfl := oiA hr
  refine ⟨(.exit 0, ⟨[(0, PI s0), (1, .ptr (g1.length + g2.length + 1) 0 0 0), (2, .ptr g1.length 0 0 0), (3, .ptr (g1.length + g2.length + g3.length + g4.length + g5.length + 4) 0 0 0), (4, .ptr (g1.length + g2.length + g3.length + g4.length + 3) 0 0 0), (6, PI 0), (7, PI s7), (22, PI s22), (23, PI s23)], (g1 ++ (.row false 0 1 [[.d (.rd (b2_0.map qa9))]] :: (g2 ++ (.row false 0 1 [[.d (.rd (b1_0.map intD))]] :: (g3 ++ (.row false v3_0_3_0 1 (rowP intD o3_0_3_0) :: (g4 ++ (.row false 0 1 [[.ref (g1.length + g2.length + g3.length + 2) v3_0_3_0 0 n3_0_3_0]] :: (g5 ++ (.row false 0 1 [[.fn 78 [.ptr (g1.length + g2.length + 1) 0 0 0, .ptr g1.length 0 0 0, .ptr (g1.length + g2.length + g3.length + g4.length + g5.length + 4) 0 0 0, .ptr (g1.length + g2.length + g3.length + g4.length + 3) 0 0 0]]] :: (g6 ++ gt)))))))))))⟩), ?_, nofun, gt, rfl, (show o3_0_3_0.length = n3_0_3_0 by first | assumption | (simp only [llA, lrA]; first | done | assumption | omega) | omega)⟩
  rotate_left
  all_goals (simp +decide only [go_sem, Int.reduceToNat, Nat.reduceAdd, Nat.reduceLT, Nat.reduceMul, Nat.reducePow, reduceCtorEq, qdU9, b78_0, *])
theorem qnt9 {rec : Int × (List Symbol) × (List Int) × (List Int) → Option (Int × (List Symbol) × (List Int) × (List Int))} (hrec : ∀ {s0 : Int} {b2_0 : List Symbol} {b1_0 : List Int} {o3_0_3_0 : List Int} {g1 : AHeap} {g2 : AHeap} {g3 : AHeap} {v3_0_3_0 : Nat} {n3_0_3_0 : Nat} {g4 : AHeap} {g5 : AHeap} {g6 : AHeap} (hln3_0_3_0 : o3_0_3_0.length = n3_0_3_0) {r : Int × (List Symbol) × (List Int) × (List Int)} (_ : rec (s0, b2_0, b1_0, o3_0_3_0) = some r), ∃ hz : AHeap, callP C (Lim C) 78 [PI s0, .ptr (g1.length + g2.length + 1) 0 0 0, .ptr g1.length 0 0 0, .ptr (g1.length + g2.length + g3.length + g4.length + g5.length + 4) 0 0 0, .ptr (g1.length + g2.length + g3.length + g4.length + 3) 0 0 0] (g1 ++ (.row false 0 1 [[.d (.rd (b2_0.map qa9))]] :: (g2 ++ (.row false 0 1 [[.d (.rd (b1_0.map intD))]] :: (g3 ++ (.row false v3_0_3_0 1 (rowP intD o3_0_3_0) :: (g4 ++ (.row false 0 1 [[.ref (g1.length + g2.length + g3.length + 2) v3_0_3_0 0 n3_0_3_0]] :: (g5 ++ (.row false 0 1 [[.fn 78 [.ptr (g1.length + g2.length + 1) 0 0 0, .ptr g1.length 0 0 0, .ptr (g1.length + g2.length + g3.length + g4.length + g5.length + 4) 0 0 0, .ptr (g1.length + g2.length + g3.length + g4.length + 3) 0 0 0]]] :: g6)))))))))) = some (resOf [PI r.1], (g1 ++ (.row false 0 1 [[.d (.rd (r.2.1.map qa9))]] :: (g2 ++ (.row false 0 1 [[.d (.rd (r.2.2.1.map intD))]] :: (g3 ++ (.row false v3_0_3_0 1 (rowP intD r.2.2.2) :: (g4 ++ (.row false 0 1 [[.ref (g1.length + g2.length + g3.length + 2) v3_0_3_0 0 n3_0_3_0]] :: (g5 ++ (.row false 0 1 [[.fn 78 [.ptr (g1.length + g2.length + 1) 0 0 0, .ptr g1.length 0 0 0, .ptr (g1.length + g2.length + g3.length + g4.length + g5.length + 4) 0 0 0, .ptr (g1.length + g2.length + g3.length + g4.length + 3) 0 0 0]]] :: (g6 ++ hz)))))))))))) ∧ r.2.2.2.length = n3_0_3_0) {s0 : Int} {s22 : Int} {g1 : AHeap} {g2 : AHeap} {g3 : AHeap} {v3_0_3_0 : Nat} {n3_0_3_0 : Nat} {g4 : AHeap} {g5 : AHeap} {g6 : AHeap} {s : Int × Int × (List Symbol) × (List Int) × (List Int)} {g : AHeap} {x} (h : wh (qcy9 rec s0 s22) s = some x) (hI : qfJ9 s0 s22 g1 g2 g3 v3_0_3_0 n3_0_3_0 g4 g5 g6 s) : ∃ q, qp9 (semA C (Lim C) 29376735 b78_0) (qdU9 s0 s22 g1 g2 g3 v3_0_3_0 n3_0_3_0 g4 g5 g6 s g) = some q ∧ qho9 s0 s22 g1 g2 g3 v3_0_3_0 n3_0_3_0 g4 g5 g6 x q := qcp9 (qmZ9 hrec s0 s22 g1 g2 g3 v3_0_3_0 n3_0_3_0 g4 g5 g6) hI h
theorem qno9 {rec : Int × (List Symbol) × (List Int) × (List Int) → Option (Int × (List Symbol) × (List Int) × (List Int))} (hrec : ∀ {s0 : Int} {b2_0 : List Symbol} {b1_0 : List Int} {o3_0_3_0 : List Int} {g1 : AHeap} {g2 : AHeap} {g3 : AHeap} {v3_0_3_0 : Nat} {n3_0_3_0 : Nat} {g4 : AHeap} {g5 : AHeap} {g6 : AHeap} (hln3_0_3_0 : o3_0_3_0.length = n3_0_3_0) {r : Int × (List Symbol) × (List Int) × (List Int)} (_ : rec (s0, b2_0, b1_0, o3_0_3_0) = some r), ∃ hz : AHeap, callP C (Lim C) 78 [PI s0, .ptr (g1.length + g2.length + 1) 0 0 0, .ptr g1.length 0 0 0, .ptr (g1.length + g2.length + g3.length + g4.length + g5.length + 4) 0 0 0, .ptr (g1.length + g2.length + g3.length + g4.length + 3) 0 0 0] (g1 ++ (.row false 0 1 [[.d (.rd (b2_0.map qa9))]] :: (g2 ++ (.row false 0 1 [[.d (.rd (b1_0.map intD))]] :: (g3 ++ (.row false v3_0_3_0 1 (rowP intD o3_0_3_0) :: (g4 ++ (.row false 0 1 [[.ref (g1.length + g2.length + g3.length + 2) v3_0_3_0 0 n3_0_3_0]] :: (g5 ++ (.row false 0 1 [[.fn 78 [.ptr (g1.length + g2.length + 1) 0 0 0, .ptr g1.length 0 0 0, .ptr (g1.length + g2.length + g3.length + g4.length + g5.length + 4) 0 0 0, .ptr (g1.length + g2.length + g3.length + g4.length + 3) 0 0 0]]] :: g6)))))))))) = some (resOf [PI r.1], (g1 ++ (.row false 0 1 [[.d (.rd (r.2.1.map qa9))]] :: (g2 ++ (.row false 0 1 [[.d (.rd (r.2.2.1.map intD))]] :: (g3 ++ (.row false v3_0_3_0 1 (rowP intD r.2.2.2) :: (g4 ++ (.row false 0 1 [[.ref (g1.length + g2.length + g3.length + 2) v3_0_3_0 0 n3_0_3_0]] :: (g5 ++ (.row false 0 1 [[.fn 78 [.ptr (g1.length + g2.length + 1) 0 0 0, .ptr g1.length 0 0 0, .ptr (g1.length + g2.length + g3.length + g4.length + g5.length + 4) 0 0 0, .ptr (g1.length + g2.length + g3.length + g4.length + 3) 0 0 0]]] :: (g6 ++ hz)))))))))))) ∧ r.2.2.2.length = n3_0_3_0) {s0 : Int} {b2_0 : List Symbol} {b1_0 : List Int} {o3_0_3_0 : List Int} {g1 : AHeap} {g2 : AHeap} {g3 : AHeap} {v3_0_3_0 : Nat} {n3_0_3_0 : Nat} {g4 : AHeap} {g5 : AHeap} {g6 : AHeap} (hln3_0_3_0 : o3_0_3_0.length = n3_0_3_0) {r : Int × (List Symbol) × (List Int) × (List Int)} (hr : qcu9 rec s0 b2_0 b1_0 o3_0_3_0 = some r) : ∃ hz : AHeap, Lim C 78 [PI s0, .ptr (g1.length + g2.length + 1) 0 0 0, .ptr g1.length 0 0 0, .ptr (g1.length + g2.length + g3.length + g4.length + g5.length + 4) 0 0 0, .ptr (g1.length + g2.length + g3.length + g4.length + 3) 0 0 0] (g1 ++ (.row false 0 1 [[.d (.rd (b2_0.map qa9))]] :: (g2 ++ (.row false 0 1 [[.d (.rd (b1_0.map intD))]] :: (g3 ++ (.row false v3_0_3_0 1 (rowP intD o3_0_3_0) :: (g4 ++ (.row false 0 1 [[.ref (g1.length + g2.length + g3.length + 2) v3_0_3_0 0 n3_0_3_0]] :: (g5 ++ (.row false 0 1 [[.fn 78 [.ptr (g1.length + g2.length + 1) 0 0 0, .ptr g1.length 0 0 0, .ptr (g1.length + g2.length + g3.length + g4.length + g5.length + 4) 0 0 0, .ptr (g1.length + g2.length + g3.length + g4.length + 3) 0 0 0]]] :: g6)))))))))) = some (resOf [PI r.1], (g1 ++ (.row false 0 1 [[.d (.rd (r.2.1.map qa9))]] :: (g2 ++ (.row false 0 1 [[.d (.rd (r.2.2.1.map intD))]] :: (g3 ++ (.row false v3_0_3_0 1 (rowP intD r.2.2.2) :: (g4 ++ (.row false 0 1 [[.ref (g1.length + g2.length + g3.length + 2) v3_0_3_0 0 n3_0_3_0]] :: (g5 ++ (.row false 0 1 [[.fn 78 [.ptr (g1.length + g2.length + 1) 0 0 0, .ptr g1.length 0 0 0, .ptr (g1.length + g2.length + g3.length + g4.length + g5.length + 4) 0 0 0, .ptr (g1.length + g2.length + g3.length + g4.length + 3) 0 0 0]]] :: (g6 ++ hz)))))))))))) ∧ r.2.2.2.length = n3_0_3_0 := by
  simp only [qcu9] at hr
  obtain ⟨x1, h1, hr⟩ := bsome hr
  rcases pcA (0 ≤ x1) with h2 | h2
  simp only [h2, if_true] at hr
  obtain ⟨x2, h3, hr⟩ := bsome hr
  obtain ⟨x5, h4, hr⟩ := bsome hr
  obtain ⟨q4, h4L, h4X⟩ := qnt9 hrec (g1 := g1) (g2 := g2) (g3 := g3) (v3_0_3_0 := v3_0_3_0) (n3_0_3_0 := n3_0_3_0) (g4 := g4) (g5 := g5) (g6 := g6) (g := []) h4 (show o3_0_3_0.length = n3_0_3_0 by first | assumption | (simp only [llA, lrA]; first | done | assumption | omega) | omega)
  obtain ⟨x6, x7, x8, x9, x10⟩ := x5
  simp only [qho9, qdU9] at h4X h4L
  obtain ⟨z11, rfl, h4l0⟩ := h4X
  try simp only [go_sem, Nat.reduceAdd, la1, la2, la3, la4, la5, la6] at h4L
  try simp only [hln3_0_3_0] at h4L
  obtain ⟨x12, h5, hr⟩ := bsome hr
  have h5a := eq_true (qc9 h5).1
  have h5b : (s0 < (n3_0_3_0 : Int)) = True := eq_true (by have hb : s0 < (x10.length : Int) := (qc9 h5).2.1; omega)
  have h5c := (qc9 h5).2.2
  obtain rfl := oiA hr
  refine ⟨z11, Lim_A is78 (nbA rfl) (e := .ret) (env := [(0, PI s0), (1, .ptr (g1.length + g2.length + 1) 0 0 0), (2, .ptr g1.length 0 0 0), (3, .ptr (g1.length + g2.length + g3.length + g4.length + g5.length + 4) 0 0 0), (4, .ptr (g1.length + g2.length + g3.length + g4.length + 3) 0 0 0), (6, PI x6), (7, PI x6), (22, PI x2.Arity), (23, PI x7)]) (h' := (g1 ++ (.row false 0 1 [[.d (.rd (x8.map qa9))]] :: (g2 ++ (.row false 0 1 [[.d (.rd (x9.map intD))]] :: (g3 ++ (.row false v3_0_3_0 1 (rowP intD (x10.set (s0).toNat x6)) :: (g4 ++ (.row false 0 1 [[.ref (g1.length + g2.length + g3.length + 2) v3_0_3_0 0 n3_0_3_0]] :: (g5 ++ (.row false 0 1 [[.fn 78 [.ptr (g1.length + g2.length + 1) 0 0 0, .ptr g1.length 0 0 0, .ptr (g1.length + g2.length + g3.length + g4.length + g5.length + 4) 0 0 0, .ptr (g1.length + g2.length + g3.length + g4.length + 3) 0 0 0]]] :: (g6 ++ z11)))))))))))) (vs := [PI x6]) ?_ (.inr rfl) rfl, (show (x10.set (s0).toNat x6).length = n3_0_3_0 by first | assumption | (simp only [llA, lrA]; first | done | assumption | omega) | omega)⟩
  rotate_left
  simp only [h2, if_false] at hr
  obtain ⟨x13, h6, hr⟩ := bsome hr
  have h6a := eq_true (qc9 h6).1
  have h6b : (s0 < (n3_0_3_0 : Int)) = True := eq_true (by have hb : s0 < (o3_0_3_0.length : Int) := (qc9 h6).2.1; omega)
  have h6c := (qc9 h6).2.2
  obtain rfl := oiA hr
  refine ⟨[], Lim_A is78 (nbA rfl) (e := .ret) (env := [(0, PI s0), (1, .ptr (g1.length + g2.length + 1) 0 0 0), (2, .ptr g1.length 0 0 0), (3, .ptr (g1.length + g2.length + g3.length + g4.length + g5.length + 4) 0 0 0), (4, .ptr (g1.length + g2.length + g3.length + g4.length + 3) 0 0 0), (6, PI (w64 (s0 + 1))), (7, PI (w64 (s0 + 1)))]) (h' := (g1 ++ (.row false 0 1 [[.d (.rd (b2_0.map qa9))]] :: (g2 ++ (.row false 0 1 [[.d (.rd (b1_0.map intD))]] :: (g3 ++ (.row false v3_0_3_0 1 (rowP intD (o3_0_3_0.set (s0).toNat (w64 (s0 + 1)))) :: (g4 ++ (.row false 0 1 [[.ref (g1.length + g2.length + g3.length + 2) v3_0_3_0 0 n3_0_3_0]] :: (g5 ++ (.row false 0 1 [[.fn 78 [.ptr (g1.length + g2.length + 1) 0 0 0, .ptr g1.length 0 0 0, .ptr (g1.length + g2.length + g3.length + g4.length + g5.length + 4) 0 0 0, .ptr (g1.length + g2.length + g3.length + g4.length + 3) 0 0 0]]] :: (g6 ++ ([] : AHeap))))))))))))) (vs := [PI (w64 (s0 + 1))]) ?_ (.inr rfl) rfl, (show (o3_0_3_0.set (s0).toNat (w64 (s0 + 1))).length = n3_0_3_0 by first | assumption | (simp only [llA, lrA]; first | done | assumption | omega) | omega)⟩
  rotate_left
  all_goals (simp +decide only [go_sem, Int.reduceToNat, Nat.reduceAdd, Nat.reduceLT, Nat.reduceMul, Nat.reducePow, reduceCtorEq, qg9, c78, *])
theorem qom9 {s0 : Int} {b2_0 : List Symbol} {b1_0 : List Int} {o3_0_3_0 : List Int} {g1 : AHeap} {g2 : AHeap} {g3 : AHeap} {v3_0_3_0 : Nat} {n3_0_3_0 : Nat} {g4 : AHeap} {g5 : AHeap} {g6 : AHeap} (hln3_0_3_0 : o3_0_3_0.length = n3_0_3_0) {r : Int × (List Symbol) × (List Int) × (List Int)} (hr : qhh9 s0 b2_0 b1_0 o3_0_3_0 = some r) : ∃ hz : AHeap, Lim C 78 [PI s0, .ptr (g1.length + g2.length + 1) 0 0 0, .ptr g1.length 0 0 0, .ptr (g1.length + g2.length + g3.length + g4.length + g5.length + 4) 0 0 0, .ptr (g1.length + g2.length + g3.length + g4.length + 3) 0 0 0] (g1 ++ (.row false 0 1 [[.d (.rd (b2_0.map qa9))]] :: (g2 ++ (.row false 0 1 [[.d (.rd (b1_0.map intD))]] :: (g3 ++ (.row false v3_0_3_0 1 (rowP intD o3_0_3_0) :: (g4 ++ (.row false 0 1 [[.ref (g1.length + g2.length + g3.length + 2) v3_0_3_0 0 n3_0_3_0]] :: (g5 ++ (.row false 0 1 [[.fn 78 [.ptr (g1.length + g2.length + 1) 0 0 0, .ptr g1.length 0 0 0, .ptr (g1.length + g2.length + g3.length + g4.length + g5.length + 4) 0 0 0, .ptr (g1.length + g2.length + g3.length + g4.length + 3) 0 0 0]]] :: g6)))))))))) = some (resOf [PI r.1], (g1 ++ (.row false 0 1 [[.d (.rd (r.2.1.map qa9))]] :: (g2 ++ (.row false 0 1 [[.d (.rd (r.2.2.1.map intD))]] :: (g3 ++ (.row false v3_0_3_0 1 (rowP intD r.2.2.2) :: (g4 ++ (.row false 0 1 [[.ref (g1.length + g2.length + g3.length + 2) v3_0_3_0 0 n3_0_3_0]] :: (g5 ++ (.row false 0 1 [[.fn 78 [.ptr (g1.length + g2.length + 1) 0 0 0, .ptr g1.length 0 0 0, .ptr (g1.length + g2.length + g3.length + g4.length + g5.length + 4) 0 0 0, .ptr (g1.length + g2.length + g3.length + g4.length + 3) 0 0 0]]] :: (g6 ++ hz)))))))))))) ∧ r.2.2.2.length = n3_0_3_0 := by
  obtain ⟨n, hn⟩ := qkV9 hr
  clear hr
  induction n generalizing s0 b2_0 b1_0 o3_0_3_0 g1 g2 g3 v3_0_3_0 n3_0_3_0 g4 g5 g6 r with
  | zero => cases hn
  | succ n ih =>
    refine qno9 (rec := fixN _ n) (fun {s0} {b2_0} {b1_0} {o3_0_3_0} {g1} {g2} {g3} {v3_0_3_0} {n3_0_3_0} {g4} {g5} {g6} hln3_0_3_0 {r} hr => ?_) hln3_0_3_0 (g1 := g1) (g2 := g2) (g3 := g3) (v3_0_3_0 := v3_0_3_0) (n3_0_3_0 := n3_0_3_0) (g4 := g4) (g5 := g5) (g6 := g6) hn
    obtain ⟨hz, h1, f0⟩ := ih hln3_0_3_0 (g1 := g1) (g2 := g2) (g3 := g3) (v3_0_3_0 := v3_0_3_0) (n3_0_3_0 := n3_0_3_0) (g4 := g4) (g5 := g5) (g6 := g6) hr
    exact ⟨hz, qZ9 rfl rfl rfl h1, f0⟩
theorem qnV9 {s0 : Int} {b2_0 : List Symbol} {b1_0 : List Int} {o3_0_3_0 : List Int} {g1 : AHeap} {g2 : AHeap} {g3 : AHeap} {v3_0_3_0 : Nat} {n3_0_3_0 : Nat} {g4 : AHeap} {g5 : AHeap} {g6 : AHeap} (hln3_0_3_0 : o3_0_3_0.length = n3_0_3_0) {r : Int × (List Symbol) × (List Int) × (List Int)} (hr : qhh9 s0 b2_0 b1_0 o3_0_3_0 = some r) : ∃ hz : AHeap, callP C (Lim C) 78 [PI s0, .ptr (g1.length + g2.length + 1) 0 0 0, .ptr g1.length 0 0 0, .ptr (g1.length + g2.length + g3.length + g4.length + g5.length + 4) 0 0 0, .ptr (g1.length + g2.length + g3.length + g4.length + 3) 0 0 0] (g1 ++ (.row false 0 1 [[.d (.rd (b2_0.map qa9))]] :: (g2 ++ (.row false 0 1 [[.d (.rd (b1_0.map intD))]] :: (g3 ++ (.row false v3_0_3_0 1 (rowP intD o3_0_3_0) :: (g4 ++ (.row false 0 1 [[.ref (g1.length + g2.length + g3.length + 2) v3_0_3_0 0 n3_0_3_0]] :: (g5 ++ (.row false 0 1 [[.fn 78 [.ptr (g1.length + g2.length + 1) 0 0 0, .ptr g1.length 0 0 0, .ptr (g1.length + g2.length + g3.length + g4.length + g5.length + 4) 0 0 0, .ptr (g1.length + g2.length + g3.length + g4.length + 3) 0 0 0]]] :: g6)))))))))) = some (resOf [PI r.1], (g1 ++ (.row false 0 1 [[.d (.rd (r.2.1.map qa9))]] :: (g2 ++ (.row false 0 1 [[.d (.rd (r.2.2.1.map intD))]] :: (g3 ++ (.row false v3_0_3_0 1 (rowP intD r.2.2.2) :: (g4 ++ (.row false 0 1 [[.ref (g1.length + g2.length + g3.length + 2) v3_0_3_0 0 n3_0_3_0]] :: (g5 ++ (.row false 0 1 [[.fn 78 [.ptr (g1.length + g2.length + 1) 0 0 0, .ptr g1.length 0 0 0, .ptr (g1.length + g2.length + g3.length + g4.length + g5.length + 4) 0 0 0, .ptr (g1.length + g2.length + g3.length + g4.length + 3) 0 0 0]]] :: (g6 ++ hz)))))))))))) ∧ r.2.2.2.length = n3_0_3_0 := by
  obtain ⟨hz, h1, f0⟩ := qom9 hln3_0_3_0 hr (g1 := g1) (g2 := g2) (g3 := g3) (v3_0_3_0 := v3_0_3_0) (n3_0_3_0 := n3_0_3_0) (g4 := g4) (g5 := g5) (g6 := g6)
  exact ⟨hz, qZ9 rfl rfl rfl h1, f0⟩
def c43 : ACode := .seq (.reg [] [(4, 0)] [.K 2 (.box (.tmp 0)), .K 3 (.box (.tmp 1)), .K 4 (.mv (.const (.slice none 0 0)))]) (.seq (.reg [] [] [.T 7 (.load none (.tmp 3)), .T 8 (.len (.tmp 7)), .T 9 (.mkSl [.d (.v (.int .i64 0))] 1 8 (.tmp 8) (.tmp 8)), .K 5 (.alloc [.im true []] 1), ⟨none, .store 1 (.tmp 5) (.tmp 9), none, false, false⟩]) (.seq (.reg [] [] [.K 6 (.alloc [.d (.v .nilFunc)] 1)]) (.seq (.reg [] [] [.T 10 (.mkF 78 [.tmp 3, .tmp 2, .tmp 6, .tmp 5]), ⟨none, .store 1 (.tmp 6) (.tmp 10), none, false, false⟩]) (.seq (.reg [] [] [.T 11 (.load none (.tmp 6)), .T 12 (.callV (.tmp 11) [.const (.int .i64 0)])]) (.seq (.reg [] [(4, 0)] [.T 13 (.load none (.tmp 5)), .N 4 13]) (.ret))))))
theorem is43 : IsF C 43 14 127 c43 [.tmp 4] := ⟨⟨Tryd.f43, _, C_P ▸ Tryd.func43, rfl, rfl, rfl, by kernel_rfl, rfl⟩⟩
theorem qrx9 {a0 : List Symbol} {a1 : List Int} {r : (List Int)} (hr : qfr9 a0 a1 = some r) : ∃ p hp, Lim C 43 [.d (.rd (a0.map qa9)), .d (.rd (a1.map intD))] [] = some (p, hp) ∧ rsT hp p = some (.d (.rd (r.map intD))) := by
  simp only [qfr9] at hr
  obtain ⟨h1, hr⟩ := gsome hr
  obtain ⟨h2, hr⟩ := gsome hr
  obtain ⟨x1, h3, hr⟩ := bsome hr
  obtain ⟨z2, h3k, h3l0⟩ := qnV9 (g1 := []) (g2 := []) (g3 := []) (v3_0_3_0 := 0) (n3_0_3_0 := (List.replicate ((a1.length : Int)).toNat 0).length) (g4 := []) (g5 := []) (g6 := []) rfl h3
  try simp only [go_sem, Nat.reduceAdd, la1, la2, la3, la4, la5, la6] at h3k
  obtain rfl := oiA hr
  refine qh9 is43 (nbA rfl) (q := (.ret, ⟨[(0, .d (.rd (a0.map qa9))), (1, .d (.rd (a1.map intD))), (2, .ptr 0 0 0 0), (3, .ptr 1 0 0 0), (4, .d (.rd (x1.2.2.2.map intD))), (5, .ptr 3 0 0 0), (6, .ptr 4 0 0 0)], (.row false 0 1 [[.d (.rd (x1.2.1.map qa9))]] :: (.row false 0 1 [[.d (.rd (x1.2.2.1.map intD))]] :: (.row true 0 1 (rowP intD x1.2.2.2) :: (.row false 0 1 [[.ref 2 0 0 ((List.replicate ((a1.length : Int)).toNat 0).length)]] :: (.row false 0 1 [[.fn 78 [.ptr 1 0 0 0, .ptr 0 0 0 0, .ptr 4 0 0 0, .ptr 3 0 0 0]]] :: z2)))))⟩)) ?_ (.inr rfl) ⟨[.d (.rd (x1.2.2.2.map intD))], rfl, ?_⟩
  rotate_left 2
  all_goals (simp +decide only [go_sem, Int.reduceToNat, Nat.reduceAdd, Nat.reduceLT, Nat.reduceMul, Nat.reducePow, reduceCtorEq, qg9, c43, *])
theorem qjS9 {a0 : List Symbol} {a1 : List Int} {r : (List Int)} (hr : qfr9 a0 a1 = some r) {h : AHeap} : callP C (Lim C) 43 [.d (.rd (a0.map qa9)), .d (.rd (a1.map intD))] h = some (.d (.rd (r.map intD)), h) := qbk9 (ds := [.rd (a0.map qa9), .rd (a1.map intD)]) rfl rfl rfl (qrx9 hr) h
end Ld

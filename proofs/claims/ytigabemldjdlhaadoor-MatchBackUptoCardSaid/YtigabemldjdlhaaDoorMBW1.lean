import Derived.Test.YtigabemldjdlhaaDoorMBC
set_option maxHeartbeats 400000
set_option linter.unusedVariables false
set_option linter.unusedSimpArgs false
namespace Ld
open Go Go.Proofs Go.Abs
set_option maxRecDepth 8000
def c36 : ACode := .seq (.reg [] [(0, 0)] [.K 0 (.mv (.const (.slice none 0 0)))]) (.seq (.reg [] [(0, 0)] [.T 1 (.build [(0, 1), (1, 1)] [.d (.v (.string ⟨#[]⟩)), .d (.v (.int .i64 0))] [(0, .const (.string { data := #[122, 101, 114, 111] }))]), .T 2 (.build [(0, 1), (1, 1)] [.d (.v (.string ⟨#[]⟩)), .d (.v (.int .i64 0))] [(0, .const (.string { data := #[115] })), (1, .const (.int .i64 1))]), .T 3 (.build [(0, 1), (1, 1)] [.d (.v (.string ⟨#[]⟩)), .d (.v (.int .i64 0))] [(0, .const (.string { data := #[112, 108, 117, 115] })), (1, .const (.int .i64 2))]), .T 4 (.lit 2 [(0, .tmp 1), (1, .tmp 2), (2, .tmp 3)]), .N 0 4]) (.ret))
theorem is36 : IsF C 36 5 1 c36 [.tmp 0] := ⟨⟨Tryd.f36, _, C_P ▸ Tryd.func36, rfl, rfl, rfl, by kernel_rfl, rfl⟩⟩
set_option maxHeartbeats 4000000 in
theorem l05_three_R  {r : (List Symbol)} (hr : l05_three = some r) : ∃ p hp, Lim C 36 [] [] = some (p, hp) ∧ rsT hp p = some (.d (.rd (r.map encSymbol))) := by
  simp only [l05_three] at hr
  obtain rfl := Option.some.inj hr
  refine run_ok is36 (Nat.le_of_ble_eq_true rfl) (q := (.ret, ⟨[(0, .d (.rd (([(Symbol.mk ({ data := #[122, 101, 114, 111] }) 0), (Symbol.mk ({ data := #[115] }) 1), (Symbol.mk ({ data := #[112, 108, 117, 115] }) 2)] : List Symbol).map encSymbol)))], []⟩)) ?_ (.inr rfl) ⟨[.d (.rd (([(Symbol.mk ({ data := #[122, 101, 114, 111] }) 0), (Symbol.mk ({ data := #[115] }) 1), (Symbol.mk ({ data := #[112, 108, 117, 115] }) 2)] : List Symbol).map encSymbol))], rfl, ?_⟩
  rotate_left 2
  all_goals (simp (config := {decide := true}) only [go_sem, Int.reduceToNat, Nat.reduceAdd, Nat.reduceLT, Nat.reduceMul, Nat.reducePow, reduceCtorEq, callEnv, c36, *])
theorem l05_three_k  {r : (List Symbol)} (hr : l05_three = some r) {h : AHeap} : callP C (Lim C) 36 [] h = some (.d (.rd (r.map encSymbol)), h) := call_of (ds := []) rfl rfl rfl (l05_three_R hr) h
theorem unicode_utf8_ValidString_k {a0 : ByteArray} {r : Bool} (hr : unicode_utf8_ValidString a0 = some r) {h : AHeap} : callP C (Lim C) 107 [.d (.v (.string a0))] h = some (.d (.v (.bool r)), h) := by
  have e : C.prim 107 = some prim_unicode_utf8_ValidString := rfl
  simp only [callP, e, prim_unicode_utf8_ValidString, hr]

def c108 : ACode := .seq (.reg [] [] [.K 2 (.mv (.const (.bool false)))]) (.seq (.reg [] [] [.M 3 0, .T 4 (.bin .leq (.const (.int .i32 97)) (.tmp 3)), .M 5 4, .MG 6 5 true 0, .TG 7 5 true (.bin .leq (.tmp 6) (.const (.int .i32 122))), .T 8 (.pick (.tmp 5) (.tmp 7) (.const (.bool false))), .M 9 8, .MG 10 9 false 0, .TG 11 9 false (.bin .leq (.const (.int .i32 65)) (.tmp 10)), .MG 12 9 false 11, .MG 13 12 true 0, .TG 14 12 true (.bin .leq (.tmp 13) (.const (.int .i32 90))), .TG 15 9 false (.pick (.tmp 12) (.tmp 14) (.const (.bool false))), .T 16 (.pick (.tmp 9) (.const (.bool true)) (.tmp 15)), .M 17 16, .MG 18 17 false 0, .TG 19 17 false (.bin .geq (.tmp 18) (.const (.int .i32 128))), .T 20 (.pick (.tmp 17) (.const (.bool true)) (.tmp 19)), .N 2 20]) (.ret))
theorem is108 : IsF C 108 21 5 c108 [.tmp 2] := ⟨⟨Tryd.f108, _, C_P ▸ Tryd.func108, rfl, rfl, rfl, by kernel_rfl, rfl⟩⟩
set_option maxHeartbeats 4000000 in
theorem term_letter_R {a0 : Int} {r : Bool} (hr : term_letter a0 = some r) : ∃ p hp, Lim C 108 [.d (.v (.int .i32 a0))] [] = some (p, hp) ∧ rsT hp p = some (PB r) := by
  simp only [term_letter] at hr
  rcases Classical.propComplete (97 ≤ a0) with h1 | h1
  simp only [h1, if_true] at hr
  rcases Classical.propComplete (a0 ≤ 122) with h2 | h2
  simp only [h2, if_true] at hr
  obtain rfl := Option.some.inj hr
  refine run_ok is108 (Nat.le_of_ble_eq_true rfl) (q := (.ret, ⟨[(0, .d (.v (.int .i32 a0))), (2, PB true)], []⟩)) ?_ (.inr rfl) ⟨[PB true], rfl, ?_⟩
  rotate_left 2
  simp only [h2, if_false] at hr
  rcases Classical.propComplete (65 ≤ a0) with h3 | h3
  simp only [h3, if_true] at hr
  rcases Classical.propComplete (a0 ≤ 90) with h4 | h4
  simp only [h4, if_true] at hr
  obtain rfl := Option.some.inj hr
  refine run_ok is108 (Nat.le_of_ble_eq_true rfl) (q := (.ret, ⟨[(0, .d (.v (.int .i32 a0))), (2, PB true)], []⟩)) ?_ (.inr rfl) ⟨[PB true], rfl, ?_⟩
  rotate_left 2
  simp only [h4, if_false] at hr
  obtain rfl := Option.some.inj hr
  refine run_ok is108 (Nat.le_of_ble_eq_true rfl) (q := (.ret, ⟨[(0, .d (.v (.int .i32 a0))), (2, PB (decide (128 ≤ a0)))], []⟩)) ?_ (.inr rfl) ⟨[PB (decide (128 ≤ a0))], rfl, ?_⟩
  rotate_left 2
  simp only [h3, if_false] at hr
  obtain rfl := Option.some.inj hr
  refine run_ok is108 (Nat.le_of_ble_eq_true rfl) (q := (.ret, ⟨[(0, .d (.v (.int .i32 a0))), (2, PB (decide (128 ≤ a0)))], []⟩)) ?_ (.inr rfl) ⟨[PB (decide (128 ≤ a0))], rfl, ?_⟩
  rotate_left 2
  simp only [h1, if_false] at hr
  rcases Classical.propComplete (65 ≤ a0) with h5 | h5
  simp only [h5, if_true] at hr
  rcases Classical.propComplete (a0 ≤ 90) with h6 | h6
  simp only [h6, if_true] at hr
  obtain rfl := Option.some.inj hr
  refine run_ok is108 (Nat.le_of_ble_eq_true rfl) (q := (.ret, ⟨[(0, .d (.v (.int .i32 a0))), (2, PB true)], []⟩)) ?_ (.inr rfl) ⟨[PB true], rfl, ?_⟩
  rotate_left 2
  simp only [h6, if_false] at hr
  obtain rfl := Option.some.inj hr
  refine run_ok is108 (Nat.le_of_ble_eq_true rfl) (q := (.ret, ⟨[(0, .d (.v (.int .i32 a0))), (2, PB (decide (128 ≤ a0)))], []⟩)) ?_ (.inr rfl) ⟨[PB (decide (128 ≤ a0))], rfl, ?_⟩
  rotate_left 2
  simp only [h5, if_false] at hr
  obtain rfl := Option.some.inj hr
  refine run_ok is108 (Nat.le_of_ble_eq_true rfl) (q := (.ret, ⟨[(0, .d (.v (.int .i32 a0))), (2, PB (decide (128 ≤ a0)))], []⟩)) ?_ (.inr rfl) ⟨[PB (decide (128 ≤ a0))], rfl, ?_⟩
  rotate_left 2
  all_goals (simp (config := {decide := true}) only [go_sem, Int.reduceToNat, Nat.reduceAdd, Nat.reduceLT, Nat.reduceMul, Nat.reducePow, reduceCtorEq, callEnv, c108, *])
theorem term_letter_k {a0 : Int} {r : Bool} (hr : term_letter a0 = some r) {h : AHeap} : callP C (Lim C) 108 [.d (.v (.int .i32 a0))] h = some (PB r, h) := call_of (ds := [.v (.int .i32 a0)]) rfl rfl rfl (term_letter_R hr) h
def b98_0 : ACode := .seq (.reg [] [] [.K 19 (.nxt (.tmp 18) true), .K 20 (.ext (.tmp 19) 0)]) (.seq (.cond (.tmp 20) (some 20) (.skip) (.exit 0)) (.block 1 77070360 (.seq (.reg [] [] [.T 21 (.ext (.tmp 19) 1), .T 22 (.ext (.tmp 19) 2), .N 3 21, .N 4 22]) (.block 2 77070360 (.seq (.reg [] [] [.M 24 4, .T 25 (.call 108 [.tmp 24]), .N 23 25]) (.cond (.tmp 23) (some 23) (.skip) (.seq (.reg [] [] [.M 27 3, .T 28 (.bin .gtr (.tmp 27) (cI 0)), .M 29 28, .MG 30 29 true 4, .TG 31 29 true (.bin .leq (.const (.int .i32 48)) (.tmp 30)), .MG 32 29 true 31, .MG 33 32 true 4, .TG 34 32 true (.bin .leq (.tmp 33) (.const (.int .i32 57))), .TG 35 29 true (.pick (.tmp 32) (.tmp 34) (.const (.bool false))), .MG 36 29 true 35, .MG 37 36 false 4, .TG 38 36 false (.bin .eql (.tmp 37) (.const (.int .i32 95))), .TG 39 29 true (.pick (.tmp 36) (.const (.bool true)) (.tmp 38)), .MG 40 29 true 39, .MG 41 40 false 4, .TG 42 40 false (.bin .eql (.tmp 41) (.const (.int .i32 39))), .TG 43 29 true (.pick (.tmp 40) (.const (.bool true)) (.tmp 42)), .T 44 (.pick (.tmp 29) (.tmp 43) (.const (.bool false))), .N 26 44]) (.cond (.tmp 26) (some 26) (.skip) (.seq (.reg [] [] [.K 2 (.mv (.const (.bool false)))]) (.ret))))))))))
def c98 : ACode := .seq (.reg [] [] [.K 2 (.mv (.const (.bool false)))]) (.seq (.seq (.reg [] [] [.M 5 0, .T 6 (.bin .eql (.tmp 5) (.const (.string { data := #[] }))), .M 7 6, .MG 8 7 false 0, .TG 9 7 false (.slen (.tmp 8)), .TG 10 7 false (.bin .gtr (.tmp 9) (cI 32)), .T 11 (.pick (.tmp 7) (.const (.bool true)) (.tmp 10)), .M 12 11, .MG 13 12 false 0, .TG 14 12 false (.call 107 [.tmp 13]), .TG 15 12 false (.not (.tmp 14)), .K 16 (.pick (.tmp 12) (.const (.bool true)) (.tmp 15))]) (.cond (.tmp 16) (some 16) (.seq (.reg [] [] [.K 2 (.mv (.const (.bool false)))]) (.ret)) (.skip))) (.seq (.seq (.reg [] [] [.M 17 0, .K 18 (.rng (.tmp 17))]) (.block 0 77070360 (.loop b98_0))) (.seq (.reg [] [] [.K 2 (.mv (.const (.bool true)))]) (.ret))))
theorem is98 : IsF C 98 45 77398045 c98 [.tmp 2] := ⟨⟨Tryd.f98, _, C_P ▸ Tryd.func98, rfl, rfl, rfl, by kernel_rfl, rfl⟩⟩
def term_named_S0 (s0 : ByteArray) (t18 : ByteArray) : Nat → Unit → St := fun q18 _ => ⟨[(0, .d (.v (.string s0))), (2, PB false), (18, .it 0)], (.siter t18 q18 :: [])⟩
def term_named_X0 (s0 : ByteArray) (t18 : ByteArray) : (Bool ⊕ Nat) → AExit × St → Prop
  | .inl r, q => q.1 = .ret ∧ RetOK C [.tmp 2] q.2 (PB r)
  | .inr q18, q => ∃ d19 : PV, q = (.exit 0, ⟨[(0, .d (.v (.string s0))), (2, PB false), (18, .it 0), (19, d19)], (.siter t18 q18 :: [])⟩)
set_option maxHeartbeats 4000000 in
theorem term_named_R0 (s0 : ByteArray) (t18 : ByteArray) : ∀ (s : Nat) (g : Unit) r, term_named_l0 s0 t18 s = some r → Sum.elim (fun s' => ∃ g', semA C (Lim C) 77398045 b98_0 (term_named_S0 s0 t18 s g) = some (.normal, term_named_S0 s0 t18 s' g')) (fun x => ∃ q, semA C (Lim C) 77398045 b98_0 (term_named_S0 s0 t18 s g) = some q ∧ q.1 ≠ .normal ∧ term_named_X0 s0 t18 x q) r := by
  intro s g r hr
  have ⟨q18, hs0⟩ : ∃ y, y = s := ⟨_, rfl⟩
  subst hs0
  simp only [term_named_l0] at hr
  rcases Classical.propComplete (q18 < t18.size) with h1 | h1
  simp only [h1, if_true] at hr
  obtain ⟨x2, h2, hr⟩ := bsome hr
  have h2k := fun h => term_letter_k (h := h) h2
  try simp only [go_sem] at h2k
  cases h3 : x2
  simp only [h3, Bool.false_eq_true, if_false] at hr
  rcases Classical.propComplete (0 < (q18 : Int)) with h4 | h4
  simp only [h4, if_true] at hr
  rcases Classical.propComplete (48 ≤ ((Utf8.decode t18 q18).1 : Int)) with h5 | h5
  simp only [h5, if_true] at hr
  rcases Classical.propComplete (((Utf8.decode t18 q18).1 : Int) ≤ 57) with h6 | h6
  simp only [h6, if_true] at hr
  obtain rfl := Option.some.inj hr
  refine ⟨(), ?_⟩
  rotate_left
  simp only [h6, if_false] at hr
  rcases Classical.propComplete (((Utf8.decode t18 q18).1 : Int) = 95) with h7 | h7
  simp only [h7, if_true] at hr
  obtain rfl := Option.some.inj hr
  refine ⟨(), ?_⟩
  rotate_left
  simp only [h7, if_false] at hr
  rcases Classical.propComplete (((Utf8.decode t18 q18).1 : Int) = 39) with h8 | h8
  simp only [h8, if_true] at hr
  obtain rfl := Option.some.inj hr
  refine ⟨(), ?_⟩
  rotate_left
  simp only [h8, if_false] at hr
  obtain rfl := Option.some.inj hr
  refine ⟨(.ret, ⟨[(0, .d (.v (.string s0))), (2, PB false), (3, PI (q18 : Int)), (4, .d (.v (.int .i32 ((Utf8.decode t18 q18).1 : Int)))), (18, .it 0), (19, .tp [PB true, PI (q18 : Int), .d (.v (.int .i32 ((Utf8.decode t18 q18).1 : Int)))])], (.siter t18 (q18 + (Utf8.decode t18 q18).2) :: [])⟩), ?_, nofun, rfl, [PB false], rfl, ?_⟩
  rotate_left 2
  simp only [h5, if_false] at hr
  rcases Classical.propComplete (((Utf8.decode t18 q18).1 : Int) = 95) with h9 | h9
  simp only [h9, if_true] at hr
  obtain rfl := Option.some.inj hr
  refine ⟨(), ?_⟩
  rotate_left
  simp only [h9, if_false] at hr
  rcases Classical.propComplete (((Utf8.decode t18 q18).1 : Int) = 39) with h10 | h10
  simp only [h10, if_true] at hr
  obtain rfl := Option.some.inj hr
  refine ⟨(), ?_⟩
  rotate_left
  simp only [h10, if_false] at hr
  obtain rfl := Option.some.inj hr
  refine ⟨(.ret, ⟨[(0, .d (.v (.string s0))), (2, PB false), (3, PI (q18 : Int)), (4, .d (.v (.int .i32 ((Utf8.decode t18 q18).1 : Int)))), (18, .it 0), (19, .tp [PB true, PI (q18 : Int), .d (.v (.int .i32 ((Utf8.decode t18 q18).1 : Int)))])], (.siter t18 (q18 + (Utf8.decode t18 q18).2) :: [])⟩), ?_, nofun, rfl, [PB false], rfl, ?_⟩
  rotate_left 2
  simp only [h4, if_false] at hr
  obtain rfl := Option.some.inj hr
  refine ⟨(.ret, ⟨[(0, .d (.v (.string s0))), (2, PB false), (3, PI (q18 : Int)), (4, .d (.v (.int .i32 ((Utf8.decode t18 q18).1 : Int)))), (18, .it 0), (19, .tp [PB true, PI (q18 : Int), .d (.v (.int .i32 ((Utf8.decode t18 q18).1 : Int)))])], (.siter t18 (q18 + (Utf8.decode t18 q18).2) :: [])⟩), ?_, nofun, rfl, [PB false], rfl, ?_⟩
  rotate_left 2
  simp only [h3, if_true] at hr
  obtain rfl := Option.some.inj hr
  refine ⟨(), ?_⟩
  rotate_left
  simp only [h1, if_false] at hr
  obtain rfl := Option.some.inj hr
  refine ⟨(.exit 0, ⟨[(0, .d (.v (.string s0))), (2, PB false), (18, .it 0), (19, (.tp [PB false]))], (.siter t18 q18 :: [])⟩), ?_, nofun, .tp [PB false], rfl⟩
  rotate_left
  all_goals (simp (config := {decide := true}) only [go_sem, Int.reduceToNat, Nat.reduceAdd, Nat.reduceLT, Nat.reduceMul, Nat.reducePow, reduceCtorEq, term_named_S0, b98_0, *])
theorem term_named_L0 {s0 : ByteArray} {t18 : ByteArray} {s : Nat} {g : Unit} {x} (h : wh (term_named_l0 s0 t18) s = some x) : ∃ q, loopLim (semA C (Lim C) 77398045 b98_0) (term_named_S0 s0 t18 s g) = some q ∧ term_named_X0 s0 t18 x q := wh_sim (term_named_R0 s0 t18) h
set_option maxHeartbeats 4000000 in
theorem term_named_R {a0 : ByteArray} {r : Bool} (hr : term_named a0 = some r) : ∃ p hp, Lim C 98 [.d (.v (.string a0))] [] = some (p, hp) ∧ rsT hp p = some (PB r) := by
  simp only [term_named] at hr
  rcases Classical.propComplete (a0 = ({ data := #[] })) with h1 | h1
  simp only [h1, if_true] at hr
  obtain rfl := Option.some.inj hr
  refine run_ok is98 (Nat.le_of_ble_eq_true rfl) (q := (.ret, ⟨[(0, .d (.v (.string a0))), (2, PB false)], []⟩)) ?_ (.inr rfl) ⟨[PB false], rfl, ?_⟩
  rotate_left 2
  simp only [h1, if_false] at hr
  rcases Classical.propComplete (32 < (a0.size : Int)) with h2 | h2
  simp only [h2, if_true] at hr
  obtain rfl := Option.some.inj hr
  refine run_ok is98 (Nat.le_of_ble_eq_true rfl) (q := (.ret, ⟨[(0, .d (.v (.string a0))), (2, PB false)], []⟩)) ?_ (.inr rfl) ⟨[PB false], rfl, ?_⟩
  rotate_left 2
  simp only [h2, if_false] at hr
  obtain ⟨x1, h3, hr⟩ := bsome hr
  have h3k := fun h => unicode_utf8_ValidString_k (h := h) h3
  try simp only [go_sem] at h3k
  cases h4 : x1
  simp only [h4, Bool.false_eq_true, if_false] at hr
  obtain rfl := Option.some.inj hr
  refine run_ok is98 (Nat.le_of_ble_eq_true rfl) (q := (.ret, ⟨[(0, .d (.v (.string a0))), (2, PB false)], []⟩)) ?_ (.inr rfl) ⟨[PB false], rfl, ?_⟩
  rotate_left 2
  simp only [h4, if_true] at hr
  obtain ⟨x3, h5, hr⟩ := bsome hr
  obtain ⟨q5, h5L, h5X⟩ := term_named_L0 (g := ()) h5
  rcases x3 with x4 | x5
  simp only [term_named_X0, term_named_S0] at h5X h5L
  obtain ⟨e5, st5⟩ := q5
  obtain ⟨rfl, h5R⟩ := h5X
  try simp only [go_sem, Nat.reduceAdd] at h5L
  obtain rfl := Option.some.inj hr
  refine run_ok is98 (Nat.le_of_ble_eq_true rfl) ?_ (.inr rfl) h5R
  rotate_left
  simp only [term_named_X0, term_named_S0] at h5X h5L
  obtain ⟨z6, rfl⟩ := h5X
  try simp only [go_sem, Nat.reduceAdd] at h5L
  obtain rfl := Option.some.inj hr
  refine run_ok is98 (Nat.le_of_ble_eq_true rfl) (q := (.ret, ⟨[(0, .d (.v (.string a0))), (2, PB true), (18, .it 0)], (.siter a0 x5 :: [])⟩)) ?_ (.inr rfl) ⟨[PB true], rfl, ?_⟩
  rotate_left 2
  all_goals (simp (config := {decide := true}) only [go_sem, Int.reduceToNat, Nat.reduceAdd, Nat.reduceLT, Nat.reduceMul, Nat.reducePow, reduceCtorEq, callEnv, c98, *])
theorem term_named_k {a0 : ByteArray} {r : Bool} (hr : term_named a0 = some r) {h : AHeap} : callP C (Lim C) 98 [.d (.v (.string a0))] h = some (PB r, h) := call_of (ds := [.v (.string a0)]) rfl rfl rfl (term_named_R hr) h
def c100 : ACode := .seq (.reg [] [] [.K 2 (.box (.tmp 0)), .K 3 (.mv (.const (.bool false)))]) (.seq (.reg [] [] [.T 4 (.fa 0 (.tmp 2)), .T 5 (.load none (.tmp 4)), .T 6 (.fa 0 (.tmp 1)), .T 7 (.load none (.tmp 6)), .T 8 (.bin .eql (.tmp 5) (.tmp 7)), .N 3 8]) (.ret))
theorem is100 : IsF C 100 9 15 c100 [.tmp 3] := ⟨⟨Tryd.f100, _, C_P ▸ Tryd.func100, rfl, rfl, rfl, by kernel_rfl, rfl⟩⟩
set_option maxHeartbeats 4000000 in
theorem term_CheckSig_c1_R {a0 : Symbol} {a1 : Symbol} {r : Bool} (hr : term_CheckSig_c1 a0 a1 = some r) : ∃ p hp, Lim C 100 [.d (.ag (encSymbol a0)), .d (.bx (encSymbol a1))] [] = some (p, hp) ∧ rsT hp p = some (PB r) := by
  simp only [term_CheckSig_c1] at hr
  obtain rfl := Option.some.inj hr
  refine run_ok is100 (Nat.le_of_ble_eq_true rfl) (q := (.ret, ⟨[(0, .d (.ag (encSymbol a0))), (1, .d (.bx (encSymbol a1))), (2, .ptr 0 0 0 0), (3, PB (decide (a0.Name = a1.Name)))], (.row false 0 2 [[.d (.v (.string a0.Name)), PI a0.Arity]] :: [])⟩)) ?_ (.inr rfl) ⟨[PB (decide (a0.Name = a1.Name))], rfl, ?_⟩
  rotate_left 2
  all_goals (simp (config := {decide := true}) only [go_sem, Int.reduceToNat, Nat.reduceAdd, Nat.reduceLT, Nat.reduceMul, Nat.reducePow, reduceCtorEq, callEnv, c100, *])
theorem term_CheckSig_c1_o {a0 : Symbol} {a1 : Symbol} {r : Bool} (hr : term_CheckSig_c1 a0 a1 = some r) {h : AHeap} {args : List PV} (ha : mapO (rs h depth) args = some [.ag (encSymbol a0), .bx (encSymbol a1)]) : callP C (Lim C) 100 args h = some (PB r, if scalar (PB r) = true then h else freezeAll (args.flatMap (reach h depth)) h) := call_own rfl rfl rfl (term_CheckSig_c1_R hr) ha
def b109_0 : ACode := .seq (.reg [] [] [.K 9 (.bin .lss (.tmp 8) (.tmp 7))]) (.seq (.cond (.tmp 9) (some 9) (.skip) (.exit 0)) (.seq (.block 1 66080 (.seq (.reg [] [] [.M 10 8, .N 5 10]) (.seq (.reg [] [] [.M 11 1, .M 12 0, .M 13 5, .T 14 (.ix 2 (.tmp 12) (.tmp 13)), .T 15 (.load (some 2) (.tmp 14)), .K 16 (.callV (.tmp 11) [.tmp 15])]) (.cond (.tmp 16) (some 16) (.seq (.reg [] [] [.M 17 5, .N 4 17]) (.ret)) (.skip))))) (.reg [] [] [.T 18 (.bin .add (.tmp 8) (cI 1)), .N 8 18])))
def c109 : ACode := .seq (.reg [] [] [.K 4 (.mv (cI 0))]) (.seq (.seq (.reg [] [] [.M 6 0, .K 7 (.len (.tmp 6)), .K 8 (.mv (cI 0))]) (.block 0 66080 (.loop b109_0))) (.seq (.reg [] [] [.K 4 (.mv (cI (-1)))]) (.ret)))
theorem is109 : IsF C 109 19 66483 c109 [.tmp 4] := ⟨⟨Tryd.f109, _, C_P ▸ Tryd.func109, rfl, rfl, rfl, by kernel_rfl, rfl⟩⟩
def slices_IndexFunc_s_api_Symbol_api_Symbol_on_term_CheckSig_c1_S0 (s0 : List Symbol) (s1_0 : Symbol) (s7 : Int) : Int → Unit → St := fun s8 _ => ⟨[(0, .d (.rd (s0.map encSymbol))), (1, .d (.fn 100 [.bx (encSymbol s1_0)])), (4, PI 0), (7, PI s7), (8, PI s8)], []⟩
def slices_IndexFunc_s_api_Symbol_api_Symbol_on_term_CheckSig_c1_X0 (s0 : List Symbol) (s1_0 : Symbol) (s7 : Int) : (Int ⊕ Int) → AExit × St → Prop
  | .inl r, q => q.1 = .ret ∧ RetOK C [.tmp 4] q.2 (PI r)
  | .inr s8, q => q = (.exit 0, ⟨[(0, .d (.rd (s0.map encSymbol))), (1, .d (.fn 100 [.bx (encSymbol s1_0)])), (4, PI 0), (7, PI s7), (8, PI s8)], []⟩)
set_option maxHeartbeats 4000000 in
theorem slices_IndexFunc_s_api_Symbol_api_Symbol_on_term_CheckSig_c1_R0 (s0 : List Symbol) (s1_0 : Symbol) (s7 : Int) : ∀ (s : Int) (g : Unit) r, slices_IndexFunc_s_api_Symbol_api_Symbol_on_term_CheckSig_c1_l0 s0 s1_0 s7 s = some r → Sum.elim (fun s' => ∃ g', semA C (Lim C) 66483 b109_0 (slices_IndexFunc_s_api_Symbol_api_Symbol_on_term_CheckSig_c1_S0 s0 s1_0 s7 s g) = some (.normal, slices_IndexFunc_s_api_Symbol_api_Symbol_on_term_CheckSig_c1_S0 s0 s1_0 s7 s' g')) (fun x => ∃ q, semA C (Lim C) 66483 b109_0 (slices_IndexFunc_s_api_Symbol_api_Symbol_on_term_CheckSig_c1_S0 s0 s1_0 s7 s g) = some q ∧ q.1 ≠ .normal ∧ slices_IndexFunc_s_api_Symbol_api_Symbol_on_term_CheckSig_c1_X0 s0 s1_0 s7 x q) r := by
  intro s g r hr
  have ⟨s8, hs0⟩ : ∃ y, y = s := ⟨_, rfl⟩
  subst hs0
  simp only [slices_IndexFunc_s_api_Symbol_api_Symbol_on_term_CheckSig_c1_l0] at hr
  rcases Classical.propComplete (s8 < s7) with h1 | h1
  simp only [h1, if_true] at hr
  obtain ⟨x1, h2, hr⟩ := bsome hr
  obtain ⟨x2, h3, hr⟩ := bsome hr
  have h3k := fun h => term_CheckSig_c1_o (h := h) (args := [.ag [.d (.v (.string x1.Name)), PI x1.Arity], .d (.bx (encSymbol s1_0))]) h3 rfl
  try simp only [go_sem] at h3k
  cases h4 : x2
  simp only [h4, Bool.false_eq_true, if_false] at hr
  obtain rfl := Option.some.inj hr
  refine ⟨(), ?_⟩
  rotate_left
  simp only [h4, if_true] at hr
  obtain rfl := Option.some.inj hr
  refine ⟨(.ret, ⟨[(0, .d (.rd (s0.map encSymbol))), (1, .d (.fn 100 [.bx (encSymbol s1_0)])), (4, PI s8), (5, PI s8), (7, PI s7), (8, PI s8)], []⟩), ?_, nofun, rfl, [PI s8], rfl, ?_⟩
  rotate_left 2
  simp only [h1, if_false] at hr
  obtain rfl := Option.some.inj hr
  refine ⟨(.exit 0, ⟨[(0, .d (.rd (s0.map encSymbol))), (1, .d (.fn 100 [.bx (encSymbol s1_0)])), (4, PI 0), (7, PI s7), (8, PI s8)], []⟩), ?_, nofun, rfl⟩
  rotate_left
  all_goals (simp (config := {decide := true}) only [go_sem, Int.reduceToNat, Nat.reduceAdd, Nat.reduceLT, Nat.reduceMul, Nat.reducePow, reduceCtorEq, slices_IndexFunc_s_api_Symbol_api_Symbol_on_term_CheckSig_c1_S0, b109_0, *])
theorem slices_IndexFunc_s_api_Symbol_api_Symbol_on_term_CheckSig_c1_L0 {s0 : List Symbol} {s1_0 : Symbol} {s7 : Int} {s : Int} {g : Unit} {x} (h : wh (slices_IndexFunc_s_api_Symbol_api_Symbol_on_term_CheckSig_c1_l0 s0 s1_0 s7) s = some x) : ∃ q, loopLim (semA C (Lim C) 66483 b109_0) (slices_IndexFunc_s_api_Symbol_api_Symbol_on_term_CheckSig_c1_S0 s0 s1_0 s7 s g) = some q ∧ slices_IndexFunc_s_api_Symbol_api_Symbol_on_term_CheckSig_c1_X0 s0 s1_0 s7 x q := wh_sim (slices_IndexFunc_s_api_Symbol_api_Symbol_on_term_CheckSig_c1_R0 s0 s1_0 s7) h
set_option maxHeartbeats 4000000 in
theorem slices_IndexFunc_s_api_Symbol_api_Symbol_on_term_CheckSig_c1_R {a0 : List Symbol} {a1_0 : Symbol} {r : Int} (hr : slices_IndexFunc_s_api_Symbol_api_Symbol_on_term_CheckSig_c1 a0 a1_0 = some r) : ∃ p hp, Lim C 109 [.d (.rd (a0.map encSymbol)), .d (.fn 100 [.bx (encSymbol a1_0)])] [] = some (p, hp) ∧ rsT hp p = some (PI r) := by
  simp only [slices_IndexFunc_s_api_Symbol_api_Symbol_on_term_CheckSig_c1] at hr
  obtain ⟨x3, h1, hr⟩ := bsome hr
  obtain ⟨q1, h1L, h1X⟩ := slices_IndexFunc_s_api_Symbol_api_Symbol_on_term_CheckSig_c1_L0 (g := ()) h1
  rcases x3 with x4 | x5
  simp only [slices_IndexFunc_s_api_Symbol_api_Symbol_on_term_CheckSig_c1_X0, slices_IndexFunc_s_api_Symbol_api_Symbol_on_term_CheckSig_c1_S0] at h1X h1L
  obtain ⟨e1, st1⟩ := q1
  obtain ⟨rfl, h1R⟩ := h1X
  try simp only [go_sem, Nat.reduceAdd] at h1L
  obtain rfl := Option.some.inj hr
  refine run_ok is109 (Nat.le_of_ble_eq_true rfl) ?_ (.inr rfl) h1R
  rotate_left
  simp only [slices_IndexFunc_s_api_Symbol_api_Symbol_on_term_CheckSig_c1_X0, slices_IndexFunc_s_api_Symbol_api_Symbol_on_term_CheckSig_c1_S0] at h1X h1L
  subst h1X
  try simp only [go_sem, Nat.reduceAdd] at h1L
  obtain rfl := Option.some.inj hr
  refine run_ok is109 (Nat.le_of_ble_eq_true rfl) (q := (.ret, ⟨[(0, .d (.rd (a0.map encSymbol))), (1, .d (.fn 100 [.bx (encSymbol a1_0)])), (4, PI (-1)), (7, PI (a0.length : Int)), (8, PI x5)], []⟩)) ?_ (.inr rfl) ⟨[PI (-1)], rfl, ?_⟩
  rotate_left 2
  all_goals (simp (config := {decide := true}) only [go_sem, Int.reduceToNat, Nat.reduceAdd, Nat.reduceLT, Nat.reduceMul, Nat.reducePow, reduceCtorEq, callEnv, c109, *])
theorem slices_IndexFunc_s_api_Symbol_api_Symbol_on_term_CheckSig_c1_k {a0 : List Symbol} {a1_0 : Symbol} {r : Int} (hr : slices_IndexFunc_s_api_Symbol_api_Symbol_on_term_CheckSig_c1 a0 a1_0 = some r) {h : AHeap} : callP C (Lim C) 109 [.d (.rd (a0.map encSymbol)), .d (.fn 100 [.bx (encSymbol a1_0)])] h = some (PI r, h) := call_of (ds := [.rd (a0.map encSymbol), .fn 100 [.bx (encSymbol a1_0)]]) rfl rfl rfl (slices_IndexFunc_s_api_Symbol_api_Symbol_on_term_CheckSig_c1_R hr) h
def c99 : ACode := .seq (.reg [] [] [.K 4 (.mv (.const (.bool false)))]) (.seq (.reg [] [] [.M 5 0, .M 6 1, .T 7 (.call 109 [.tmp 5, .tmp 6]), .T 8 (.bin .geq (.tmp 7) (cI 0)), .N 4 8]) (.ret))
theorem is99 : IsF C 99 9 19 c99 [.tmp 4] := ⟨⟨Tryd.f99, _, C_P ▸ Tryd.func99, rfl, rfl, rfl, by kernel_rfl, rfl⟩⟩
set_option maxHeartbeats 4000000 in
theorem slices_ContainsFunc_s_api_Symbol_api_Symbol_on_term_CheckSig_c1_R {a0 : List Symbol} {a1_0 : Symbol} {r : Bool} (hr : slices_ContainsFunc_s_api_Symbol_api_Symbol_on_term_CheckSig_c1 a0 a1_0 = some r) : ∃ p hp, Lim C 99 [.d (.rd (a0.map encSymbol)), .d (.fn 100 [.bx (encSymbol a1_0)])] [] = some (p, hp) ∧ rsT hp p = some (PB r) := by
  simp only [slices_ContainsFunc_s_api_Symbol_api_Symbol_on_term_CheckSig_c1] at hr
  obtain ⟨x1, h1, hr⟩ := bsome hr
  have h1k := fun h => slices_IndexFunc_s_api_Symbol_api_Symbol_on_term_CheckSig_c1_k (h := h) h1
  try simp only [go_sem] at h1k
  obtain rfl := Option.some.inj hr
  refine run_ok is99 (Nat.le_of_ble_eq_true rfl) (q := (.ret, ⟨[(0, .d (.rd (a0.map encSymbol))), (1, .d (.fn 100 [.bx (encSymbol a1_0)])), (4, PB (decide (0 ≤ x1)))], []⟩)) ?_ (.inr rfl) ⟨[PB (decide (0 ≤ x1))], rfl, ?_⟩
  rotate_left 2
  all_goals (simp (config := {decide := true}) only [go_sem, Int.reduceToNat, Nat.reduceAdd, Nat.reduceLT, Nat.reduceMul, Nat.reducePow, reduceCtorEq, callEnv, c99, *])
theorem slices_ContainsFunc_s_api_Symbol_api_Symbol_on_term_CheckSig_c1_o {a0 : List Symbol} {a1_0 : Symbol} {r : Bool} (hr : slices_ContainsFunc_s_api_Symbol_api_Symbol_on_term_CheckSig_c1 a0 a1_0 = some r) {h : AHeap} {args : List PV} (ha : mapO (rs h depth) args = some [.rd (a0.map encSymbol), .fn 100 [.bx (encSymbol a1_0)]]) : callP C (Lim C) 99 args h = some (PB r, if scalar (PB r) = true then h else freezeAll (args.flatMap (reach h depth)) h) := call_own rfl rfl rfl (slices_ContainsFunc_s_api_Symbol_api_Symbol_on_term_CheckSig_c1_R hr) ha
def b83_0 : ACode := .seq (.reg [] [] [.K 12 (.bin .lss (.tmp 11) (.tmp 10))]) (.seq (.cond (.tmp 12) (some 12) (.skip) (.exit 0)) (.seq (.block 1 18049582882099256 (.seq (.reg [] [] [.M 13 11, .T 14 (.ix 2 (.tmp 9) (.tmp 11)), .T 15 (.load (some 2) (.tmp 14)), .K 4 (.alloc [.d (.v (.string ⟨#[]⟩)), .d (.v (.int .i64 0))] 2), .N 3 13, ⟨none, .store 2 (.tmp 4) (.tmp 15), none, false, false⟩]) (.seq (.reg [] [] [.T 16 (.fa 0 (.tmp 4)), .T 17 (.load none (.tmp 16)), .T 18 (.slen (.tmp 17)), .N 5 18]) (.block 2 18049582882099256 (.seq (.reg [] [] [.T 20 (.fa 0 (.tmp 4)), .T 21 (.load none (.tmp 20)), .T 22 (.call 98 [.tmp 21]), .T 23 (.not (.tmp 22)), .M 24 23, .MG 25 24 true 5, .TG 26 24 true (.bin .eql (.tmp 25) (cI 0)), .MG 27 24 true 26, .TG 28 27 false (.fa 0 (.tmp 4)), .TG 29 27 false (.load none (.tmp 28)), .MG 30 27 false 5, .TG 31 27 false (.bin .sub (.tmp 30) (cI 1)), .TG 32 27 false (.ixS (.tmp 29) (.tmp 31)), .TG 33 27 false (.bin .neq (.tmp 32) (.const (.int .u8 35))), .TG 34 24 true (.pick (.tmp 27) (.const (.bool true)) (.tmp 33)), .MG 35 24 true 34, .TG 36 35 false (.fa 0 (.tmp 4)), .TG 37 35 false (.load none (.tmp 36)), .MG 38 35 false 5, .TG 39 35 false (.bin .sub (.tmp 38) (cI 1)), .TG 40 35 false (.cutS (.tmp 37) none (some (.tmp 39))), .TG 41 35 false (.call 98 [.tmp 40]), .TG 42 35 false (.not (.tmp 41)), .TG 43 24 true (.pick (.tmp 35) (.const (.bool true)) (.tmp 42)), .T 44 (.pick (.tmp 24) (.tmp 43) (.const (.bool false))), .N 19 44]) (.cond (.tmp 19) (some 19) (.seq (.reg [] [] [.K 2 (.mv (cI 34))]) (.ret)) (.seq (.reg [] [] [.T 46 (.fa 1 (.tmp 4)), .T 47 (.load none (.tmp 46)), .T 48 (.bin .lss (.tmp 47) (cI 0)), .M 49 48, .TG 50 49 false (.fa 1 (.tmp 4)), .TG 51 49 false (.load none (.tmp 50)), .TG 52 49 false (.bin .gtr (.tmp 51) (cI 8)), .T 53 (.pick (.tmp 49) (.const (.bool true)) (.tmp 52)), .N 45 53]) (.cond (.tmp 45) (some 45) (.seq (.reg [] [] [.K 2 (.mv (cI 35))]) (.ret)) (.seq (.reg [] [] [.M 55 0, .M 56 3, .T 57 (.cut 2 (.tmp 55) none (some (.tmp 56))), .T 58 (.mkF 100 [.tmp 4]), .T 59 (.call 99 [.tmp 57, .tmp 58]), .N 54 59]) (.cond (.tmp 54) (some 54) (.seq (.reg [] [] [.K 2 (.mv (cI 36))]) (.ret)) (.skip))))))))))) (.reg [] [] [.T 60 (.bin .add (.tmp 11) (cI 1)), .N 11 60])))
def c83 : ACode := .seq (.reg [] [] [.K 2 (.mv (cI 0))]) (.seq (.seq (.reg [] [] [.M 6 0, .T 7 (.len (.tmp 6)), .K 8 (.bin .gtr (.tmp 7) (cI 128))]) (.cond (.tmp 8) (some 8) (.seq (.reg [] [] [.K 2 (.mv (cI 37))]) (.ret)) (.skip))) (.seq (.seq (.reg [] [] [.N 9 0, .K 10 (.len (.tmp 9)), .K 11 (.mv (cI 0))]) (.block 0 18049582882099256 (.loop b83_0))) (.seq (.reg [] [] [.K 2 (.mv (cI 0))]) (.ret))))
theorem is83 : IsF C 83 61 18049582882103101 c83 [.tmp 2] := ⟨⟨Tryd.f83, _, C_P ▸ Tryd.func83, rfl, rfl, rfl, by kernel_rfl, rfl⟩⟩
def term_CheckSig_S0 (s0 : List Symbol) (s9 : List Symbol) (s10 : Int) : Int → AHeap → St := fun s11 gt => ⟨[(0, .d (.rd (s0.map encSymbol))), (2, PI 0), (9, .d (.rd (s9.map encSymbol))), (10, PI s10), (11, PI s11)], gt⟩
def term_CheckSig_X0 (s0 : List Symbol) (s9 : List Symbol) (s10 : Int) : (Int ⊕ Int) → AExit × St → Prop
  | .inl r, q => q.1 = .ret ∧ RetOK C [.tmp 2] q.2 (PI r)
  | .inr s11, q => ∃ h1 : AHeap, q = (.exit 0, ⟨[(0, .d (.rd (s0.map encSymbol))), (2, PI 0), (9, .d (.rd (s9.map encSymbol))), (10, PI s10), (11, PI s11)], h1⟩)
set_option maxHeartbeats 4000000 in
theorem term_CheckSig_R0 (s0 : List Symbol) (s9 : List Symbol) (s10 : Int) : ∀ (s : Int) (g : AHeap) r, term_CheckSig_l0 s0 s9 s10 s = some r → Sum.elim (fun s' => ∃ g', semA C (Lim C) 18049582882103101 b83_0 (term_CheckSig_S0 s0 s9 s10 s g) = some (.normal, term_CheckSig_S0 s0 s9 s10 s' g')) (fun x => ∃ q, semA C (Lim C) 18049582882103101 b83_0 (term_CheckSig_S0 s0 s9 s10 s g) = some q ∧ q.1 ≠ .normal ∧ term_CheckSig_X0 s0 s9 s10 x q) r := by
  intro s g r hr
  have ⟨s11, hs0⟩ : ∃ y, y = s := ⟨_, rfl⟩
  subst hs0
  have ⟨gt, hg0⟩ : ∃ y, y = g := ⟨_, rfl⟩
  subst hg0
  simp only [term_CheckSig_l0] at hr
  rcases Classical.propComplete (s11 < s10) with h1 | h1
  simp only [h1, if_true] at hr
  obtain ⟨x1, h2, hr⟩ := bsome hr
  obtain ⟨x2, h3, hr⟩ := bsome hr
  have h3k := fun h => term_named_k (h := h) h3
  try simp only [go_sem] at h3k
  cases h4 : x2
  simp only [h4, Bool.false_eq_true, if_false] at hr
  rcases Classical.propComplete ((x1.Name.size : Int) = 0) with h10 | h10
  simp only [h10, if_true] at hr
  obtain rfl := Option.some.inj hr
  refine ⟨(.ret, ⟨[(0, .d (.rd (s0.map encSymbol))), (2, PI 34), (3, PI s11), (4, .ptr gt.length 0 0 0), (5, PI (x1.Name.size : Int)), (9, .d (.rd (s9.map encSymbol))), (10, PI s10), (11, PI s11)], (gt ++ (.row false 0 2 [[.d (.v (.string x1.Name)), PI x1.Arity]] :: []))⟩), ?_, nofun, rfl, [PI 34], rfl, ?_⟩
  rotate_left 2
  simp only [h10, if_false] at hr
  obtain ⟨x5, h11, hr⟩ := bsome hr
  rcases Classical.propComplete (x5 = 35) with h12 | h12
  simp only [h12, if_true] at hr
  obtain ⟨x6, h13, hr⟩ := bsome hr
  obtain ⟨x7, h14, hr⟩ := bsome hr
  have h14k := fun h => term_named_k (h := h) h14
  try simp only [go_sem] at h14k
  cases h15 : x7
  simp only [h15, Bool.false_eq_true, if_false] at hr
  obtain rfl := Option.some.inj hr
  refine ⟨(.ret, ⟨[(0, .d (.rd (s0.map encSymbol))), (2, PI 34), (3, PI s11), (4, .ptr gt.length 0 0 0), (5, PI (x1.Name.size : Int)), (9, .d (.rd (s9.map encSymbol))), (10, PI s10), (11, PI s11)], (gt ++ (.row false 0 2 [[.d (.v (.string x1.Name)), PI x1.Arity]] :: []))⟩), ?_, nofun, rfl, [PI 34], rfl, ?_⟩
  rotate_left 2
  simp only [h15, if_true] at hr
  rcases Classical.propComplete (x1.Arity < 0) with h16 | h16
  simp only [h16, if_true] at hr
  obtain rfl := Option.some.inj hr
  refine ⟨(.ret, ⟨[(0, .d (.rd (s0.map encSymbol))), (2, PI 35), (3, PI s11), (4, .ptr gt.length 0 0 0), (5, PI (x1.Name.size : Int)), (9, .d (.rd (s9.map encSymbol))), (10, PI s10), (11, PI s11)], (gt ++ (.row false 0 2 [[.d (.v (.string x1.Name)), PI x1.Arity]] :: []))⟩), ?_, nofun, rfl, [PI 35], rfl, ?_⟩
  rotate_left 2
  simp only [h16, if_false] at hr
  rcases Classical.propComplete (8 < x1.Arity) with h17 | h17
  simp only [h17, if_true] at hr
  obtain rfl := Option.some.inj hr
  refine ⟨(.ret, ⟨[(0, .d (.rd (s0.map encSymbol))), (2, PI 35), (3, PI s11), (4, .ptr gt.length 0 0 0), (5, PI (x1.Name.size : Int)), (9, .d (.rd (s9.map encSymbol))), (10, PI s10), (11, PI s11)], (gt ++ (.row false 0 2 [[.d (.v (.string x1.Name)), PI x1.Arity]] :: []))⟩), ?_, nofun, rfl, [PI 35], rfl, ?_⟩
  rotate_left 2
  simp only [h17, if_false] at hr
  obtain ⟨x8, h18, hr⟩ := bsome hr
  obtain ⟨x9, h19, hr⟩ := bsome hr
  have h19k := fun h args ha => slices_ContainsFunc_s_api_Symbol_api_Symbol_on_term_CheckSig_c1_o (h := h) (args := args) h19 ha
  try simp only [go_sem] at h19k
  cases h20 : x9
  simp only [h20, Bool.false_eq_true, if_false] at hr
  obtain rfl := Option.some.inj hr
  refine ⟨(gt ++ (.row false 0 2 [[.d (.v (.string x1.Name)), PI x1.Arity]] :: [])), ?_⟩
  rotate_left
  simp only [h20, if_true] at hr
  obtain rfl := Option.some.inj hr
  refine ⟨(.ret, ⟨[(0, .d (.rd (s0.map encSymbol))), (2, PI 36), (3, PI s11), (4, .ptr gt.length 0 0 0), (5, PI (x1.Name.size : Int)), (9, .d (.rd (s9.map encSymbol))), (10, PI s10), (11, PI s11)], (gt ++ (.row false 0 2 [[.d (.v (.string x1.Name)), PI x1.Arity]] :: []))⟩), ?_, nofun, rfl, [PI 36], rfl, ?_⟩
  rotate_left 2
  simp only [h12, if_false] at hr
  obtain rfl := Option.some.inj hr
  refine ⟨(.ret, ⟨[(0, .d (.rd (s0.map encSymbol))), (2, PI 34), (3, PI s11), (4, .ptr gt.length 0 0 0), (5, PI (x1.Name.size : Int)), (9, .d (.rd (s9.map encSymbol))), (10, PI s10), (11, PI s11)], (gt ++ (.row false 0 2 [[.d (.v (.string x1.Name)), PI x1.Arity]] :: []))⟩), ?_, nofun, rfl, [PI 34], rfl, ?_⟩
  rotate_left 2
  simp only [h4, if_true] at hr
  rcases Classical.propComplete (x1.Arity < 0) with h5 | h5
  simp only [h5, if_true] at hr
  obtain rfl := Option.some.inj hr
  refine ⟨(.ret, ⟨[(0, .d (.rd (s0.map encSymbol))), (2, PI 35), (3, PI s11), (4, .ptr gt.length 0 0 0), (5, PI (x1.Name.size : Int)), (9, .d (.rd (s9.map encSymbol))), (10, PI s10), (11, PI s11)], (gt ++ (.row false 0 2 [[.d (.v (.string x1.Name)), PI x1.Arity]] :: []))⟩), ?_, nofun, rfl, [PI 35], rfl, ?_⟩
  rotate_left 2
  simp only [h5, if_false] at hr
  rcases Classical.propComplete (8 < x1.Arity) with h6 | h6
  simp only [h6, if_true] at hr
  obtain rfl := Option.some.inj hr
  refine ⟨(.ret, ⟨[(0, .d (.rd (s0.map encSymbol))), (2, PI 35), (3, PI s11), (4, .ptr gt.length 0 0 0), (5, PI (x1.Name.size : Int)), (9, .d (.rd (s9.map encSymbol))), (10, PI s10), (11, PI s11)], (gt ++ (.row false 0 2 [[.d (.v (.string x1.Name)), PI x1.Arity]] :: []))⟩), ?_, nofun, rfl, [PI 35], rfl, ?_⟩
  rotate_left 2
  simp only [h6, if_false] at hr
  obtain ⟨x3, h7, hr⟩ := bsome hr
  obtain ⟨x4, h8, hr⟩ := bsome hr
  have h8k := fun h args ha => slices_ContainsFunc_s_api_Symbol_api_Symbol_on_term_CheckSig_c1_o (h := h) (args := args) h8 ha
  try simp only [go_sem] at h8k
  cases h9 : x4
  simp only [h9, Bool.false_eq_true, if_false] at hr
  obtain rfl := Option.some.inj hr
  refine ⟨(gt ++ (.row false 0 2 [[.d (.v (.string x1.Name)), PI x1.Arity]] :: [])), ?_⟩
  rotate_left
  simp only [h9, if_true] at hr
  obtain rfl := Option.some.inj hr
  refine ⟨(.ret, ⟨[(0, .d (.rd (s0.map encSymbol))), (2, PI 36), (3, PI s11), (4, .ptr gt.length 0 0 0), (5, PI (x1.Name.size : Int)), (9, .d (.rd (s9.map encSymbol))), (10, PI s10), (11, PI s11)], (gt ++ (.row false 0 2 [[.d (.v (.string x1.Name)), PI x1.Arity]] :: []))⟩), ?_, nofun, rfl, [PI 36], rfl, ?_⟩
  rotate_left 2
  simp only [h1, if_false] at hr
  obtain rfl := Option.some.inj hr
  refine ⟨(.exit 0, ⟨[(0, .d (.rd (s0.map encSymbol))), (2, PI 0), (9, .d (.rd (s9.map encSymbol))), (10, PI s10), (11, PI s11)], gt⟩), ?_, nofun, gt, rfl⟩
  rotate_left
  all_goals (simp (config := {decide := true}) only [go_sem, Int.reduceToNat, Nat.reduceAdd, Nat.reduceLT, Nat.reduceMul, Nat.reducePow, reduceCtorEq, term_CheckSig_S0, b83_0, *])
theorem term_CheckSig_L0 {s0 : List Symbol} {s9 : List Symbol} {s10 : Int} {s : Int} {g : AHeap} {x} (h : wh (term_CheckSig_l0 s0 s9 s10) s = some x) : ∃ q, loopLim (semA C (Lim C) 18049582882103101 b83_0) (term_CheckSig_S0 s0 s9 s10 s g) = some q ∧ term_CheckSig_X0 s0 s9 s10 x q := wh_sim (term_CheckSig_R0 s0 s9 s10) h
set_option maxHeartbeats 4000000 in
theorem term_CheckSig_R {a0 : List Symbol} {r : Int} (hr : term_CheckSig a0 = some r) : ∃ p hp, Lim C 83 [.d (.rd (a0.map encSymbol))] [] = some (p, hp) ∧ rsT hp p = some (PI r) := by
  simp only [term_CheckSig] at hr
  rcases Classical.propComplete (128 < (a0.length : Int)) with h1 | h1
  simp only [h1, if_true] at hr
  obtain rfl := Option.some.inj hr
  refine run_ok is83 (Nat.le_of_ble_eq_true rfl) (q := (.ret, ⟨[(0, .d (.rd (a0.map encSymbol))), (2, PI 37)], []⟩)) ?_ (.inr rfl) ⟨[PI 37], rfl, ?_⟩
  rotate_left 2
  simp only [h1, if_false] at hr
  obtain ⟨x10, h2, hr⟩ := bsome hr
  obtain ⟨q2, h2L, h2X⟩ := term_CheckSig_L0 (g := []) h2
  rcases x10 with x11 | x12
  simp only [term_CheckSig_X0, term_CheckSig_S0] at h2X h2L
  obtain ⟨e2, st2⟩ := q2
  obtain ⟨rfl, h2R⟩ := h2X
  try simp only [go_sem, Nat.reduceAdd] at h2L
  obtain rfl := Option.some.inj hr
  refine run_ok is83 (Nat.le_of_ble_eq_true rfl) ?_ (.inr rfl) h2R
  rotate_left
  simp only [term_CheckSig_X0, term_CheckSig_S0] at h2X h2L
  obtain ⟨z13, rfl⟩ := h2X
  try simp only [go_sem, Nat.reduceAdd] at h2L
  obtain rfl := Option.some.inj hr
  refine run_ok is83 (Nat.le_of_ble_eq_true rfl) (q := (.ret, ⟨[(0, .d (.rd (a0.map encSymbol))), (2, PI 0), (9, .d (.rd (a0.map encSymbol))), (10, PI (a0.length : Int)), (11, PI x12)], z13⟩)) ?_ (.inr rfl) ⟨[PI 0], rfl, ?_⟩
  rotate_left 2
  all_goals (simp (config := {decide := true}) only [go_sem, Int.reduceToNat, Nat.reduceAdd, Nat.reduceLT, Nat.reduceMul, Nat.reducePow, reduceCtorEq, callEnv, c83, *])
theorem term_CheckSig_k {a0 : List Symbol} {r : Int} (hr : term_CheckSig a0 = some r) {h : AHeap} : callP C (Lim C) 83 [.d (.rd (a0.map encSymbol))] h = some (PI r, h) := call_of (ds := [.rd (a0.map encSymbol)]) rfl rfl rfl (term_CheckSig_R hr) h
def c101_r16 : ACode := .reg [] [] [.K 89 (.bin .lss (.tmp 88) (.tmp 87))]
def c101_r17 : ACode := .reg [] [] [.M 90 0, .T 91 (.call 101 [.tmp 90]), .N 5 91]
def c101_r18 : ACode := .reg [] [] [.M 92 4, .M 93 4, .T 94 (.nilC (.tmp 93)), .T 95 (.fa 2 (.tmp 94)), .T 96 (.load none (.tmp 95)), .M 97 5, .T 98 (.lit 1 [(0, .tmp 97)]), .T 99 (.app 1 16 (.tmp 96) (.tmp 98)), .T 100 (.nilC (.tmp 92)), .T 101 (.fa 2 (.tmp 100)), ⟨none, .store 1 (.tmp 101) (.tmp 99), none, false, false⟩]
def c101_r19 : ACode := .reg [] [] [.M 102 4, .T 103 (.nilC (.tmp 102)), .T 104 (.fa 1 (.tmp 103)), ⟨some (105, false), .load none (.tmp 104), none, true, false⟩, .M 106 5, ⟨some (107, false), .inv (.tmp 106) "lodestone/term.size" [], none, true, false⟩, .T 108 (.bin .add (.tmp 105) (.tmp 107)), .T 109 (.nilC (.tmp 102)), .T 110 (.fa 1 (.tmp 109)), ⟨none, .store 1 (.tmp 110) (.tmp 108), none, false, false⟩]
def c101_r20 : ACode := .reg [] [] [.T 111 (.bin .add (.tmp 88) (cI 1)), .N 88 111]
def c101_r0 : ACode := .reg [] [] [.K 2 (.mv (.const Go.Value.nilIface))]
def c101_r1 : ACode := .reg [] [] [.M 7 0, .T 8 (.nilC (.tmp 7)), .T 9 (.fa 3 (.tmp 8)), .T 10 (.load none (.tmp 9)), .T 11 (.bin .neq (.tmp 10) (cI 0)), .N 6 11]
def c101_r2 : ACode := .reg [] [] [.T 12 (.mkI 147 (cI 0)), .N 2 12]
def c101_r3 : ACode := .reg [] [] [.M 14 0, .T 15 (.nilC (.tmp 14)), .T 16 (.fa 2 (.tmp 15)), ⟨some (17, false), .load none (.tmp 16), none, true, false⟩, .M 18 0, .T 19 (.nilC (.tmp 18)), .T 20 (.fa 1 (.tmp 19)), ⟨some (21, false), .load none (.tmp 20), none, true, false⟩, ⟨some (22, false), .len (.tmp 21), none, true, false⟩, .T 23 (.bin .eql (.tmp 17) (.tmp 22)), .N 13 23]
def c101_r4 : ACode := .reg [] [] [.M 24 0, .T 25 (.nilC (.tmp 24)), .T 26 (.fa 3 (.tmp 25)), ⟨none, .store 1 (.tmp 26) (cI 31), none, false, false⟩]
def c101_r5 : ACode := .reg [] [] [.T 27 (.mkI 147 (cI 0)), .N 2 27]
def c101_r6 : ACode := .reg [] [] [.M 28 0, .T 29 (.nilC (.tmp 28)), .T 30 (.fa 1 (.tmp 29)), ⟨some (31, false), .load none (.tmp 30), none, true, false⟩, .M 32 0, .T 33 (.nilC (.tmp 32)), .T 34 (.fa 2 (.tmp 33)), ⟨some (35, false), .load none (.tmp 34), none, true, false⟩, ⟨some (36, false), .ix 1 (.tmp 31) (.tmp 35), none, true, false⟩, ⟨some (37, false), .load none (.tmp 36), none, true, false⟩, .N 3 37]
def c101_r7 : ACode := .reg [] [] [.M 39 3, .M 40 0, .T 41 (.nilC (.tmp 40)), .T 42 (.fa 0 (.tmp 41)), .T 43 (.load none (.tmp 42)), .T 44 (.len (.tmp 43)), .T 45 (.bin .geq (.tmp 39) (.tmp 44)), .M 46 45, .MG 47 46 false 3, .TG 48 46 false (.bin .lss (.tmp 47) (cI (-1048576))), .T 49 (.pick (.tmp 46) (.const (.bool true)) (.tmp 48)), .N 38 49]
def c101_r8 : ACode := .reg [] [] [.M 50 0, .T 51 (.nilC (.tmp 50)), .T 52 (.fa 3 (.tmp 51)), ⟨none, .store 1 (.tmp 52) (cI 30), none, false, false⟩]
def c101_r9 : ACode := .reg [] [] [.T 53 (.mkI 147 (cI 0)), .N 2 53]
def c101_r10 : ACode := .reg [] [] [.M 55 3, .T 56 (.bin .lss (.tmp 55) (cI 0)), .N 54 56]
def c101_r11 : ACode := .reg [] [] [.M 57 0, .T 58 (.nilC (.tmp 57)), .T 59 (.fa 2 (.tmp 58)), .T 60 (.load none (.tmp 59)), .T 61 (.bin .add (.tmp 60) (cI 1)), .T 62 (.nilC (.tmp 57)), .T 63 (.fa 2 (.tmp 62)), ⟨none, .store 1 (.tmp 63) (.tmp 61), none, false, false⟩]
def c101_r12 : ACode := .reg [] [] [.M 64 3, .T 65 (.bin .sub (cI (-1)) (.tmp 64)), .T 66 (.mkI 147 (.tmp 65)), .N 2 66]
def c101_r13 : ACode := .reg [] [] [.M 67 0, .T 68 (.nilC (.tmp 67)), .T 69 (.fa 2 (.tmp 68)), .T 70 (.load none (.tmp 69)), .T 71 (.build [(0, 1), (1, 1), (2, 1)] [.d (.v (.int .i64 0)), .d (.v (.int .i64 0)), .im true []] [(0, .tmp 70), (1, .const (.int .i64 1))]), .T 72 (.box (.tmp 71)), .N 4 72]
def c101_r14 : ACode := .reg [] [] [.M 73 0, .T 74 (.nilC (.tmp 73)), .T 75 (.fa 2 (.tmp 74)), .T 76 (.load none (.tmp 75)), .T 77 (.bin .add (.tmp 76) (cI 1)), .T 78 (.nilC (.tmp 73)), .T 79 (.fa 2 (.tmp 78)), ⟨none, .store 1 (.tmp 79) (.tmp 77), none, false, false⟩]
def c101_r15 : ACode := .reg [] [] [.M 80 0, .T 81 (.nilC (.tmp 80)), .T 82 (.fa 0 (.tmp 81)), .T 83 (.load none (.tmp 82)), .M 84 3, .T 85 (.ix 2 (.tmp 83) (.tmp 84)), .T 86 (.fa 1 (.tmp 85)), .K 87 (.load none (.tmp 86)), .K 88 (.mv (cI 0))]
def c101_r21 : ACode := .reg [] [] [.M 112 4, .T 113 (.mkI 148 (.tmp 112)), .N 2 113]
def b101_0 : ACode := .seq (c101_r16) (.seq (.cond (.tmp 89) (some 89) (.skip) (.exit 2)) (.seq (.block 3 618970019642690137449562144 (.seq (c101_r17) (.seq (c101_r18) (c101_r19)))) (c101_r20)))
def c101 : ACode := .seq (c101_r0) (.seq (.block 0 8256 (.seq (c101_r1) (.cond (.tmp 6) (some 6) (.seq (c101_r2) (.ret)) (.seq (c101_r3) (.cond (.tmp 13) (some 13) (.seq (c101_r4) (.seq (c101_r5) (.ret))) (.skip)))))) (.seq (c101_r6) (.seq (.block 1 18014673387388928 (.seq (c101_r7) (.cond (.tmp 38) (some 38) (.seq (c101_r8) (.seq (c101_r9) (.ret))) (.seq (c101_r10) (.cond (.tmp 54) (some 54) (.seq (c101_r11) (.seq (c101_r12) (.ret))) (.skip)))))) (.seq (c101_r13) (.seq (c101_r14) (.seq (.seq (c101_r15) (.block 2 618970019642690137449562144 (.loop b101_0))) (.seq (c101_r21) (.ret))))))))
theorem is101 : IsF C 101 114 1083197534392722413924130941 c101 [.tmp 2] := ⟨⟨Tryd.f101, _, C_P ▸ Tryd.func101, rfl, rfl, rfl, by kernel_rfl, rfl⟩⟩
def c131_r0 : ACode := .reg [] [] [.K 2 (.mv (cI 0))]
def c131_r1 : ACode := .reg [] [] [.K 2 (.mv (cI 1))]
def c131 : ACode := .seq (c131_r0) (.seq (c131_r1) (.ret))
theorem is131 : IsF C 131 3 4 c131 [.tmp 2] := ⟨⟨Tryd.f131, _, C_P ▸ Tryd.func131, rfl, rfl, rfl, by kernel_rfl, rfl⟩⟩
def c132_r0 : ACode := .reg [] [] [.K 2 (.mv (cI 0))]
def c132_r1 : ACode := .reg [] [] [.M 3 0, .T 4 (.nilC (.tmp 3)), .T 5 (.fa 1 (.tmp 4)), .T 6 (.load none (.tmp 5)), .N 2 6]
def c132 : ACode := .seq (c132_r0) (.seq (c132_r1) (.ret))
theorem is132 : IsF C 132 7 5 c132 [.tmp 2] := ⟨⟨Tryd.f132, _, C_P ▸ Tryd.func132, rfl, rfl, rfl, by kernel_rfl, rfl⟩⟩
def c84_r0 : ACode := .reg [] [] [.K 4 (.mv (.const Go.Value.nilIface)), .K 5 (.mv (cI 0))]
def c84_r1 : ACode := .reg [] [] [.M 8 0, .M 9 1, .T 10 (.build [(0, 1), (1, 1), (2, 1), (3, 1)] [.im true [], .im true [], .d (.v (.int .i64 0)), .d (.v (.int .i64 0))] [(0, .tmp 8), (1, .tmp 9)]), .T 11 (.box (.tmp 10)), .N 6 11]
def c84_r2 : ACode := .reg [] [] [.M 12 6, .T 13 (.call 101 [.tmp 12]), .N 7 13]
def c84_r3 : ACode := .reg [] [] [.M 14 6, .T 15 (.nilC (.tmp 14)), .T 16 (.fa 3 (.tmp 15)), .T 17 (.load none (.tmp 16)), .T 18 (.bin .eql (.tmp 17) (cI 0)), .M 19 18, .MG 20 19 true 6, .TG 21 19 true (.nilC (.tmp 20)), .TG 22 19 true (.fa 2 (.tmp 21)), .TG 23 19 true (.load none (.tmp 22)), .MG 24 19 true 1, .TG 25 19 true (.len (.tmp 24)), .TG 26 19 true (.bin .lss (.tmp 23) (.tmp 25)), .K 27 (.pick (.tmp 19) (.tmp 26) (.const (.bool false)))]
def c84_r4 : ACode := .reg [] [] [.M 28 6, .T 29 (.nilC (.tmp 28)), .T 30 (.fa 3 (.tmp 29)), ⟨none, .store 1 (.tmp 30) (cI 32), none, false, false⟩]
def c84_r5 : ACode := .reg [] [] [.M 31 7, .M 32 6, .T 33 (.nilC (.tmp 32)), .T 34 (.fa 3 (.tmp 33)), ⟨some (35, false), .load none (.tmp 34), none, true, false⟩, .N 4 31, .N 5 35]
def c84 : ACode := .seq (c84_r0) (.seq (c84_r1) (.seq (c84_r2) (.seq (.seq (c84_r3) (.cond (.tmp 27) (some 27) (c84_r4) (.skip))) (.seq (c84_r5) (.ret)))))
theorem is84 : IsF C 84 36 134217971 c84 [.tmp 4, .tmp 5] := ⟨⟨Tryd.f84, _, C_P ▸ Tryd.func84, rfl, rfl, rfl, by kernel_rfl, rfl⟩⟩
def c63_r0 : ACode := .reg [] [] [.K 4 (.mv (.const Go.Value.nilIface)), .K 5 (.mv (cI 0))]
def c63_r1 : ACode := .reg [] [] [.M 7 0, .T 8 (.call 83 [.tmp 7]), .N 6 8]
def c63_r2 : ACode := .reg [] [] [.M 9 6, .K 10 (.bin .neq (.tmp 9) (cI 0))]
def c63_r3 : ACode := .reg [] [] [.M 11 6, .K 4 (.mv (.const Go.Value.nilIface)), .N 5 11]
def c63_r4 : ACode := .reg [] [] [.M 12 0, .M 13 1, .T 14 (.call 84 [.tmp 12, .tmp 13]), .T 15 (.ext (.tmp 14) 0), .T 16 (.ext (.tmp 14) 1), .N 4 15, .N 5 16]
def c63 : ACode := .seq (c63_r0) (.seq (.seq (c63_r1) (.seq (c63_r2) (.cond (.tmp 10) (some 10) (.seq (c63_r3) (.ret)) (.skip)))) (.seq (c63_r4) (.ret)))
theorem is63 : IsF C 63 17 1139 c63 [.tmp 4, .tmp 5] := ⟨⟨Tryd.f63, _, C_P ▸ Tryd.func63, rfl, rfl, rfl, by kernel_rfl, rfl⟩⟩
section
variable {sig : List Symbol} {t : List Int} {h : AHeap} {r : Nat}
abbrev RO (sig : List Symbol) (t : List Int) (a b : Int) : AObj := .row false 0 4 [[.d (.rd (sig.map encSymbol)), .d (.rd (t.map intD)), PI a, PI b]]
theorem meth_leaf : methodP C.P 147 "lodestone/term.size" = some 131 := by kernel_rfl
theorem meth_inner : methodP C.P 148 "lodestone/term.size" = some 132 := by kernel_rfl
theorem leaf_size {n : Int} {h : AHeap} : callP C (Lim C) 131 [PI n] h = some (PI 1, h) := by
  refine call_of (ds := [.v (.int .i64 n)]) rfl rfl rfl ?_ h
  refine run_ok is131 (Nat.le_of_ble_eq_true rfl) (q := (.ret, ⟨[(2, PI 1)], []⟩)) ?_ (.inr rfl) ⟨[PI 1], rfl, rfl⟩
  simp (config := {decide := true}) only [c131, c131_r0, c131_r1, callEnv, go_sem, Int.reduceToNat, Nat.reduceAdd, Nat.reduceLT, Nat.reduceMul, Nat.reducePow, reduceCtorEq]
theorem inner_size {id : Nat} {a b : Int} {K : PV} (ho : h[id]? = some (.row false 0 3 [[PI a, PI b, K]])) : callP C (Lim C) 132 [.ptr id 0 0 0] h = some (PI b, h) := by
  have e : callP C (Lim C) 132 [.ptr id 0 0 0] h = Lim C 132 [.ptr id 0 0 0] h := rfl
  rw [e]
  refine Lim_A is132 (Nat.le_of_ble_eq_true rfl) (env := [(0, .ptr id 0 0 0), (2, PI b)]) (e := .ret) ?_ (.inr rfl) (vs := [PI b]) rfl
  simp (config := {decide := true}) only [c132, c132_r0, c132_r1, callEnv, go_sem, Int.reduceToNat, Nat.reduceAdd, Nat.reduceLT, Nat.reduceMul, Nat.reducePow, reduceCtorEq, opNil, ho]
abbrev Lf (n : Int) : PV := .ifc 147 (PI n)
abbrev rdr (r : Nat) : PV := .ptr r 0 0 0
theorem rdA {a b : Int} (ho : h[r]? = some (RO sig t a b)) (hb : b ≠ 0) : Lim C 101 [rdr r] h = some (Lf 0, h) := by
  have hb' : (b = 0) = False := eq_false hb
  refine Lim_A is101 (Nat.le_of_ble_eq_true rfl) (env := [(0, rdr r), (2, Lf 0)]) (e := .ret) ?_ (.inr rfl) (vs := [Lf 0]) rfl
  simp (config := {decide := true}) only [c101, c101_r0, c101_r1, c101_r2, c101_r3, c101_r4, c101_r5, c101_r6, c101_r7, c101_r8, c101_r9, c101_r10, c101_r11, c101_r12, c101_r13, c101_r14, c101_r15, c101_r16, c101_r17, c101_r18, c101_r19, c101_r20, c101_r21, callEnv, go_sem, Int.reduceToNat, Nat.reduceAdd, Nat.reduceLT, Nat.reduceMul, Nat.reducePow, reduceCtorEq, opNil, ho, hb']
theorem rdB {a : Int} (ho : h[r]? = some (RO sig t a 0)) (ha : a = (t.length : Int)) : Lim C 101 [rdr r] h = some (Lf 0, h.set r (RO sig t a 31)) := by
  have ha' : (a = (t.length : Int)) = True := eq_true ha
  refine Lim_A is101 (Nat.le_of_ble_eq_true rfl) (env := [(0, rdr r), (2, Lf 0)]) (e := .ret) ?_ (.inr rfl) (vs := [Lf 0]) rfl
  simp (config := {decide := true}) only [c101, c101_r0, c101_r1, c101_r2, c101_r3, c101_r4, c101_r5, c101_r6, c101_r7, c101_r8, c101_r9, c101_r10, c101_r11, c101_r12, c101_r13, c101_r14, c101_r15, c101_r16, c101_r17, c101_r18, c101_r19, c101_r20, c101_r21, callEnv, go_sem, Int.reduceToNat, Nat.reduceAdd, Nat.reduceLT, Nat.reduceMul, Nat.reducePow, reduceCtorEq, opNil, ho, ha']
theorem rdC {a c : Int} (ho : h[r]? = some (RO sig t a 0)) (ha : a ≠ (t.length : Int)) (hx : idx t a = some c) (hc : (sig.length : Int) ≤ c ∨ c < -1048576) : Lim C 101 [rdr r] h = some (Lf 0, h.set r (RO sig t a 30)) := by
  have ha' : (a = (t.length : Int)) = False := eq_false ha
  refine Lim_A is101 (Nat.le_of_ble_eq_true rfl) (env := [(0, rdr r), (2, Lf 0), (3, PI c)]) (e := .ret) ?_ (.inr rfl) (vs := [Lf 0]) rfl
  rcases Classical.propComplete ((sig.length : Int) ≤ c) with h1 | h1
  · simp (config := {decide := true}) only [c101, c101_r0, c101_r1, c101_r2, c101_r3, c101_r4, c101_r5, c101_r6, c101_r7, c101_r8, c101_r9, c101_r10, c101_r11, c101_r12, c101_r13, c101_r14, c101_r15, c101_r16, c101_r17, c101_r18, c101_r19, c101_r20, c101_r21, callEnv, go_sem, Int.reduceToNat, Nat.reduceAdd, Nat.reduceLT, Nat.reduceMul, Nat.reducePow, reduceCtorEq, opNil, ho, ha', hx, h1]
  · have h2 : (c < -1048576) = True := eq_true (hc.resolve_left (of_eq_false h1))
    simp (config := {decide := true}) only [c101, c101_r0, c101_r1, c101_r2, c101_r3, c101_r4, c101_r5, c101_r6, c101_r7, c101_r8, c101_r9, c101_r10, c101_r11, c101_r12, c101_r13, c101_r14, c101_r15, c101_r16, c101_r17, c101_r18, c101_r19, c101_r20, c101_r21, callEnv, go_sem, Int.reduceToNat, Nat.reduceAdd, Nat.reduceLT, Nat.reduceMul, Nat.reducePow, reduceCtorEq, opNil, ho, ha', hx, h1, h2]
theorem rdD {a c : Int} (ho : h[r]? = some (RO sig t a 0)) (ha : a ≠ (t.length : Int)) (hx : idx t a = some c) (hc : ¬ ((sig.length : Int) ≤ c ∨ c < -1048576)) (hn : c < 0) : Lim C 101 [rdr r] h = some (Lf (w64 (-1 - c)), h.set r (RO sig t (w64 (a + 1)) 0)) := by
  have ha' : (a = (t.length : Int)) = False := eq_false ha
  have h1 : ((sig.length : Int) ≤ c) = False := eq_false fun e => hc (.inl e)
  have h2 : (c < -1048576) = False := eq_false fun e => hc (.inr e)
  have h3 : (c < 0) = True := eq_true hn
  refine Lim_A is101 (Nat.le_of_ble_eq_true rfl) (env := [(0, rdr r), (2, Lf (w64 (-1 - c))), (3, PI c)]) (e := .ret) ?_ (.inr rfl) (vs := [Lf (w64 (-1 - c))]) rfl
  simp (config := {decide := true}) only [c101, c101_r0, c101_r1, c101_r2, c101_r3, c101_r4, c101_r5, c101_r6, c101_r7, c101_r8, c101_r9, c101_r10, c101_r11, c101_r12, c101_r13, c101_r14, c101_r15, c101_r16, c101_r17, c101_r18, c101_r19, c101_r20, c101_r21, callEnv, go_sem, Int.reduceToNat, Nat.reduceAdd, Nat.reduceLT, Nat.reduceMul, Nat.reducePow, reduceCtorEq, opNil, ho, ha', hx, h1, h2, h3]
abbrev St5 (r X : Nat) (c ar j : Int) (h : AHeap) : St := ⟨[(0, rdr r), (2, .d (.v .nilIface)), (3, PI c), (4, .ptr X 0 0 0), (87, PI ar), (88, PI j)], h⟩
abbrev St6 (r X : Nat) (c ar j : Int) (x : PV) (h : AHeap) : St := ⟨[(0, rdr r), (2, .d (.v .nilIface)), (3, PI c), (4, .ptr X 0 0 0), (5, x), (87, PI ar), (88, PI j)], h⟩
abbrev In (id : Nat) : PV := .ifc 148 (.ptr id 0 0 0)
abbrev XO (a n : Int) (K : PV) : AObj := .row false 0 3 [[PI a, PI n, K]]
inductive SizeOk (h : AHeap) : PV → Int → Prop where
  | leaf (n : Int) : SizeOk h (Lf n) 1
  | inner (id : Nat) (a s : Int) (K : PV) (ho : h[id]? = some (XO a s K)) : SizeOk h (In id) s
theorem rd17 {X : Nat} {c ar j : Int} {x : PV} {h1 : AHeap} (hc : Lim C 101 [rdr r] h = some (x, h1)) : semA C (Lim C) 1083197534392722413924130941 c101_r17 (St5 r X c ar j h) = some (.normal, St6 r X c ar j x h1) := by
  have e : callP C (Lim C) 101 [rdr r] h = some (x, h1) := hc
  simp (config := {decide := true}) only [c101_r17, go_sem, Int.reduceToNat, Nat.reduceAdd, Nat.reduceLT, Nat.reduceMul, Nat.reducePow, reduceCtorEq, e]
theorem rd18a {X : Nat} {c ar j a n s : Int} {x : PV} (hx : SizeOk h x s) (ho : h[X]? = some (XO a n (.im true []))) : semA C (Lim C) 1083197534392722413924130941 c101_r18 (St6 r X c ar j x h) = some (.normal, St6 r X c ar j x ((h ++ [AObj.row false 0 1 [[x]]]).set X (XO a n (.ref h.length 0 0 1)))) := by
  have hlt := (List.getElem?_eq_some_iff.1 ho).1
  have ho2 : ∀ o, (h ++ [o])[X]? = some (XO a n (.im true [])) := fun o => by rw [List.getElem?_append_left hlt]; exact ho
  cases hx <;> simp (config := {decide := true}) only [c101_r18, go_sem, Int.reduceToNat, Nat.reduceAdd, Nat.reduceLT, Nat.reduceMul, Nat.reducePow, reduceCtorEq, opNil, ho, ho2]
theorem rd18b {X kid v : Nat} {c ar j a n s : Int} {x : PV} {es : List (List PV)} (hx : SizeOk h x s) (ho : h[X]? = some (XO a n (.ref kid v 0 es.length))) (hk : h[kid]? = some (.row false v 1 es)) (hne : X ≠ kid) (hb : (es.length + 1) * 16 ≤ 140737488355328) :
    semA C (Lim C) 1083197534392722413924130941 c101_r18 (St6 r X c ar j x h) = some (.normal, St6 r X c ar j x ((h.set kid (.row false (v + 1) 1 (es ++ [[x]]))).set X (XO a n (.ref kid (v + 1) 0 (es ++ [[x]]).length)))) := by
  have hb' := eq_true hb
  have ho2 : ∀ o, (h.set kid o)[X]? = some (XO a n (.ref kid v 0 es.length)) := fun o => by rw [List.getElem?_set_ne (Ne.symm hne)]; exact ho
  cases hx <;> simp (config := {decide := true}) only [c101_r18, go_sem, Int.reduceToNat, Nat.reduceAdd, Nat.reduceLT, Nat.reduceMul, Nat.reducePow, reduceCtorEq, opNil, ho, ho2, hk, hb', List.take_length]
theorem rd19 {X : Nat} {c ar j a n s : Int} {K x : PV} (hx : SizeOk h x s) (ho : h[X]? = some (XO a n K)) : semA C (Lim C) 1083197534392722413924130941 c101_r19 (St6 r X c ar j x h) = some (.normal, St6 r X c ar j x (h.set X (XO a (w64 (n + s)) K))) := by
  cases hx with
  | leaf m => simp (config := {decide := true}) only [c101_r19, go_sem, Int.reduceToNat, Nat.reduceAdd, Nat.reduceLT, Nat.reduceMul, Nat.reducePow, reduceCtorEq, opNil, ho, meth_leaf, leaf_size]
  | inner id a' s K' hi => simp (config := {decide := true}) only [c101_r19, go_sem, Int.reduceToNat, Nat.reduceAdd, Nat.reduceLT, Nat.reduceMul, Nat.reducePow, reduceCtorEq, opNil, ho, meth_inner, inner_size hi]
theorem rdT_drop (l : List Int) : ∀ k, ∃ m, m ≤ l.length ∧ (rdT sig l k).1 = l.drop m := by
  induction l with
  | nil => intro k; cases k <;> exact ⟨0, Nat.le_refl _, rfl⟩
  | cons c l ih =>
    intro k
    cases k with
    | zero => exact ⟨0, Nat.zero_le _, rfl⟩
    | succ k =>
      rw [rdT]
      split
      · exact ⟨0, Nat.zero_le _, rfl⟩
      · obtain ⟨m, h1, h2⟩ := ih (k + arOf sig c)
        exact ⟨m + 1, by simp; omega, by rw [h2, List.drop_succ_cons]⟩
theorem rdT_add (l : List Int) : ∀ j k, rdT sig l (j + k) = if (rdT sig l j).2 = 0 then rdT sig (rdT sig l j).1 k else rdT sig l j := by
  induction l with
  | nil =>
    intro j k
    cases j with
    | zero => rw [Nat.zero_add]; rfl
    | succ j => rw [show j + 1 + k = (j + k) + 1 by omega]; rfl
  | cons c l ih =>
    intro j k
    cases j with
    | zero => rw [Nat.zero_add]; rfl
    | succ j =>
      rw [show j + 1 + k = (j + k) + 1 by omega, rdT, rdT]
      by_cases hc : (sig.length : Int) ≤ c ∨ c < -1048576
      · simp only [if_pos hc]; rfl
      · simp only [if_neg hc]
        rw [show j + k + arOf sig c = (j + arOf sig c) + k by omega]
        exact ih _ _
inductive KV (S : Nat → Prop) (h : AHeap) : PV → List PV → Prop where
  | none : KV S h (.im true []) []
  | row (kid v : Nat) (ks : List PV) (hS : S kid) (ho : h[kid]? = some (.row false v 1 (ks.map fun x => [x]))) : KV S h (.ref kid v 0 ks.length) ks
inductive Forest (sig : List Symbol) (t : List Int) (S : Nat → Prop) (h : AHeap) : List PV → Nat → Nat → Prop where
  | nil (i : Nat) : Forest sig t S h [] i i
  | leaf (xs : List PV) (i e : Nat) (c : Int) (hc : t[i]? = some c) (hn : c < 0) (hf : Forest sig t S h xs (i + 1) e) : Forest sig t S h (Lf (w64 (-1 - c)) :: xs) i e
  | node (xs ks : List PV) (i j e c id : Nat) (s : Symbol) (K : PV) (hc : t[i]? = some (c : Int)) (hs : sig[c]? = some s) (hS : S id) (ho : h[id]? = some (XO i ((j : Int) - i) K)) (hK : KV S h K ks) (hl : ks.length = s.Arity.toNat)
      (hk : Forest sig t S h ks (i + 1) j) (hf : Forest sig t S h xs j e) : Forest sig t S h (In id :: xs) i e
theorem KV.mono {S S' : Nat → Prop} {h h' : AHeap} (hh : ∀ id, S id → S' id ∧ h'[id]? = h[id]?) {K : PV} {ks : List PV} (hk : KV S h K ks) : KV S' h' K ks := by
  cases hk with
  | none => exact .none
  | row kid v ks hS ho => exact .row kid v ks (hh _ hS).1 ((hh _ hS).2.trans ho)
theorem Forest.mono {S S' : Nat → Prop} {h h' : AHeap} (hh : ∀ id, S id → S' id ∧ h'[id]? = h[id]?) {xs : List PV} {i e : Nat} (hf : Forest sig t S h xs i e) : Forest sig t S' h' xs i e := by
  induction hf with
  | nil i => exact .nil i
  | leaf xs i e c hc hn hf ih => exact .leaf xs i e c hc hn ih
  | node xs ks i j e c id s K hc hs hS ho hK hl hk hf ih1 ih2 => exact .node xs ks i j e c id s K hc hs (hh _ hS).1 ((hh _ hS).2.trans ho) (hK.mono hh) hl ih1 ih2
theorem Forest.append {S : Nat → Prop} {h : AHeap} {xs ys : List PV} {i j e : Nat} (h1 : Forest sig t S h xs i j) (h2 : Forest sig t S h ys j e) : Forest sig t S h (xs ++ ys) i e := by
  induction h1 with
  | nil i => exact h2
  | leaf xs i e c hc hn hf ih => exact .leaf _ i _ c hc hn (ih h2)
  | node xs ks i j e c id s K hc hs hS ho hK hl hk hf ih1 ih2 => exact .node _ ks i j _ c id s K hc hs hS ho hK hl hk (ih2 h2)
theorem Forest.size {S : Nat → Prop} {h : AHeap} {x : PV} {i e : Nat} (hf : Forest sig t S h [x] i e) : SizeOk h x ((e : Int) - i) := by
  cases hf with
  | leaf _ _ _ c hc hn hf => cases hf; rw [show ((i + 1 : Nat) : Int) - i = 1 by omega]; exact .leaf _
  | node _ ks _ j _ c id s K hc hs hS ho hK hl hk hf => cases hf; exact .inner _ _ _ _ ho
theorem SizeOk.inj {h : AHeap} {x : PV} {s s' : Int} (h1 : SizeOk h x s) (h2 : SizeOk h x s') : s = s' := by
  cases h1 with
  | leaf n => cases h2; rfl
  | inner id a s K ho =>
    cases h2 with
    | inner _ a' _ K' ho' =>
      rw [ho] at ho'
      simp only [Option.some.injEq, AObj.row.injEq, List.cons.injEq, PV.d.injEq, D.v.injEq, Value.int.injEq] at ho'
      exact ho'.2.2.2.1.2.1.2
theorem SizeOk.stay {h h' : AHeap} {x : PV} {s : Int} (h1 : SizeOk h x s) (hh : ∀ id o, h[id]? = some o → x = In id → h'[id]? = some o) : SizeOk h' x s := by
  cases h1 with
  | leaf n => exact .leaf n
  | inner id a s K ho => exact .inner id a s K (hh id _ ho rfl)
def RdOk (sig : List Symbol) (t : List Int) (r : Nat) (h : AHeap) (i : Nat) : Prop := ∃ x h', Lim C 101 [rdr r] h = some (x, h') ∧ h'[r]? = some (RO sig t ((t.length - (rdT sig (t.drop i) 1).1.length : Nat) : Int) (rdT sig (t.drop i) 1).2) ∧ h.length ≤ h'.length ∧
  (∀ id, id < h.length → id ≠ r → h'[id]? = h[id]?) ∧ (∃ s id, SizeOk h' x s ∧ h.length ≤ id ∧ (∀ k, x = In k → h.length ≤ k ∧ k < h'.length)) ∧ ((rdT sig (t.drop i) 1).2 = 0 → Forest sig t (fun id => h.length ≤ id ∧ id < h'.length) h' [x] i (t.length - (rdT sig (t.drop i) 1).1.length))
def KVk (X : Nat) (h : AHeap) (K : PV) (ks : List PV) (kd : Option Nat) : Prop := (kd = none ∧ K = .im true [] ∧ ks = []) ∨ ∃ kid v, kd = some kid ∧ X < kid ∧ K = .ref kid v 0 ks.length ∧ h[kid]? = some (.row false v 1 (ks.map fun x => [x]))
theorem KVk.stay {X : Nat} {h h' : AHeap} {K : PV} {ks : List PV} {kd : Option Nat} (hk : KVk X h K ks kd) (hh : ∀ id, kd = some id → h'[id]? = h[id]?) : KVk X h' K ks kd := by
  rcases hk with h1 | ⟨kid, v, h1, h2, h3, h4⟩
  · exact .inl h1
  · exact .inr ⟨kid, v, h1, h2, h3, (hh _ h1).trans h4⟩
theorem get_app {h : AHeap} {o : AObj} {id : Nat} (hlt : id < h.length) : (h ++ [o])[id]? = h[id]? := List.getElem?_append_left hlt
theorem step18 {X i : Nat} {c ar j n s : Int} {K x : PV} {ks : List PV} {kd : Option Nat} (hX : h[X]? = some (XO i n K)) (hK : KVk X h K ks kd) (hx : SizeOk h x s) (hxk : ∀ k, x = In k → k ≠ X ∧ kd ≠ some k) (hb : (ks.length + 1) * 16 ≤ 140737488355328) :
    ∃ h2 h3 K' kd', semA C (Lim C) 1083197534392722413924130941 c101_r18 (St6 r X c ar j x h) = some (.normal, St6 r X c ar j x h2) ∧ semA C (Lim C) 1083197534392722413924130941 c101_r19 (St6 r X c ar j x h2) = some (.normal, St6 r X c ar j x h3) ∧
      h3[X]? = some (XO i (w64 (n + s)) K') ∧ KVk X h3 K' (ks ++ [x]) kd' ∧ h.length ≤ h3.length ∧ (∀ id, id < h.length → id ≠ X → kd ≠ some id → h3[id]? = h[id]?) ∧ (∀ id, kd' = some id → kd = some id ∨ id = h.length) ∧ (∀ id, kd' = some id → id < h3.length) := by
  have hlt := (List.getElem?_eq_some_iff.1 hX).1
  rcases hK with ⟨rfl, rfl, rfl⟩ | ⟨kid, v, rfl, hXk, rfl, hkid⟩
  · have e18 := rd18a (r := r) (c := c) (ar := ar) (j := j) hx hX
    have hx2 : SizeOk ((h ++ [AObj.row false 0 1 [[x]]]).set X (XO i n (.ref h.length 0 0 1))) x s := hx.stay fun id o ho he => by
      rw [List.getElem?_set_ne (Ne.symm (hxk id he).1), get_app (List.getElem?_eq_some_iff.1 ho).1]; exact ho
    have hX2 : ((h ++ [AObj.row false 0 1 [[x]]]).set X (XO i n (.ref h.length 0 0 1)))[X]? = some (XO i n (.ref h.length 0 0 1)) := by
      rw [List.getElem?_set_self (by simp; omega)]
    have e19 := rd19 (r := r) (c := c) (ar := ar) (j := j) hx2 hX2
    refine ⟨_, _, .ref h.length 0 0 1, some h.length, e18, e19, ?_, ?_, by simp, fun id h1 h2 _ => ?_, fun id e => .inr (Option.some.inj e).symm, fun id e => by cases e; simp⟩
    · rw [List.getElem?_set_self (by simp; omega)]
    · refine .inr ⟨h.length, 0, rfl, hlt, rfl, ?_⟩
      rw [List.getElem?_set_ne (by omega), List.getElem?_set_ne (by omega)]
      simp
    · rw [List.getElem?_set_ne (Ne.symm h2), List.getElem?_set_ne (Ne.symm h2), get_app h1]
  · have hne : X ≠ kid := by omega
    have hl : (ks.map fun x => [x]).length = ks.length := by simp
    have hX' : h[X]? = some (XO i n (.ref kid v 0 (ks.map fun x => [x]).length)) := by rw [hl]; exact hX
    have e18 := rd18b (r := r) (c := c) (ar := ar) (j := j) hx hX' hkid hne (by rw [hl]; exact hb)
    have hkl := (List.getElem?_eq_some_iff.1 hkid).1
    have hx2 : SizeOk ((h.set kid (.row false (v + 1) 1 ((ks.map fun x => [x]) ++ [[x]]))).set X (XO i n (.ref kid (v + 1) 0 ((ks.map fun x => [x]) ++ [[x]]).length))) x s := hx.stay fun id o ho he => by
      have h1 := (hxk id he).1
      have h2 : kid ≠ id := fun e => (hxk id he).2 (by rw [e])
      rw [List.getElem?_set_ne (Ne.symm h1), List.getElem?_set_ne h2]; exact ho
    have hX2 : ((h.set kid (.row false (v + 1) 1 ((ks.map fun x => [x]) ++ [[x]]))).set X (XO i n (.ref kid (v + 1) 0 ((ks.map fun x => [x]) ++ [[x]]).length)))[X]? = some (XO i n (.ref kid (v + 1) 0 ((ks.map fun x => [x]) ++ [[x]]).length)) := by
      rw [List.getElem?_set_self (by simp; omega)]
    have e19 := rd19 (r := r) (c := c) (ar := ar) (j := j) hx2 hX2
    refine ⟨_, _, .ref kid (v + 1) 0 ((ks.map fun x => [x]) ++ [[x]]).length, some kid, e18, e19, ?_, ?_, by simp, fun id h1 h2 h3 => ?_, fun id e => .inl e, fun id e => by cases e; simp; omega⟩
    · rw [List.getElem?_set_self (by simp; omega)]
    · refine .inr ⟨kid, v + 1, rfl, hXk, by simp, ?_⟩
      rw [List.getElem?_set_ne (by omega), List.getElem?_set_ne (by omega), List.getElem?_set_self (by omega)]
      simp
    · have h4 : kid ≠ id := fun e => h3 (by rw [e])
      rw [List.getElem?_set_ne (Ne.symm h2), List.getElem?_set_ne (Ne.symm h2), List.getElem?_set_ne h4]
theorem round101 {X : Nat} {c ar j : Int} {x : PV} {h1 h2 h3 : AHeap} (hj : j < ar) (hc : Lim C 101 [rdr r] h = some (x, h1)) (e18 : semA C (Lim C) 1083197534392722413924130941 c101_r18 (St6 r X c ar j x h1) = some (.normal, St6 r X c ar j x h2))
    (e19 : semA C (Lim C) 1083197534392722413924130941 c101_r19 (St6 r X c ar j x h2) = some (.normal, St6 r X c ar j x h3)) : semA C (Lim C) 1083197534392722413924130941 b101_0 (St5 r X c ar j h) = some (.normal, St5 r X c ar (w64 (j + 1)) h3) := by
  have hj' := eq_true hj
  have e17 := rd17 (X := X) (c := c) (ar := ar) (j := j) hc
  simp (config := {decide := true}) only [b101_0, c101_r16, c101_r20, go_sem, Int.reduceToNat, Nat.reduceAdd, Nat.reduceLT, Nat.reduceMul, Nat.reducePow, reduceCtorEq, e17, e18, e19, hj']
theorem leave101 {X : Nat} {c ar j : Int} (hj : ¬ j < ar) : semA C (Lim C) 1083197534392722413924130941 b101_0 (St5 r X c ar j h) = some (.exit 2, St5 r X c ar j h) := by
  have hj' := eq_false hj
  simp (config := {decide := true}) only [b101_0, c101_r16, go_sem, Int.reduceToNat, Nat.reduceAdd, Nat.reduceLT, Nat.reduceMul, Nat.reducePow, reduceCtorEq, hj']
theorem rdE {a c ar : Int} {f : Symbol} {h' : AHeap} (hlt : r < h.length) (ho : h[r]? = some (RO sig t a 0)) (ha : a ≠ (t.length : Int)) (hx : idx t a = some c) (hc : ¬ ((sig.length : Int) ≤ c ∨ c < -1048576)) (hn : ¬ c < 0) (hf : idx sig c = some f) (hl : loopLim (semA C (Lim C) 1083197534392722413924130941 b101_0) (St5 r h.length c f.Arity 0 ((h ++ [XO a 1 (.im true [])]).set r (RO sig t (w64 (a + 1)) 0))) = some (.exit 2, St5 r h.length c f.Arity ar h')) :
    Lim C 101 [rdr r] h = some (In h.length, h') := by
  have ha' : (a = (t.length : Int)) = False := eq_false ha
  have h1 : ((sig.length : Int) ≤ c) = False := eq_false fun e => hc (.inl e)
  have h2 : (c < -1048576) = False := eq_false fun e => hc (.inr e)
  have h3 : (c < 0) = False := eq_false hn
  have ho2 : ∀ o, (h ++ [o])[r]? = some (RO sig t a 0) := fun o => by rw [get_app hlt]; exact ho
  have ho3 : ∀ o o', ((h ++ [o]).set r o')[r]? = some o' := fun o o' => List.getElem?_set_self (by simp; omega)
  refine Lim_A is101 (Nat.le_of_ble_eq_true rfl) (env := [(0, rdr r), (2, In h.length), (3, PI c), (4, .ptr h.length 0 0 0), (87, PI f.Arity), (88, PI ar)]) (e := .ret) ?_ (.inr rfl) (vs := [In h.length]) rfl
  simp (config := {decide := true}) only [c101, c101_r0, c101_r1, c101_r2, c101_r3, c101_r4, c101_r5, c101_r6, c101_r7, c101_r8, c101_r9, c101_r10, c101_r11, c101_r12, c101_r13, c101_r14, c101_r15, c101_r21, callEnv, go_sem, Int.reduceToNat, Nat.reduceAdd, Nat.reduceLT, Nat.reduceMul, Nat.reducePow, reduceCtorEq, opNil, ho, ho2, ho3, ha', hx, h1, h2, h3, hf, hl]
structure LInv (sig : List Symbol) (t : List Int) (r X i : Nat) (h0 : AHeap) (j : Nat) (h : AHeap) : Prop where
  rx : r < X
  xl : X < h.length
  fr : ∀ id, id < X → id ≠ r → h[id]? = h0[id]?
  rd : h[r]? = some (RO sig t ((t.length - (rdT sig (t.drop (i + 1)) j).1.length : Nat) : Int) (rdT sig (t.drop (i + 1)) j).2)
  ex : ∃ (n : Int) (K : PV) (ks : List PV) (kd : Option Nat), h[X]? = some (XO i n K) ∧ ks.length = j ∧ KVk X h K ks kd ∧ (∀ id, kd = some id → id < h.length) ∧
    ((rdT sig (t.drop (i + 1)) j).2 = 0 → n = ((t.length - (rdT sig (t.drop (i + 1)) j).1.length : Nat) : Int) - i ∧ Forest sig t (fun id => X < id ∧ id < h.length ∧ kd ≠ some id) h ks (i + 1) (t.length - (rdT sig (t.drop (i + 1)) j).1.length))
theorem pos_le {l : List Int} {i k : Nat} (hi : i ≤ t.length) : i ≤ t.length - (rdT sig (t.drop i) k).1.length ∧ t.length - (rdT sig (t.drop i) k).1.length ≤ t.length ∧ t.drop (t.length - (rdT sig (t.drop i) k).1.length) = (rdT sig (t.drop i) k).1 := by
  obtain ⟨m, h1, h2⟩ := rdT_drop (sig := sig) (t.drop i) k
  rw [h2]
  rw [List.length_drop] at h1
  rw [List.drop_drop, List.length_drop]
  refine ⟨by omega, by omega, ?_⟩
  congr 1
  omega
theorem loop101 {X i : Nat} {c ar : Int} {h0 : AHeap} (hL : t.length < 4611686018427387904) (hi : i + 1 ≤ t.length) (hA : ar ≤ 1099511627776) (IH : ∀ (i' : Nat) (h' : AHeap), i < i' → i' ≤ t.length → h'[r]? = some (RO sig t i' 0) → RdOk sig t r h' i') :
    ∀ (m j : Nat) (h : AHeap), j + m = ar.toNat → LInv sig t r X i h0 j h → ∃ h', loopLim (semA C (Lim C) 1083197534392722413924130941 b101_0) (St5 r X c ar j h) = some (.exit 2, St5 r X c ar ar.toNat h') ∧ LInv sig t r X i h0 ar.toNat h' := by
  intro m
  induction m with
  | zero =>
    intro j h hj hv
    have : j = ar.toNat := by omega
    subst this
    exact ⟨h, ev_leave (leave101 (by omega)) (by simp), hv⟩
  | succ m ih =>
    intro j h hj hv
    have hlt : (j : Int) < ar := by omega
    obtain ⟨n, K, ks, kd, k1, k2, k3, k3b, k4⟩ := hv.ex
    obtain ⟨p1, p2, p3⟩ := pos_le (sig := sig) (l := t) (k := j) hi
    have hadd := rdT_add (sig := sig) (t.drop (i + 1)) j 1
    have hw : w64 ((j : Int) + 1) = ((j + 1 : Nat) : Int) := by unfold w64; rw [IntKind.wrap_i64]; omega
    have hbd : (ks.length + 1) * 16 ≤ 140737488355328 := by omega
    -- one argument is read
    have step : ∃ x h1 s, Lim C 101 [rdr r] h = some (x, h1) ∧ h1[r]? = some (RO sig t ((t.length - (rdT sig (t.drop (i + 1)) (j + 1)).1.length : Nat) : Int) (rdT sig (t.drop (i + 1)) (j + 1)).2) ∧ h.length ≤ h1.length ∧ (∀ id, id < h.length → id ≠ r → h1[id]? = h[id]?) ∧
        SizeOk h1 x s ∧ (∀ k, x = In k → h.length ≤ k ∧ k < h1.length) ∧ ((rdT sig (t.drop (i + 1)) (j + 1)).2 = 0 → (rdT sig (t.drop (i + 1)) j).2 = 0 ∧ Forest sig t (fun id => h.length ≤ id ∧ id < h1.length) h1 [x] (t.length - (rdT sig (t.drop (i + 1)) j).1.length) (t.length - (rdT sig (t.drop (i + 1)) (j + 1)).1.length)) := by
      have hrd := hv.rd
      by_cases hb : (rdT sig (t.drop (i + 1)) j).2 = 0
      · rw [hb] at hrd
        rw [if_pos hb] at hadd
        obtain ⟨x, h1, q1, q2, q3, q4, ⟨s, _, q5, _, q6⟩, q7⟩ := IH _ h (by omega) p2 hrd
        rw [p3, ← hadd] at q2 q7
        exact ⟨x, h1, s, q1, q2, q3, q4, q5, q6, fun e => ⟨hb, q7 e⟩⟩
      · rw [if_neg hb] at hadd
        rw [hadd]
        exact ⟨Lf 0, h, 1, rdA hrd hb, hrd, Nat.le_refl _, fun _ _ _ => rfl, .leaf 0, fun k e => (by cases e), fun e => absurd e hb⟩
    obtain ⟨x, h1, s, s1, s2, s3, s4, s5, s6, s7⟩ := step
    have hXr : X ≠ r := by have := hv.rx; omega
    have hkr : ∀ id, kd = some id → X < id := by
      intro id e
      rcases k3 with ⟨e1, _⟩ | ⟨kid, v, e1, e2, _⟩
      · rw [e1] at e; cases e
      · rw [e1] at e; cases e; exact e2
    have hX1 : h1[X]? = some (XO i n K) := (s4 X hv.xl hXr).trans k1
    have hK1 : KVk X h1 K ks kd := k3.stay fun id e => s4 id (k3b id e) (by have := hkr id e; have := hv.rx; omega)
    have hxk : ∀ k, x = In k → k ≠ X ∧ kd ≠ some k := fun k e => by
      have h1' := s6 k e
      have := hv.xl
      exact ⟨by omega, fun e' => by have := k3b k e'; omega⟩
    obtain ⟨h2, h3, K', kd', e18, e19, g1, g2, g3, g4, g5, g6⟩ := step18 (r := r) (c := c) (ar := ar) (j := j) hX1 hK1 s5 hxk hbd
    have hr3 : h3[r]? = h1[r]? := g4 r (by have := hv.rx; have := hv.xl; omega) (Ne.symm hXr) (fun e => by have := hkr r e; have := hv.rx; omega)
    have hv' : LInv sig t r X i h0 (j + 1) h3 := by
      refine ⟨hv.rx, by have := hv.xl; omega, fun id hid hne => ?_, by rw [hr3]; exact s2, w64 (n + s), K', ks ++ [x], kd', g1, by simp [k2], g2, g6, fun hb => ?_⟩
      · rw [g4 id (by have := hv.xl; omega) (by omega) (fun e => by have := hkr id e; omega), s4 id (by have := hv.xl; omega) hne]
        exact hv.fr id hid hne
      · obtain ⟨hb0, hF⟩ := s7 hb
        obtain ⟨c1, c2⟩ := k4 hb0
        have hsz := s5.inj hF.size
        obtain ⟨p1', p2', _⟩ := pos_le (sig := sig) (l := t) (k := j + 1) hi
        refine ⟨?_, ?_⟩
        · rw [c1, hsz]
          unfold w64
          rw [IntKind.wrap_i64]
          omega
        · refine Forest.append (c2.mono fun id hid => ?_) (hF.mono fun id hid => ?_)
          · obtain ⟨a1, a2, a3⟩ := hid
            refine ⟨⟨a1, by omega, fun e => ?_⟩, ?_⟩
            · rcases g5 id e with e' | e'
              · exact a3 e'
              · omega
            · rw [g4 id (by omega) (by omega) a3, s4 id a2 (by have := hv.rx; omega)]
          · obtain ⟨a1, a2⟩ := hid
            have hne : kd ≠ some id := fun e => by have := k3b id e; omega
            refine ⟨⟨by have := hv.xl; omega, by omega, fun e => ?_⟩, ?_⟩
            · rcases g5 id e with e' | e'
              · exact hne e'
              · omega
            · rw [g4 id a2 (by have := hv.xl; omega) hne]
    obtain ⟨h', f1, f2⟩ := ih (j + 1) h3 (by omega) hv'
    have hround := round101 hlt s1 e18 e19
    rw [hw] at hround
    exact ⟨h', ev_next hround f1, f2⟩
theorem rd_ok (hL : t.length < 4611686018427387904) (hA : ∀ s ∈ sig, s.Arity ≤ 1099511627776) : ∀ (n i : Nat) (h : AHeap), i ≤ t.length → t.length - i ≤ n → h[r]? = some (RO sig t i 0) → RdOk sig t r h i := by
  intro n
  induction n with
  | zero =>
    intro i h hi hn ho
    have : i = t.length := by omega
    subst this
    have hlt := (List.getElem?_eq_some_iff.1 ho).1
    have e : rdT sig (t.drop t.length) 1 = ([], 31) := by rw [List.drop_eq_nil_of_le (Nat.le_refl _)]; rfl
    rw [RdOk, e]
    refine ⟨_, _, rdB ho rfl, ?_, by simp, fun id h1 h2 => by rw [List.getElem?_set_ne (Ne.symm h2)], ⟨1, h.length, .leaf 0, Nat.le_refl _, fun k e => by cases e⟩, fun e => by cases e⟩
    rw [List.getElem?_set_self hlt]; rfl
  | succ n ih =>
    intro i h hi hn ho
    have hlt := (List.getElem?_eq_some_iff.1 ho).1
    by_cases hil : i = t.length
    · exact ih i h hi (by omega) ho
    have hit : i < t.length := by omega
    have ha : (i : Int) ≠ (t.length : Int) := by omega
    have hd := List.drop_eq_getElem_cons hit
    have hget : t[i]? = some t[i] := List.getElem?_eq_getElem hit
    have hx : idx t (i : Int) = some t[i] := by unfold idx; rw [if_pos (by omega)]; simp
    have hw : w64 ((i : Int) + 1) = ((i + 1 : Nat) : Int) := by unfold w64; rw [IntKind.wrap_i64]; omega
    by_cases hc : (sig.length : Int) ≤ t[i] ∨ t[i] < -1048576
    · have e : rdT sig (t.drop i) 1 = (t.drop i, 30) := by rw [hd]; simp only [rdT, if_pos hc]
      rw [RdOk, e]
      refine ⟨_, _, rdC ho ha hx hc, ?_, by simp, fun id h1 h2 => by rw [List.getElem?_set_ne (Ne.symm h2)], ⟨1, h.length, .leaf 0, Nat.le_refl _, fun k e => by cases e⟩, fun e => by cases e⟩
      rw [List.getElem?_set_self hlt, List.length_drop, show t.length - (t.length - i) = i by omega]
    by_cases hneg : t[i] < 0
    · have har : arOf sig t[i] = 0 := by unfold arOf; rw [if_neg (by omega)]
      have e : rdT sig (t.drop i) 1 = (t.drop (i + 1), 0) := by
        rw [hd]; simp only [rdT, if_neg hc, har]
        cases t.drop (i + 1) <;> rfl
      rw [RdOk, e]
      have hp : t.length - (t.drop (i + 1)).length = i + 1 := by rw [List.length_drop]; omega
      simp only [hp]
      refine ⟨_, _, rdD ho ha hx hc hneg, ?_, by simp, fun id h1 h2 => by rw [List.getElem?_set_ne (Ne.symm h2)], ⟨1, h.length, .leaf _, Nat.le_refl _, fun k e => by cases e⟩, fun _ => .leaf _ _ _ _ hget hneg (.nil _)⟩
      rw [List.getElem?_set_self hlt, hw]
    · obtain ⟨c, hcn⟩ : ∃ c : Nat, t[i] = (c : Int) := ⟨t[i].toNat, by omega⟩
      have hcs : c < sig.length := by rw [hcn] at hc; omega
      have hs : sig[c]? = some sig[c] := List.getElem?_eq_getElem hcs
      have hf : idx sig t[i] = some sig[c] := by unfold idx; rw [if_pos (by omega), hcn]; simp
      have har : arOf sig t[i] = sig[c].Arity.toNat := by unfold arOf; rw [if_pos (by omega), hcn]; simp [hs]
      have e : rdT sig (t.drop i) 1 = rdT sig (t.drop (i + 1)) sig[c].Arity.toNat := by
        rw [hd]; simp only [rdT, if_neg hc, har, Nat.zero_add]
      have hi1 : i + 1 ≤ t.length := hit
      have hr0 : ((h ++ [XO (i : Int) 1 (.im true [])]).set r (RO sig t (w64 ((i : Int) + 1)) 0))[h.length]? = some (XO (i : Int) 1 (.im true [])) := by
        rw [List.getElem?_set_ne (by omega)]; simp
      have hv0 : LInv sig t r h.length i h 0 ((h ++ [XO (i : Int) 1 (.im true [])]).set r (RO sig t (w64 ((i : Int) + 1)) 0)) := by
        have e0 : rdT sig (t.drop (i + 1)) 0 = (t.drop (i + 1), 0) := by cases t.drop (i + 1) <;> rfl
        have hp : t.length - (t.drop (i + 1)).length = i + 1 := by rw [List.length_drop]; omega
        refine ⟨hlt, by simp, fun id h1 h2 => ?_, ?_, 1, .im true [], [], none, hr0, rfl, .inl ⟨rfl, rfl, rfl⟩, fun id e => (by cases e), fun _ => ?_⟩
        · rw [List.getElem?_set_ne (Ne.symm h2), get_app h1]
        · rw [e0, hp, List.getElem?_set_self (by simp; omega), hw]
        · rw [e0, hp]
          exact ⟨by omega, .nil _⟩
      obtain ⟨h', f1, f2⟩ := loop101 (c := t[i]) (ar := sig[c].Arity) hL hi1 (hA _ (List.getElem_mem hcs)) (fun i' h'' h1 h2 h3 => ih i' h'' h2 (by omega) h3) sig[c].Arity.toNat 0 _ (by omega) hv0
      have hE := rdE hlt ho ha hx hc hneg hf (by simpa using f1)
      rw [RdOk, e]
      obtain ⟨n', K, ks, kd, k1, k2, k3, k3b, k4⟩ := f2.ex
      refine ⟨_, _, hE, f2.rd, by have := f2.xl; omega, fun id h1 h2 => f2.fr id h1 h2, ⟨n', h.length, .inner _ _ _ _ k1, Nat.le_refl _, fun k e => by cases e; exact ⟨Nat.le_refl _, f2.xl⟩⟩, fun hb => ?_⟩
      obtain ⟨c1, c2⟩ := k4 hb
      refine .node [] ks i _ _ c h.length sig[c] K (by rw [hget, hcn]) hs ⟨Nat.le_refl _, f2.xl⟩ (by rw [k1, c1]) ?_ k2 (c2.mono fun id hid => ⟨⟨by omega, hid.2.1⟩, rfl⟩) (.nil _)
      rcases k3 with ⟨_, rfl, rfl⟩ | ⟨kid, v, e1, e2, rfl, e4⟩
      · exact .none
      · exact .row kid v ks ⟨by omega, k3b _ e1⟩ e4
abbrev TArgs (sig : List Symbol) (t : List Int) : List PV := [.d (.rd (sig.map encSymbol)), .d (.rd (t.map intD))]
theorem grown_ok (hL : t.length < 4611686018427387904) (hA : ∀ s ∈ sig, s.Arity ≤ 1099511627776) (h : AHeap) : ∃ x h', Lim C 84 (TArgs sig t) h = some (.tp [x, PI (termRight sig t)], h') ∧ h.length ≤ h'.length ∧ (∀ id, id < h.length → h'[id]? = h[id]?) ∧
    (∃ s, SizeOk h' x s) ∧ (termRight sig t = 0 → Forest sig t (fun id => h.length < id ∧ id < h'.length) h' [x] 0 t.length) := by
  have ho : (h ++ [RO sig t 0 0])[h.length]? = some (RO sig t ((0 : Nat) : Int) 0) := by simp
  obtain ⟨x, h1, q1, q2, q3, q4, ⟨s, _, q5, _, q6⟩, q7⟩ := rd_ok (r := h.length) hL hA t.length 0 _ (Nat.zero_le _) (by omega) ho
  have hcall : callP C (Lim C) 101 [.ptr h.length 0 0 0] (h ++ [RO sig t 0 0]) = some (x, h1) := q1
  obtain ⟨p1, p2, p3⟩ := pos_le (sig := sig) (l := t) (k := 1) (Nat.zero_le t.length)
  rw [List.drop_zero] at *
  have hle : h.length + 1 ≤ h1.length := by simpa using q3
  have hself : ∀ o, (h1.set h.length o)[h.length]? = some o := fun o => List.getElem?_set_self (by omega)
  have hst : ∀ o, SizeOk (h1.set h.length o) x s := fun o => q5.stay fun id ob hob he => by
    have := (q6 id he).1
    rw [List.length_append] at this
    rw [List.getElem?_set_ne (by simp at this; omega)]; exact hob
  by_cases hb : (rdT sig t 1).2 = 0
  · by_cases hn : (rdT sig t 1).1 = []
    · have e : termRight sig t = 0 := by unfold termRight; simp [hb, hn]
      rw [e]
      have hlen : t.length - (rdT sig t 1).1.length = t.length := by rw [hn]; simp
      rw [hb, hlen] at q2
      have hlt : ((t.length : Int) < (t.length : Int)) = False := eq_false (by omega)
      refine ⟨x, h1, Lim_A is84 (Nat.le_of_ble_eq_true rfl) (env := [(0, .d (.rd (sig.map encSymbol))), (1, .d (.rd (t.map intD))), (4, x), (5, PI 0), (6, .ptr h.length 0 0 0), (7, x)]) (e := .ret) ?_ (.inr rfl) (vs := [x, PI 0]) rfl, by omega, fun id hid => ?_, ⟨s, q5⟩, fun _ => ?_⟩
      · simp (config := {decide := true}) only [c84, c84_r0, c84_r1, c84_r2, c84_r3, c84_r4, c84_r5, callEnv, go_sem, Int.reduceToNat, Nat.reduceAdd, Nat.reduceLT, Nat.reduceMul, Nat.reducePow, reduceCtorEq, opNil, hcall, q2, hlt]
      · rw [q4 id (by simp; omega) (by omega), get_app hid]
      · have := q7 hb
        rw [hlen] at this
        exact this.mono fun id hid => ⟨⟨by have := hid.1; simp at this; omega, hid.2⟩, rfl⟩
    · have e : termRight sig t = 32 := by unfold termRight; simp [hb, hn]
      rw [e]
      rw [hb] at q2
      have hlt : (((t.length - (rdT sig t 1).1.length : Nat) : Int) < (t.length : Int)) = True := by
        have h1 : 0 < (rdT sig t 1).1.length := List.length_pos_iff.2 hn
        have h2 : (rdT sig t 1).1.length ≤ t.length := by
          have := congrArg List.length p3
          rw [List.length_drop] at this
          omega
        exact eq_true (by omega)
      refine ⟨x, _, Lim_A is84 (h' := h1.set h.length (RO sig t ((t.length - (rdT sig t 1).1.length : Nat) : Int) 32)) (Nat.le_of_ble_eq_true rfl) (env := [(0, .d (.rd (sig.map encSymbol))), (1, .d (.rd (t.map intD))), (4, x), (5, PI 32), (6, .ptr h.length 0 0 0), (7, x)]) (e := .ret) ?_ (.inr rfl) (vs := [x, PI 32]) rfl, by simp; omega, fun id hid => ?_, ⟨s, hst _⟩, fun e => by cases e⟩
      · simp (config := {decide := true}) only [c84, c84_r0, c84_r1, c84_r2, c84_r3, c84_r4, c84_r5, callEnv, go_sem, Int.reduceToNat, Nat.reduceAdd, Nat.reduceLT, Nat.reduceMul, Nat.reducePow, reduceCtorEq, opNil, hcall, q2, hlt, hself]
      · rw [List.getElem?_set_ne (by omega), q4 id (by simp; omega) (by omega), get_app hid]
  · have e : termRight sig t = (rdT sig t 1).2 := by unfold termRight; simp [hb]
    rw [e]
    have hb' := eq_false hb
    refine ⟨x, h1, Lim_A is84 (Nat.le_of_ble_eq_true rfl) (env := [(0, .d (.rd (sig.map encSymbol))), (1, .d (.rd (t.map intD))), (4, x), (5, PI (rdT sig t 1).2), (6, .ptr h.length 0 0 0), (7, x)]) (e := .ret) ?_ (.inr rfl) (vs := [x, PI (rdT sig t 1).2]) rfl, by omega, fun id hid => ?_, ⟨s, q5⟩, fun e => absurd e hb⟩
    · simp (config := {decide := true}) only [c84, c84_r0, c84_r1, c84_r2, c84_r3, c84_r4, c84_r5, callEnv, go_sem, Int.reduceToNat, Nat.reduceAdd, Nat.reduceLT, Nat.reduceMul, Nat.reducePow, reduceCtorEq, opNil, hcall, q2, hb']
    · rw [q4 id (by simp; omega) (by omega), get_app hid]
theorem tree_ok (hL : t.length < 4611686018427387904) (hA : ∀ s ∈ sig, s.Arity ≤ 1099511627776) (hs : term_CheckSig sig = some 0) (h : AHeap) : ∃ x h', Lim C 63 (TArgs sig t) h = some (.tp [x, PI (termRight sig t)], h') ∧ h.length ≤ h'.length ∧ (∀ id, id < h.length → h'[id]? = h[id]?) ∧
    (∃ s, SizeOk h' x s) ∧ (termRight sig t = 0 → Forest sig t (fun id => h.length < id ∧ id < h'.length) h' [x] 0 t.length) := by
  obtain ⟨x, h', q1, q2⟩ := grown_ok hL hA h
  have hcall : callP C (Lim C) 84 (TArgs sig t) h = some (.tp [x, PI (termRight sig t)], h') := q1
  have hk := fun h => term_CheckSig_k (h := h) hs
  refine ⟨x, h', Lim_A is63 (Nat.le_of_ble_eq_true rfl) (env := [(0, .d (.rd (sig.map encSymbol))), (1, .d (.rd (t.map intD))), (4, x), (5, PI (termRight sig t)), (6, PI 0)]) (e := .ret) ?_ (.inr rfl) (vs := [x, PI (termRight sig t)]) rfl, q2⟩
  simp (config := {decide := true}) only [c63, c63_r0, c63_r1, c63_r2, c63_r3, c63_r4, callEnv, go_sem, Int.reduceToNat, Nat.reduceAdd, Nat.reduceLT, Nat.reduceMul, Nat.reducePow, reduceCtorEq, opNil, hcall, hk]
theorem tree_no {e : Int} (hs : term_CheckSig sig = some e) (he : e ≠ 0) (h : AHeap) : Lim C 63 (TArgs sig t) h = some (.tp [.d (.v .nilIface), PI e], h) := by
  have hk := fun h => term_CheckSig_k (h := h) hs
  have he' := eq_false he
  refine Lim_A is63 (Nat.le_of_ble_eq_true rfl) (env := [(0, .d (.rd (sig.map encSymbol))), (1, .d (.rd (t.map intD))), (4, .d (.v .nilIface)), (5, PI e), (6, PI e)]) (e := .ret) ?_ (.inr rfl) (vs := [.d (.v .nilIface), PI e]) rfl
  simp (config := {decide := true}) only [c63, c63_r0, c63_r1, c63_r2, c63_r3, c63_r4, callEnv, go_sem, Int.reduceToNat, Nat.reduceAdd, Nat.reduceLT, Nat.reduceMul, Nat.reducePow, reduceCtorEq, opNil, hk, he']
end

def c37_r0 : ACode := .reg [] [] [.K 4 (.mv (cI 0))]
def c37_r1 : ACode := .reg [] [] [.M 8 0, .M 9 1, .T 10 (.call 63 [.tmp 8, .tmp 9]), .M 7 10, .T 11 (.ext (.tmp 7) 0), .T 12 (.ext (.tmp 7) 1), .M 5 11, .N 6 12]
def c37_r2 : ACode := .reg [] [] [.M 13 6, .N 4 13]
def c37 : ACode := .seq (c37_r0) (.seq (c37_r1) (.seq (c37_r2) (.ret)))
theorem is37 : IsF C 37 14 83 c37 [.tmp 4] := ⟨⟨Tryd.f37, _, C_P ▸ Tryd.func37, rfl, rfl, rfl, by kernel_rfl, rfl⟩⟩
theorem term_Check_R {sig : List Symbol} {t : List Int} {r : Int} (hr : term_Check sig t = some r) : ∃ p hp, Lim C 37 (TArgs sig t) [] = some (p, hp) ∧ rsT hp p = some (PI r) := by
  simp only [term_Check] at hr
  obtain ⟨e, he, hr⟩ := bsome hr
  by_cases h0 : e = 0
  · subst h0
    simp only [if_true] at hr
    obtain ⟨hL, hr⟩ := gsome hr
    replace hr := Option.some.inj hr
    subst hr
    obtain ⟨x, h', q1, _⟩ := tree_ok (of_eq_true hL) (fun s hs => by have := checkSig_ar he s hs; omega) he []
    have hcall : callP C (Lim C) 63 (TArgs sig t) [] = some (.tp [x, PI (termRight sig t)], h') := q1
    refine ⟨_, _, Lim_A is37 (h' := h') (Nat.le_of_ble_eq_true rfl) (env := [(0, .d (.rd (sig.map encSymbol))), (1, .d (.rd (t.map intD))), (4, PI (termRight sig t)), (6, PI (termRight sig t))]) (e := .ret) ?_ (.inr rfl) (vs := [PI (termRight sig t)]) rfl, rfl⟩
    simp (config := {decide := true}) only [c37, c37_r0, c37_r1, c37_r2, callEnv, go_sem, Int.reduceToNat, Nat.reduceAdd, Nat.reduceLT, Nat.reduceMul, Nat.reducePow, reduceCtorEq, opNil, hcall]
  · rw [if_neg h0] at hr
    replace hr := Option.some.inj hr
    subst hr
    have hcall : callP C (Lim C) 63 (TArgs sig t) [] = some (.tp [.d (.v .nilIface), PI e], []) := tree_no he h0 []
    refine ⟨_, _, Lim_A is37 (h' := []) (Nat.le_of_ble_eq_true rfl) (env := [(0, .d (.rd (sig.map encSymbol))), (1, .d (.rd (t.map intD))), (4, PI e), (6, PI e)]) (e := .ret) ?_ (.inr rfl) (vs := [PI e]) rfl, rfl⟩
    simp (config := {decide := true}) only [c37, c37_r0, c37_r1, c37_r2, callEnv, go_sem, Int.reduceToNat, Nat.reduceAdd, Nat.reduceLT, Nat.reduceMul, Nat.reducePow, reduceCtorEq, opNil, hcall]
theorem term_Check_k {a0 : List Symbol} {a1 : List Int} {r : Int} (hr : term_Check a0 a1 = some r) {h : AHeap} : callP C (Lim C) 37 (TArgs a0 a1) h = some (PI r, h) := call_of (ds := [.rd (a0.map encSymbol), .rd (a1.map intD)]) rfl rfl rfl (term_Check_R hr) h

def c38 : ACode := .seq (.reg [] [(2, 0)] [.K 2 (.mv (.const Go.Value.nilIface))]) (.seq (.seq (.reg [] [] [.M 3 0, .K 4 (.bin .lss (.tmp 3) (cI 0))]) (.cond (.tmp 4) (some 4) (.seq (.reg [] [(2, 0)] [.M 5 0, .T 6 (.bin .sub (cI (-1)) (.tmp 5)), .T 7 (.mkI 59 (.tmp 6)), .N 2 7]) (.ret)) (.skip))) (.seq (.reg [] [(2, 0)] [.M 8 0, .T 9 (.mkI 57 (.tmp 8)), .N 2 9]) (.ret)))
theorem is38 : IsF C 38 10 21 c38 [.tmp 2] := ⟨⟨Tryd.f38, _, C_P ▸ Tryd.func38, rfl, rfl, rfl, by kernel_rfl, rfl⟩⟩
set_option maxHeartbeats 4000000 in
theorem match_part_R {a0 : Int} {r : D} (hr : match_part a0 = some r) : ∃ p hp, Lim C 38 [PI a0] [] = some (p, hp) ∧ rsT hp p = some (.d (r)) := by
  simp only [match_part] at hr
  rcases Classical.propComplete (a0 < 0) with h1 | h1
  simp only [h1, if_true] at hr
  obtain rfl := Option.some.inj hr
  refine run_ok is38 (Nat.le_of_ble_eq_true rfl) (q := (.ret, ⟨[(0, PI a0), (2, .d (.ifc 59 (.v (.int .i64 (w64 ((-1) - a0))))))], []⟩)) ?_ (.inr rfl) ⟨[.d (.ifc 59 (.v (.int .i64 (w64 ((-1) - a0)))))], rfl, ?_⟩
  rotate_left 2
  simp only [h1, if_false] at hr
  obtain rfl := Option.some.inj hr
  refine run_ok is38 (Nat.le_of_ble_eq_true rfl) (q := (.ret, ⟨[(0, PI a0), (2, .d (.ifc 57 (.v (.int .i64 a0))))], []⟩)) ?_ (.inr rfl) ⟨[.d (.ifc 57 (.v (.int .i64 a0)))], rfl, ?_⟩
  rotate_left 2
  all_goals (simp (config := {decide := true}) only [go_sem, Int.reduceToNat, Nat.reduceAdd, Nat.reduceLT, Nat.reduceMul, Nat.reducePow, reduceCtorEq, callEnv, c38, *])
theorem match_part_k {a0 : Int} {r : D} (hr : match_part a0 = some r) {h : AHeap} : callP C (Lim C) 38 [PI a0] h = some (.d (r), h) := call_of (ds := [.v (.int .i64 a0)]) rfl rfl rfl (match_part_R hr) h
def b39_0 : ACode := .seq (.seq (.reg [] [] [.M 8 6, .K 9 (.bin .gtr (.tmp 8) (cI 0))]) (.cond (.tmp 9) (some 9) (.skip) (.exit 0))) (.seq (.block 1 131712 (.seq (.seq (.reg [] [] [.M 12 1, .M 13 5, .T 14 (.ix 1 (.tmp 12) (.tmp 13)), .T 15 (.load none (.tmp 14)), .N 7 15]) (.seq (.reg [] [] [.M 16 7, .K 17 (.bin .geq (.tmp 16) (cI 0))]) (.cond (.tmp 17) (some 17) (.reg [] [] [.M 18 6, .M 19 0, .M 20 7, .T 21 (.ix 2 (.tmp 19) (.tmp 20)), .T 22 (.fa 1 (.tmp 21)), .T 23 (.load none (.tmp 22)), .T 24 (.bin .add (.tmp 18) (.tmp 23)), .N 6 24]) (.skip)))) (.reg [] [] [.M 25 5, .T 26 (.bin .add (.tmp 25) (cI 1)), .N 5 26]))) (.reg [] [] [.M 10 6, .T 11 (.bin .sub (.tmp 10) (cI 1)), .N 6 11]))
def c39 : ACode := .seq (.reg [] [] [.K 4 (.mv (cI 0))]) (.seq (.reg [] [] [.K 5 (.mv (cI 0))]) (.seq (.seq (.reg [] [] [.K 6 (.mv (cI 1))]) (.block 0 131712 (.loop b39_0))) (.seq (.reg [] [] [.M 27 5, .N 4 27]) (.ret))))
theorem is39 : IsF C 39 28 131827 c39 [.tmp 4] := ⟨⟨Tryd.f39, _, C_P ▸ Tryd.func39, rfl, rfl, rfl, by kernel_rfl, rfl⟩⟩
def match_reach_S0 (s0 : List Symbol) (s1 : List Int) : Int × Int → Unit → St := fun (s5, s6) _ => ⟨[(0, .d (.rd (s0.map encSymbol))), (1, .d (.rd (s1.map intD))), (4, PI 0), (5, PI s5), (6, PI s6)], []⟩
def match_reach_X0 (s0 : List Symbol) (s1 : List Int) : (Int × Int) → AExit × St → Prop := fun (s5, s6) q => q = (.exit 0, ⟨[(0, .d (.rd (s0.map encSymbol))), (1, .d (.rd (s1.map intD))), (4, PI 0), (5, PI s5), (6, PI s6)], []⟩)
set_option maxHeartbeats 4000000 in
theorem match_reach_R0 (s0 : List Symbol) (s1 : List Int) : ∀ (s : Int × Int) (g : Unit) r, match_reach_l0 s0 s1 s = some r → Sum.elim (fun s' => ∃ g', semA C (Lim C) 131827 b39_0 (match_reach_S0 s0 s1 s g) = some (.normal, match_reach_S0 s0 s1 s' g')) (fun x => ∃ q, semA C (Lim C) 131827 b39_0 (match_reach_S0 s0 s1 s g) = some q ∧ q.1 ≠ .normal ∧ match_reach_X0 s0 s1 x q) r := by
  intro s g r hr
  obtain ⟨s5, s6⟩ := s
  simp only [match_reach_l0] at hr
  rcases Classical.propComplete (0 < s6) with h1 | h1
  simp only [h1, if_true] at hr
  obtain ⟨x1, h2, hr⟩ := bsome hr
  rcases Classical.propComplete (0 ≤ x1) with h3 | h3
  simp only [h3, if_true] at hr
  obtain ⟨x2, h4, hr⟩ := bsome hr
  obtain rfl := Option.some.inj hr
  refine ⟨(), ?_⟩
  rotate_left
  simp only [h3, if_false] at hr
  obtain rfl := Option.some.inj hr
  refine ⟨(), ?_⟩
  rotate_left
  simp only [h1, if_false] at hr
  obtain rfl := Option.some.inj hr
  refine ⟨(.exit 0, ⟨[(0, .d (.rd (s0.map encSymbol))), (1, .d (.rd (s1.map intD))), (4, PI 0), (5, PI s5), (6, PI s6)], []⟩), ?_, nofun, rfl⟩
  rotate_left
  all_goals (simp (config := {decide := true}) only [go_sem, Int.reduceToNat, Nat.reduceAdd, Nat.reduceLT, Nat.reduceMul, Nat.reducePow, reduceCtorEq, match_reach_S0, b39_0, *])
theorem match_reach_L0 {s0 : List Symbol} {s1 : List Int} {s : Int × Int} {g : Unit} {x} (h : wh (match_reach_l0 s0 s1) s = some x) : ∃ q, loopLim (semA C (Lim C) 131827 b39_0) (match_reach_S0 s0 s1 s g) = some q ∧ match_reach_X0 s0 s1 x q := wh_sim (match_reach_R0 s0 s1) h
set_option maxHeartbeats 4000000 in
theorem match_reach_R {a0 : List Symbol} {a1 : List Int} {r : Int} (hr : match_reach a0 a1 = some r) : ∃ p hp, Lim C 39 [.d (.rd (a0.map encSymbol)), .d (.rd (a1.map intD))] [] = some (p, hp) ∧ rsT hp p = some (PI r) := by
  simp only [match_reach] at hr
  obtain ⟨x3, h1, hr⟩ := bsome hr
  obtain ⟨q1, h1L, h1X⟩ := match_reach_L0 (g := ()) h1
  obtain ⟨x4, x5⟩ := x3
  simp only [match_reach_X0, match_reach_S0] at h1X h1L
  subst h1X
  try simp only [go_sem, Nat.reduceAdd] at h1L
  obtain rfl := Option.some.inj hr
  refine run_ok is39 (Nat.le_of_ble_eq_true rfl) (q := (.ret, ⟨[(0, .d (.rd (a0.map encSymbol))), (1, .d (.rd (a1.map intD))), (4, PI x4), (5, PI x4), (6, PI x5)], []⟩)) ?_ (.inr rfl) ⟨[PI x4], rfl, ?_⟩
  rotate_left 2
  all_goals (simp (config := {decide := true}) only [go_sem, Int.reduceToNat, Nat.reduceAdd, Nat.reduceLT, Nat.reduceMul, Nat.reducePow, reduceCtorEq, callEnv, c39, *])
theorem match_reach_k {a0 : List Symbol} {a1 : List Int} {r : Int} (hr : match_reach a0 a1 = some r) {h : AHeap} : callP C (Lim C) 39 [.d (.rd (a0.map encSymbol)), .d (.rd (a1.map intD))] h = some (PI r, h) := call_of (ds := [.rd (a0.map encSymbol), .rd (a1.map intD)]) rfl rfl rfl (match_reach_R hr) h
def b41_0 : ACode := .seq (.reg [] [] [.K 14 (.bin .lss (.tmp 13) (.tmp 12))]) (.seq (.cond (.tmp 14) (some 14) (.skip) (.exit 0)) (.seq (.block 1 16793632 (.seq (.reg [] [] [.M 15 13, .N 5 15]) (.seq (.reg [] [] [.M 16 0, .M 17 5, ⟨some (18, false), .ix 1 (.tmp 16) (.tmp 17), none, true, false⟩, ⟨some (19, false), .load none (.tmp 18), none, true, false⟩, .M 20 1, .M 21 5, ⟨some (22, false), .ix 1 (.tmp 20) (.tmp 21), none, true, false⟩, ⟨some (23, false), .load none (.tmp 22), none, true, false⟩, .K 24 (.bin .neq (.tmp 19) (.tmp 23))]) (.cond (.tmp 24) (some 24) (.seq (.reg [] [] [.K 4 (.mv (.const (.bool false)))]) (.ret)) (.skip))))) (.reg [] [] [.T 25 (.bin .add (.tmp 13) (cI 1)), .N 13 25])))
def c41 : ACode := .seq (.reg [] [] [.K 4 (.mv (.const (.bool false)))]) (.seq (.seq (.reg [] [] [.M 6 0, .T 7 (.len (.tmp 6)), .M 8 1, .T 9 (.len (.tmp 8)), .K 10 (.bin .neq (.tmp 7) (.tmp 9))]) (.cond (.tmp 10) (some 10) (.seq (.reg [] [] [.K 4 (.mv (.const (.bool false)))]) (.ret)) (.skip))) (.seq (.seq (.reg [] [] [.M 11 0, .K 12 (.len (.tmp 11)), .K 13 (.mv (cI 0))]) (.block 0 16793632 (.loop b41_0))) (.seq (.reg [] [] [.K 4 (.mv (.const (.bool true)))]) (.ret))))
theorem is41 : IsF C 41 26 16806963 c41 [.tmp 4] := ⟨⟨Tryd.f41, _, C_P ▸ Tryd.func41, rfl, rfl, rfl, by kernel_rfl, rfl⟩⟩
def slices_Equal_s_int_int_S0 (s0 : List Int) (s1 : List Int) (s12 : Int) : Int → Unit → St := fun s13 _ => ⟨[(0, .d (.rd (s0.map intD))), (1, .d (.rd (s1.map intD))), (4, PB false), (12, PI s12), (13, PI s13)], []⟩
def slices_Equal_s_int_int_X0 (s0 : List Int) (s1 : List Int) (s12 : Int) : (Bool ⊕ Int) → AExit × St → Prop
  | .inl r, q => q.1 = .ret ∧ RetOK C [.tmp 4] q.2 (PB r)
  | .inr s13, q => q = (.exit 0, ⟨[(0, .d (.rd (s0.map intD))), (1, .d (.rd (s1.map intD))), (4, PB false), (12, PI s12), (13, PI s13)], []⟩)
set_option maxHeartbeats 4000000 in
theorem slices_Equal_s_int_int_R0 (s0 : List Int) (s1 : List Int) (s12 : Int) : ∀ (s : Int) (g : Unit) r, slices_Equal_s_int_int_l0 s0 s1 s12 s = some r → Sum.elim (fun s' => ∃ g', semA C (Lim C) 16806963 b41_0 (slices_Equal_s_int_int_S0 s0 s1 s12 s g) = some (.normal, slices_Equal_s_int_int_S0 s0 s1 s12 s' g')) (fun x => ∃ q, semA C (Lim C) 16806963 b41_0 (slices_Equal_s_int_int_S0 s0 s1 s12 s g) = some q ∧ q.1 ≠ .normal ∧ slices_Equal_s_int_int_X0 s0 s1 s12 x q) r := by
  intro s g r hr
  have ⟨s13, hs0⟩ : ∃ y, y = s := ⟨_, rfl⟩
  subst hs0
  simp only [slices_Equal_s_int_int_l0] at hr
  rcases Classical.propComplete (s13 < s12) with h1 | h1
  simp only [h1, if_true] at hr
  obtain ⟨x1, h2, hr⟩ := bsome hr
  obtain ⟨x2, h3, hr⟩ := bsome hr
  rcases Classical.propComplete (x1 = x2) with h4 | h4
  simp only [h4, if_true] at hr
  obtain rfl := Option.some.inj hr
  refine ⟨(), ?_⟩
  rotate_left
  simp only [h4, if_false] at hr
  obtain rfl := Option.some.inj hr
  refine ⟨(.ret, ⟨[(0, .d (.rd (s0.map intD))), (1, .d (.rd (s1.map intD))), (4, PB false), (5, PI s13), (12, PI s12), (13, PI s13)], []⟩), ?_, nofun, rfl, [PB false], rfl, ?_⟩
  rotate_left 2
  simp only [h1, if_false] at hr
  obtain rfl := Option.some.inj hr
  refine ⟨(.exit 0, ⟨[(0, .d (.rd (s0.map intD))), (1, .d (.rd (s1.map intD))), (4, PB false), (12, PI s12), (13, PI s13)], []⟩), ?_, nofun, rfl⟩
  rotate_left
  all_goals (simp (config := {decide := true}) only [go_sem, Int.reduceToNat, Nat.reduceAdd, Nat.reduceLT, Nat.reduceMul, Nat.reducePow, reduceCtorEq, slices_Equal_s_int_int_S0, b41_0, *])
theorem slices_Equal_s_int_int_L0 {s0 : List Int} {s1 : List Int} {s12 : Int} {s : Int} {g : Unit} {x} (h : wh (slices_Equal_s_int_int_l0 s0 s1 s12) s = some x) : ∃ q, loopLim (semA C (Lim C) 16806963 b41_0) (slices_Equal_s_int_int_S0 s0 s1 s12 s g) = some q ∧ slices_Equal_s_int_int_X0 s0 s1 s12 x q := wh_sim (slices_Equal_s_int_int_R0 s0 s1 s12) h
set_option maxHeartbeats 4000000 in
theorem slices_Equal_s_int_int_R {a0 : List Int} {a1 : List Int} {r : Bool} (hr : slices_Equal_s_int_int a0 a1 = some r) : ∃ p hp, Lim C 41 [.d (.rd (a0.map intD)), .d (.rd (a1.map intD))] [] = some (p, hp) ∧ rsT hp p = some (PB r) := by
  simp only [slices_Equal_s_int_int] at hr
  rcases Classical.propComplete ((a0.length : Int) = (a1.length : Int)) with h1 | h1
  simp only [h1, if_true] at hr
  obtain ⟨x3, h2, hr⟩ := bsome hr
  obtain ⟨q2, h2L, h2X⟩ := slices_Equal_s_int_int_L0 (g := ()) h2
  rcases x3 with x4 | x5
  simp only [slices_Equal_s_int_int_X0, slices_Equal_s_int_int_S0] at h2X h2L
  obtain ⟨e2, st2⟩ := q2
  obtain ⟨rfl, h2R⟩ := h2X
  try simp only [go_sem, Nat.reduceAdd] at h2L
  obtain rfl := Option.some.inj hr
  refine run_ok is41 (Nat.le_of_ble_eq_true rfl) ?_ (.inr rfl) h2R
  rotate_left
  simp only [slices_Equal_s_int_int_X0, slices_Equal_s_int_int_S0] at h2X h2L
  subst h2X
  try simp only [go_sem, Nat.reduceAdd] at h2L
  obtain rfl := Option.some.inj hr
  refine run_ok is41 (Nat.le_of_ble_eq_true rfl) (q := (.ret, ⟨[(0, .d (.rd (a0.map intD))), (1, .d (.rd (a1.map intD))), (4, PB true), (12, PI (a0.length : Int)), (13, PI x5)], []⟩)) ?_ (.inr rfl) ⟨[PB true], rfl, ?_⟩
  rotate_left 2
  simp only [h1, if_false] at hr
  obtain rfl := Option.some.inj hr
  refine run_ok is41 (Nat.le_of_ble_eq_true rfl) (q := (.ret, ⟨[(0, .d (.rd (a0.map intD))), (1, .d (.rd (a1.map intD))), (4, PB false)], []⟩)) ?_ (.inr rfl) ⟨[PB false], rfl, ?_⟩
  rotate_left 2
  all_goals (simp (config := {decide := true}) only [go_sem, Int.reduceToNat, Nat.reduceAdd, Nat.reduceLT, Nat.reduceMul, Nat.reducePow, reduceCtorEq, callEnv, c41, *])
theorem slices_Equal_s_int_int_k {a0 : List Int} {a1 : List Int} {r : Bool} (hr : slices_Equal_s_int_int a0 a1 = some r) {h : AHeap} : callP C (Lim C) 41 [.d (.rd (a0.map intD)), .d (.rd (a1.map intD))] h = some (PB r, h) := call_of (ds := [.rd (a0.map intD), .rd (a1.map intD)]) rfl rfl rfl (slices_Equal_s_int_int_R hr) h

theorem math_bits_Len_k {a0 r : Int} (hr : math_bits_Len a0 = some r) {h : AHeap} : callP C (Lim C) 65 [.d (.v (.int .u64 a0))] h = some (.d (.v (.int .i64 r)), h) := by
  have e : C.prim 65 = some prim_math_bits_Len := rfl
  obtain ⟨h1, h2⟩ := gsome hr
  simp only [callP, e, prim_math_bits_Len]
  rw [if_pos (of_eq_true h1)]
  rw [← Option.some.inj h2]

def c66 : ACode := .seq (.reg [] [] [.K 2 (.mv (.const (.bool false)))]) (.seq (.reg [] [] [.M 3 0, .M 4 0, .T 5 (.bin .neq (.tmp 3) (.tmp 4)), .N 2 5]) (.ret))
theorem is66 : IsF C 66 6 5 c66 [.tmp 2] := ⟨⟨Tryd.f66, _, C_P ▸ Tryd.func66, rfl, rfl, rfl, by kernel_rfl, rfl⟩⟩
set_option maxHeartbeats 4000000 in
theorem cmp_isNaN_int_R {a0 : Int} {r : Bool} (hr : cmp_isNaN_int a0 = some r) : ∃ p hp, Lim C 66 [PI a0] [] = some (p, hp) ∧ rsT hp p = some (PB r) := by
  simp only [cmp_isNaN_int] at hr
  obtain rfl := Option.some.inj hr
  refine run_ok is66 (Nat.le_of_ble_eq_true rfl) (q := (.ret, ⟨[(0, PI a0), (2, PB (!decide (a0 = a0)))], []⟩)) ?_ (.inr rfl) ⟨[PB (!decide (a0 = a0))], rfl, ?_⟩
  rotate_left 2
  all_goals (simp (config := {decide := true}) only [go_sem, Int.reduceToNat, Nat.reduceAdd, Nat.reduceLT, Nat.reduceMul, Nat.reducePow, reduceCtorEq, callEnv, c66, *])
theorem cmp_isNaN_int_k {a0 : Int} {r : Bool} (hr : cmp_isNaN_int a0 = some r) {h : AHeap} : callP C (Lim C) 66 [PI a0] h = some (PB r, h) := call_of (ds := [.v (.int .i64 a0)]) rfl rfl rfl (cmp_isNaN_int_R hr) h
def c44 : ACode := .seq (.reg [] [] [.K 4 (.mv (cI 0))]) (.seq (.reg [] [] [.M 7 0, .T 8 (.call 66 [.tmp 7]), .N 5 8]) (.seq (.reg [] [] [.M 9 1, .T 10 (.call 66 [.tmp 9]), .N 6 10]) (.seq (.seq (.reg [] [] [.N 11 5]) (.cond (.tmp 11) (some 11) (.seq (.seq (.reg [] [] [.N 12 6]) (.cond (.tmp 12) (some 12) (.seq (.reg [] [] [.K 4 (.mv (cI 0))]) (.ret)) (.skip))) (.seq (.reg [] [] [.K 4 (.mv (cI (-1)))]) (.ret))) (.skip))) (.seq (.seq (.reg [] [] [.N 13 6]) (.cond (.tmp 13) (some 13) (.seq (.reg [] [] [.K 4 (.mv (cI 1))]) (.ret)) (.skip))) (.seq (.seq (.reg [] [] [.M 14 0, .M 15 1, .K 16 (.bin .lss (.tmp 14) (.tmp 15))]) (.cond (.tmp 16) (some 16) (.seq (.reg [] [] [.K 4 (.mv (cI (-1)))]) (.ret)) (.skip))) (.seq (.seq (.reg [] [] [.M 17 0, .M 18 1, .K 19 (.bin .gtr (.tmp 17) (.tmp 18))]) (.cond (.tmp 19) (some 19) (.seq (.reg [] [] [.K 4 (.mv (cI 1))]) (.ret)) (.skip))) (.seq (.reg [] [] [.K 4 (.mv (cI 0))]) (.ret))))))))
theorem is44 : IsF C 44 20 604275 c44 [.tmp 4] := ⟨⟨Tryd.f44, _, C_P ▸ Tryd.func44, rfl, rfl, rfl, by kernel_rfl, rfl⟩⟩
set_option maxHeartbeats 4000000 in
theorem cmp_Compare_int_R {a0 : Int} {a1 : Int} {r : Int} (hr : cmp_Compare_int a0 a1 = some r) : ∃ p hp, Lim C 44 [PI a0, PI a1] [] = some (p, hp) ∧ rsT hp p = some (PI r) := by
  simp only [cmp_Compare_int] at hr
  obtain ⟨x1, h1, hr⟩ := bsome hr
  have h1k := fun h => cmp_isNaN_int_k (h := h) h1
  try simp only [go_sem] at h1k
  obtain ⟨x2, h2, hr⟩ := bsome hr
  have h2k := fun h => cmp_isNaN_int_k (h := h) h2
  try simp only [go_sem] at h2k
  cases h3 : x1
  simp only [h3, Bool.false_eq_true, if_false] at hr
  cases h5 : x2
  simp only [h5, Bool.false_eq_true, if_false] at hr
  rcases Classical.propComplete (a0 < a1) with h6 | h6
  simp only [h6, if_true] at hr
  obtain rfl := Option.some.inj hr
  refine run_ok is44 (Nat.le_of_ble_eq_true rfl) (q := (.ret, ⟨[(0, PI a0), (1, PI a1), (4, PI (-1)), (5, PB x1), (6, PB x2)], []⟩)) ?_ (.inr rfl) ⟨[PI (-1)], rfl, ?_⟩
  rotate_left 2
  simp only [h6, if_false] at hr
  rcases Classical.propComplete (a1 < a0) with h7 | h7
  simp only [h7, if_true] at hr
  obtain rfl := Option.some.inj hr
  refine run_ok is44 (Nat.le_of_ble_eq_true rfl) (q := (.ret, ⟨[(0, PI a0), (1, PI a1), (4, PI 1), (5, PB x1), (6, PB x2)], []⟩)) ?_ (.inr rfl) ⟨[PI 1], rfl, ?_⟩
  rotate_left 2
  simp only [h7, if_false] at hr
  obtain rfl := Option.some.inj hr
  refine run_ok is44 (Nat.le_of_ble_eq_true rfl) (q := (.ret, ⟨[(0, PI a0), (1, PI a1), (4, PI 0), (5, PB x1), (6, PB x2)], []⟩)) ?_ (.inr rfl) ⟨[PI 0], rfl, ?_⟩
  rotate_left 2
  simp only [h5, if_true] at hr
  obtain rfl := Option.some.inj hr
  refine run_ok is44 (Nat.le_of_ble_eq_true rfl) (q := (.ret, ⟨[(0, PI a0), (1, PI a1), (4, PI 1), (5, PB x1), (6, PB x2)], []⟩)) ?_ (.inr rfl) ⟨[PI 1], rfl, ?_⟩
  rotate_left 2
  simp only [h3, if_true] at hr
  cases h4 : x2
  simp only [h4, Bool.false_eq_true, if_false] at hr
  obtain rfl := Option.some.inj hr
  refine run_ok is44 (Nat.le_of_ble_eq_true rfl) (q := (.ret, ⟨[(0, PI a0), (1, PI a1), (4, PI (-1)), (5, PB x1), (6, PB x2)], []⟩)) ?_ (.inr rfl) ⟨[PI (-1)], rfl, ?_⟩
  rotate_left 2
  simp only [h4, if_true] at hr
  obtain rfl := Option.some.inj hr
  refine run_ok is44 (Nat.le_of_ble_eq_true rfl) (q := (.ret, ⟨[(0, PI a0), (1, PI a1), (4, PI 0), (5, PB x1), (6, PB x2)], []⟩)) ?_ (.inr rfl) ⟨[PI 0], rfl, ?_⟩
  rotate_left 2
  all_goals (simp (config := {decide := true}) only [go_sem, Int.reduceToNat, Nat.reduceAdd, Nat.reduceLT, Nat.reduceMul, Nat.reducePow, reduceCtorEq, callEnv, c44, *])
theorem cmp_Compare_int_k {a0 : Int} {a1 : Int} {r : Int} (hr : cmp_Compare_int a0 a1 = some r) {h : AHeap} : callP C (Lim C) 44 [PI a0, PI a1] h = some (PI r, h) := call_of (ds := [.v (.int .i64 a0), .v (.int .i64 a1)]) rfl rfl rfl (cmp_Compare_int_R hr) h
def c43 : ACode := .seq (.reg [] [] [.K 2 (.box (.tmp 0)), .K 3 (.box (.tmp 1)), .K 4 (.mv (cI 0))]) (.seq (.reg [] [] [.T 5 (.fa 0 (.tmp 2)), .T 6 (.load none (.tmp 5)), .T 7 (.fa 0 (.tmp 3)), .T 8 (.load none (.tmp 7)), .T 9 (.call 44 [.tmp 6, .tmp 8]), .N 4 9]) (.ret))
theorem is43 : IsF C 43 10 31 c43 [.tmp 4] := ⟨⟨Tryd.f43, _, C_P ▸ Tryd.func43, rfl, rfl, rfl, by kernel_rfl, rfl⟩⟩
set_option maxHeartbeats 4000000 in
theorem match_Match_c1_R {a0 : Bind} {a1 : Bind} {r : Int} (hr : match_Match_c1 a0 a1 = some r) : ∃ p hp, Lim C 43 [.d (.ag (encBind a0)), .d (.ag (encBind a1))] [] = some (p, hp) ∧ rsT hp p = some (PI r) := by
  simp only [match_Match_c1] at hr
  obtain ⟨x1, h1, hr⟩ := bsome hr
  have h1k := fun h => cmp_Compare_int_k (h := h) h1
  try simp only [go_sem] at h1k
  obtain rfl := Option.some.inj hr
  refine run_ok is43 (Nat.le_of_ble_eq_true rfl) (q := (.ret, ⟨[(0, .d (.ag (encBind a0))), (1, .d (.ag (encBind a1))), (2, .ptr 0 0 0 0), (3, .ptr 1 0 0 0), (4, PI x1)], (.row false 0 2 [[PI a0.Var, .d (.rd (a0.T.map intD))]] :: (.row false 0 2 [[PI a1.Var, .d (.rd (a1.T.map intD))]] :: []))⟩)) ?_ (.inr rfl) ⟨[PI x1], rfl, ?_⟩
  rotate_left 2
  all_goals (simp (config := {decide := true}) only [go_sem, Int.reduceToNat, Nat.reduceAdd, Nat.reduceLT, Nat.reduceMul, Nat.reducePow, reduceCtorEq, callEnv, c43, *])
theorem match_Match_c1_o {a0 : Bind} {a1 : Bind} {r : Int} (hr : match_Match_c1 a0 a1 = some r) {h : AHeap} {args : List PV} (ha : mapO (rs h depth) args = some [.ag (encBind a0), .ag (encBind a1)]) : callP C (Lim C) 43 args h = some (PI r, if scalar (PI r) = true then h else freezeAll (args.flatMap (reach h depth)) h) := call_own rfl rfl rfl (match_Match_c1_R hr) ha
def b85_1 : ACode := .seq (.seq (.reg [] [] [.M 18 9, .M 19 1, .T 20 (.bin .gtr (.tmp 18) (.tmp 19)), .M 21 20, .MG 22 21 true 3, .MG 23 21 true 0, .MG 24 21 true 9, ⟨some (25, false), .ix 2 (.tmp 23) (.tmp 24), some (21, true), true, false⟩, ⟨some (26, false), .load (some 2) (.tmp 25), some (21, true), true, false⟩, .MG 27 21 true 0, .MG 28 21 true 9, .TG 29 21 true (.bin .sub (.tmp 28) (cI 1)), ⟨some (30, false), .ix 2 (.tmp 27) (.tmp 29), some (21, true), true, false⟩, ⟨some (31, false), .load (some 2) (.tmp 30), some (21, true), true, false⟩, ⟨some (32, false), .callV (.tmp 22) [.tmp 26, .tmp 31], some (21, true), true, false⟩, .TG 33 21 true (.bin .lss (.tmp 32) (cI 0)), .K 34 (.pick (.tmp 21) (.tmp 33) (.const (.bool false)))]) (.cond (.tmp 34) (some 34) (.skip) (.exit 2))) (.seq (.block 3 17179869184 (.reg [] [] [.M 37 0, .M 38 9, .M 39 0, .M 40 9, .T 41 (.bin .sub (.tmp 40) (cI 1)), .M 42 0, .M 43 9, .T 44 (.bin .sub (.tmp 43) (cI 1)), ⟨some (45, false), .ix 2 (.tmp 42) (.tmp 44), none, true, false⟩, ⟨some (46, false), .load (some 2) (.tmp 45), none, true, false⟩, .M 47 0, .M 48 9, ⟨some (49, false), .ix 2 (.tmp 47) (.tmp 48), none, true, false⟩, ⟨some (50, false), .load (some 2) (.tmp 49), none, true, false⟩, ⟨some (51, false), .ix 2 (.tmp 37) (.tmp 38), none, true, false⟩, ⟨none, .store 2 (.tmp 51) (.tmp 46), none, false, false⟩, ⟨some (52, false), .ix 2 (.tmp 39) (.tmp 41), none, true, false⟩, ⟨none, .store 2 (.tmp 52) (.tmp 50), none, false, false⟩])) (.reg [] [] [.M 35 9, .T 36 (.bin .sub (.tmp 35) (cI 1)), .N 9 36]))
def b85_0 : ACode := .seq (.seq (.reg [] [] [.M 12 8, .M 13 2, .K 14 (.bin .lss (.tmp 12) (.tmp 13))]) (.cond (.tmp 14) (some 14) (.skip) (.exit 0))) (.seq (.block 1 17179886080 (.seq (.reg [] [] [.M 17 8, .N 9 17]) (.block 2 17179886080 (.loop b85_1)))) (.reg [] [] [.M 15 8, .T 16 (.bin .add (.tmp 15) (cI 1)), .N 8 16]))
def c85 : ACode := .seq (.reg [] [] [.M 10 1, .T 11 (.bin .add (.tmp 10) (cI 1)), .N 8 11]) (.block 0 17179886080 (.loop b85_0))
theorem is85 : IsF C 85 53 17179886351 c85 [] := ⟨⟨Tryd.f85, _, C_P ▸ Tryd.func85, rfl, rfl, rfl, by kernel_rfl, rfl⟩⟩
def slices_insertionSort_Bm_S1 (s1 : Int) (s2 : Int) (s8 : Int) (g1 : AHeap) (v0 : Nat) (n0 : Nat) (g2 : AHeap) : Int × (List Bind) → AHeap → St := fun (s9, o0) gt => ⟨[(0, .ref g1.length v0 0 n0), (1, PI s1), (2, PI s2), (3, .fn 43 []), (8, PI s8), (9, PI s9)], (g1 ++ (.row false v0 2 (rowP encBind o0) :: (g2 ++ gt)))⟩
def slices_insertionSort_Bm_I1 (s1 : Int) (s2 : Int) (s8 : Int) (g1 : AHeap) (v0 : Nat) (n0 : Nat) (g2 : AHeap) : Int × (List Bind) → Prop := fun (s9, o0) => o0.length = n0
def slices_insertionSort_Bm_X1 (s1 : Int) (s2 : Int) (s8 : Int) (g1 : AHeap) (v0 : Nat) (n0 : Nat) (g2 : AHeap) : ((List Bind)) → AExit × St → Prop := fun o0 q => ∃ d9 : PV, ∃ h1 : AHeap, q = (.exit 2, ⟨[(0, .ref g1.length v0 0 n0), (1, PI s1), (2, PI s2), (3, .fn 43 []), (8, PI s8), (9, d9)], (g1 ++ (.row false v0 2 (rowP encBind o0) :: (g2 ++ h1)))⟩) ∧ o0.length = n0
set_option maxHeartbeats 4000000 in
theorem slices_insertionSort_Bm_R1 (s1 : Int) (s2 : Int) (s8 : Int) (g1 : AHeap) (v0 : Nat) (n0 : Nat) (g2 : AHeap) : ∀ (s : Int × (List Bind)) (g : AHeap) r, slices_insertionSort_Bm_I1 s1 s2 s8 g1 v0 n0 g2 s → slices_insertionSort_Bm_l1 s1 s2 s8 s = some r → Sum.elim (fun s' => (∃ g', semA C (Lim C) 17179886351 b85_1 (slices_insertionSort_Bm_S1 s1 s2 s8 g1 v0 n0 g2 s g) = some (.normal, slices_insertionSort_Bm_S1 s1 s2 s8 g1 v0 n0 g2 s' g')) ∧ slices_insertionSort_Bm_I1 s1 s2 s8 g1 v0 n0 g2 s') (fun x => ∃ q, semA C (Lim C) 17179886351 b85_1 (slices_insertionSort_Bm_S1 s1 s2 s8 g1 v0 n0 g2 s g) = some q ∧ q.1 ≠ .normal ∧ slices_insertionSort_Bm_X1 s1 s2 s8 g1 v0 n0 g2 x q) r := by
  intro s g r hI hr
  obtain ⟨s9, o0⟩ := s
  have ⟨gt, hg0⟩ : ∃ y, y = g := ⟨_, rfl⟩
  subst hg0
  simp only [slices_insertionSort_Bm_I1] at hI
  have hI0 := hI
  simp only [slices_insertionSort_Bm_l1] at hr
  rcases Classical.propComplete (s1 < s9) with h1 | h1
  simp only [h1, if_true] at hr
  obtain ⟨x1, h2, hr⟩ := bsome hr
  have h2a := eq_true (idx_some h2).1
  have h2b : (s9 < (n0 : Int)) = True := eq_true (by have hb : s9 < (o0.length : Int) := (idx_some h2).2.1; omega)
  have h2c := (idx_some h2).2.2
  obtain ⟨x2, h3, hr⟩ := bsome hr
  have h3a := eq_true (idx_some h3).1
  have h3b : ((w64 (s9 - 1)) < (n0 : Int)) = True := eq_true (by have hb : (w64 (s9 - 1)) < (o0.length : Int) := (idx_some h3).2.1; omega)
  have h3c := (idx_some h3).2.2
  obtain ⟨x3, h4, hr⟩ := bsome hr
  have h4k := fun h => match_Match_c1_o (h := h) (args := [.ag [PI x1.Var, .d (.rd (x1.T.map intD))], .ag [PI x2.Var, .d (.rd (x2.T.map intD))]]) h4 rfl
  try simp only [go_sem] at h4k
  rcases Classical.propComplete (x3 < 0) with h5 | h5
  simp only [h5, if_true] at hr
  obtain ⟨x4, h6, hr⟩ := bsome hr
  have h6a := eq_true (idx_some h6).1
  have h6b : ((w64 (s9 - 1)) < (n0 : Int)) = True := eq_true (by have hb : (w64 (s9 - 1)) < ((o0.set (s9).toNat x2).length : Int) := (idx_some h6).2.1; simp only [List.length_set, List.length_replicate] at hb; omega)
  have h6c := (idx_some h6).2.2
  obtain rfl := Option.some.inj hr
  refine ⟨⟨gt, ?_⟩, (show ((o0.set (s9).toNat x2).set (w64 (s9 - 1)).toNat x1).length = n0 by first | assumption | (simp only [List.length_set, List.length_replicate]; first | done | assumption | omega) | omega)⟩
  rotate_left
  simp only [h5, if_false] at hr
  obtain rfl := Option.some.inj hr
  refine ⟨(.exit 2, ⟨[(0, .ref g1.length v0 0 n0), (1, PI s1), (2, PI s2), (3, .fn 43 []), (8, PI s8), (9, (PI s9))], (g1 ++ (.row false v0 2 (rowP encBind o0) :: (g2 ++ gt)))⟩), ?_, nofun, PI s9, gt, rfl, (show o0.length = n0 by first | assumption | (simp only [List.length_set, List.length_replicate]; first | done | assumption | omega) | omega)⟩
  rotate_left
  simp only [h1, if_false] at hr
  obtain rfl := Option.some.inj hr
  refine ⟨(.exit 2, ⟨[(0, .ref g1.length v0 0 n0), (1, PI s1), (2, PI s2), (3, .fn 43 []), (8, PI s8), (9, (PI s9))], (g1 ++ (.row false v0 2 (rowP encBind o0) :: (g2 ++ gt)))⟩), ?_, nofun, PI s9, gt, rfl, (show o0.length = n0 by first | assumption | (simp only [List.length_set, List.length_replicate]; first | done | assumption | omega) | omega)⟩
  rotate_left
  all_goals (simp (config := {decide := true}) only [go_sem, Int.reduceToNat, Nat.reduceAdd, Nat.reduceLT, Nat.reduceMul, Nat.reducePow, reduceCtorEq, slices_insertionSort_Bm_S1, b85_1, *])
theorem slices_insertionSort_Bm_L1 {s1 : Int} {s2 : Int} {s8 : Int} {g1 : AHeap} {v0 : Nat} {n0 : Nat} {g2 : AHeap} {s : Int × (List Bind)} {g : AHeap} {x} (h : wh (slices_insertionSort_Bm_l1 s1 s2 s8) s = some x) (hI : slices_insertionSort_Bm_I1 s1 s2 s8 g1 v0 n0 g2 s) : ∃ q, loopLim (semA C (Lim C) 17179886351 b85_1) (slices_insertionSort_Bm_S1 s1 s2 s8 g1 v0 n0 g2 s g) = some q ∧ slices_insertionSort_Bm_X1 s1 s2 s8 g1 v0 n0 g2 x q := wh_simI (slices_insertionSort_Bm_R1 s1 s2 s8 g1 v0 n0 g2) hI h
def slices_insertionSort_Bm_S0 (s1 : Int) (s2 : Int) (g1 : AHeap) (v0 : Nat) (n0 : Nat) (g2 : AHeap) : Int × (List Bind) → AHeap → St := fun (s8, o0) gt => ⟨[(0, .ref g1.length v0 0 n0), (1, PI s1), (2, PI s2), (3, .fn 43 []), (8, PI s8)], (g1 ++ (.row false v0 2 (rowP encBind o0) :: (g2 ++ gt)))⟩
def slices_insertionSort_Bm_I0 (s1 : Int) (s2 : Int) (g1 : AHeap) (v0 : Nat) (n0 : Nat) (g2 : AHeap) : Int × (List Bind) → Prop := fun (s8, o0) => o0.length = n0
def slices_insertionSort_Bm_X0 (s1 : Int) (s2 : Int) (g1 : AHeap) (v0 : Nat) (n0 : Nat) (g2 : AHeap) : (Int × (List Bind)) → AExit × St → Prop := fun (s8, o0) q => ∃ h1 : AHeap, q = (.exit 0, ⟨[(0, .ref g1.length v0 0 n0), (1, PI s1), (2, PI s2), (3, .fn 43 []), (8, PI s8)], (g1 ++ (.row false v0 2 (rowP encBind o0) :: (g2 ++ h1)))⟩) ∧ o0.length = n0
set_option maxHeartbeats 4000000 in
theorem slices_insertionSort_Bm_R0 (s1 : Int) (s2 : Int) (g1 : AHeap) (v0 : Nat) (n0 : Nat) (g2 : AHeap) : ∀ (s : Int × (List Bind)) (g : AHeap) r, slices_insertionSort_Bm_I0 s1 s2 g1 v0 n0 g2 s → slices_insertionSort_Bm_l0 s1 s2 s = some r → Sum.elim (fun s' => (∃ g', semA C (Lim C) 17179886351 b85_0 (slices_insertionSort_Bm_S0 s1 s2 g1 v0 n0 g2 s g) = some (.normal, slices_insertionSort_Bm_S0 s1 s2 g1 v0 n0 g2 s' g')) ∧ slices_insertionSort_Bm_I0 s1 s2 g1 v0 n0 g2 s') (fun x => ∃ q, semA C (Lim C) 17179886351 b85_0 (slices_insertionSort_Bm_S0 s1 s2 g1 v0 n0 g2 s g) = some q ∧ q.1 ≠ .normal ∧ slices_insertionSort_Bm_X0 s1 s2 g1 v0 n0 g2 x q) r := by
  intro s g r hI hr
  obtain ⟨s8, o0⟩ := s
  have ⟨gt, hg0⟩ : ∃ y, y = g := ⟨_, rfl⟩
  subst hg0
  simp only [slices_insertionSort_Bm_I0] at hI
  have hI0 := hI
  simp only [slices_insertionSort_Bm_l0] at hr
  rcases Classical.propComplete (s8 < s2) with h1 | h1
  simp only [h1, if_true] at hr
  obtain ⟨x5, h2, hr⟩ := bsome hr
  obtain ⟨q2, h2L, h2X⟩ := slices_insertionSort_Bm_L1 (g1 := g1) (v0 := v0) (n0 := n0) (g2 := (g2 ++ gt)) (g := []) h2 (show o0.length = n0 by first | assumption | (simp only [List.length_set, List.length_replicate]; first | done | assumption | omega) | omega)
  have ⟨x6, hq2⟩ : ∃ y, y = x5 := ⟨_, rfl⟩
  subst hq2
  simp only [slices_insertionSort_Bm_X1, slices_insertionSort_Bm_S1] at h2X h2L
  obtain ⟨z7, z8, rfl, h2l0⟩ := h2X
  try simp only [go_sem, Nat.reduceAdd] at h2L
  obtain rfl := Option.some.inj hr
  refine ⟨⟨(gt ++ z8), ?_⟩, (show x6.length = n0 by first | assumption | (simp only [List.length_set, List.length_replicate]; first | done | assumption | omega) | omega)⟩
  rotate_left
  simp only [h1, if_false] at hr
  obtain rfl := Option.some.inj hr
  refine ⟨(.exit 0, ⟨[(0, .ref g1.length v0 0 n0), (1, PI s1), (2, PI s2), (3, .fn 43 []), (8, PI s8)], (g1 ++ (.row false v0 2 (rowP encBind o0) :: (g2 ++ gt)))⟩), ?_, nofun, gt, rfl, (show o0.length = n0 by first | assumption | (simp only [List.length_set, List.length_replicate]; first | done | assumption | omega) | omega)⟩
  rotate_left
  all_goals (simp (config := {decide := true}) only [go_sem, Int.reduceToNat, Nat.reduceAdd, Nat.reduceLT, Nat.reduceMul, Nat.reducePow, reduceCtorEq, slices_insertionSort_Bm_S0, b85_0, *])
theorem slices_insertionSort_Bm_L0 {s1 : Int} {s2 : Int} {g1 : AHeap} {v0 : Nat} {n0 : Nat} {g2 : AHeap} {s : Int × (List Bind)} {g : AHeap} {x} (h : wh (slices_insertionSort_Bm_l0 s1 s2) s = some x) (hI : slices_insertionSort_Bm_I0 s1 s2 g1 v0 n0 g2 s) : ∃ q, loopLim (semA C (Lim C) 17179886351 b85_0) (slices_insertionSort_Bm_S0 s1 s2 g1 v0 n0 g2 s g) = some q ∧ slices_insertionSort_Bm_X0 s1 s2 g1 v0 n0 g2 x q := wh_simI (slices_insertionSort_Bm_R0 s1 s2 g1 v0 n0 g2) hI h
set_option maxHeartbeats 4000000 in
theorem slices_insertionSort_Bm_R {s1 : Int} {s2 : Int} {o0 : List Bind} {g1 : AHeap} {v0 : Nat} {n0 : Nat} {g2 : AHeap} (hln0 : o0.length = n0) {r : (List Bind)} (hr : slices_insertionSort_Bm s1 s2 o0 = some r) : ∃ hz : AHeap, Lim C 85 [.ref g1.length v0 0 n0, PI s1, PI s2, .fn 43 []] (g1 ++ (.row false v0 2 (rowP encBind o0) :: g2)) = some (resOf [], (g1 ++ (.row false v0 2 (rowP encBind r) :: (g2 ++ hz)))) ∧ r.length = n0 := by
  simp only [slices_insertionSort_Bm] at hr
  obtain ⟨x9, h1, hr⟩ := bsome hr
  obtain ⟨q1, h1L, h1X⟩ := slices_insertionSort_Bm_L0 (g1 := g1) (v0 := v0) (n0 := n0) (g2 := g2) (g := []) h1 (show o0.length = n0 by first | assumption | (simp only [List.length_set, List.length_replicate]; first | done | assumption | omega) | omega)
  obtain ⟨x10, x11⟩ := x9
  simp only [slices_insertionSort_Bm_X0, slices_insertionSort_Bm_S0] at h1X h1L
  obtain ⟨z12, rfl, h1l0⟩ := h1X
  try simp only [go_sem, Nat.reduceAdd] at h1L
  obtain rfl := Option.some.inj hr
  refine ⟨z12, Lim_A is85 (Nat.le_of_ble_eq_true rfl) (e := .normal) (env := [(0, .ref g1.length v0 0 n0), (1, PI s1), (2, PI s2), (3, .fn 43 []), (8, PI x10)]) (h' := (g1 ++ (.row false v0 2 (rowP encBind x11) :: (g2 ++ z12)))) (vs := []) ?_ (.inl rfl) rfl, (show x11.length = n0 by first | assumption | (simp only [List.length_set, List.length_replicate]; first | done | assumption | omega) | omega)⟩
  rotate_left
  all_goals (simp (config := {decide := true}) only [go_sem, Int.reduceToNat, Nat.reduceAdd, Nat.reduceLT, Nat.reduceMul, Nat.reducePow, reduceCtorEq, callEnv, c85, *])
theorem slices_insertionSort_Bm_k {s1 : Int} {s2 : Int} {o0 : List Bind} {g1 : AHeap} {v0 : Nat} {n0 : Nat} {g2 : AHeap} (hln0 : o0.length = n0) {r : (List Bind)} (hr : slices_insertionSort_Bm s1 s2 o0 = some r) : ∃ hz : AHeap, callP C (Lim C) 85 [.ref g1.length v0 0 n0, PI s1, PI s2, .fn 43 []] (g1 ++ (.row false v0 2 (rowP encBind o0) :: g2)) = some (resOf [], (g1 ++ (.row false v0 2 (rowP encBind r) :: (g2 ++ hz)))) ∧ r.length = n0 := by
  obtain ⟨hz, h1, f0⟩ := slices_insertionSort_Bm_R hln0 hr (g1 := g1) (v0 := v0) (n0 := n0) (g2 := g2)
  exact ⟨hz, call_live rfl rfl rfl h1, f0⟩
def b102_0 : ACode := .block 1 288231475663603712 (.seq (.reg [] [] [.M 13 10, .T 14 (.bin .mul (cI 2) (.tmp 13)), .T 15 (.bin .add (.tmp 14) (cI 1)), .N 11 15]) (.seq (.seq (.reg [] [] [.M 16 11, .M 17 2, .K 18 (.bin .geq (.tmp 16) (.tmp 17))]) (.cond (.tmp 18) (some 18) (.exit 0) (.skip))) (.seq (.seq (.reg [] [] [.M 19 11, .T 20 (.bin .add (.tmp 19) (cI 1)), .M 21 2, .T 22 (.bin .lss (.tmp 20) (.tmp 21)), .M 23 22, .MG 24 23 true 4, .MG 25 23 true 0, .MG 26 23 true 3, .MG 27 23 true 11, .TG 28 23 true (.bin .add (.tmp 26) (.tmp 27)), ⟨some (29, false), .ix 2 (.tmp 25) (.tmp 28), some (23, true), true, false⟩, ⟨some (30, false), .load (some 2) (.tmp 29), some (23, true), true, false⟩, .MG 31 23 true 0, .MG 32 23 true 3, .MG 33 23 true 11, .TG 34 23 true (.bin .add (.tmp 32) (.tmp 33)), .TG 35 23 true (.bin .add (.tmp 34) (cI 1)), ⟨some (36, false), .ix 2 (.tmp 31) (.tmp 35), some (23, true), true, false⟩, ⟨some (37, false), .load (some 2) (.tmp 36), some (23, true), true, false⟩, ⟨some (38, false), .callV (.tmp 24) [.tmp 30, .tmp 37], some (23, true), true, false⟩, .TG 39 23 true (.bin .lss (.tmp 38) (cI 0)), .K 40 (.pick (.tmp 23) (.tmp 39) (.const (.bool false)))]) (.cond (.tmp 40) (some 40) (.reg [] [] [.M 41 11, .T 42 (.bin .add (.tmp 41) (cI 1)), .N 11 42]) (.skip))) (.seq (.seq (.reg [] [] [.M 43 4, .M 44 0, .M 45 3, .M 46 10, .T 47 (.bin .add (.tmp 45) (.tmp 46)), ⟨some (48, false), .ix 2 (.tmp 44) (.tmp 47), none, true, false⟩, ⟨some (49, false), .load (some 2) (.tmp 48), none, true, false⟩, .M 50 0, .M 51 3, .M 52 11, .T 53 (.bin .add (.tmp 51) (.tmp 52)), ⟨some (54, false), .ix 2 (.tmp 50) (.tmp 53), none, true, false⟩, ⟨some (55, false), .load (some 2) (.tmp 54), none, true, false⟩, ⟨some (56, false), .callV (.tmp 43) [.tmp 49, .tmp 55], none, true, false⟩, .T 57 (.bin .lss (.tmp 56) (cI 0)), .K 58 (.not (.tmp 57))]) (.cond (.tmp 58) (some 58) (.ret) (.skip))) (.seq (.reg [] [] [.M 59 0, .M 60 3, .M 61 10, .T 62 (.bin .add (.tmp 60) (.tmp 61)), .M 63 0, .M 64 3, .M 65 11, .T 66 (.bin .add (.tmp 64) (.tmp 65)), .M 67 0, .M 68 3, .M 69 11, .T 70 (.bin .add (.tmp 68) (.tmp 69)), ⟨some (71, false), .ix 2 (.tmp 67) (.tmp 70), none, true, false⟩, ⟨some (72, false), .load (some 2) (.tmp 71), none, true, false⟩, .M 73 0, .M 74 3, .M 75 10, .T 76 (.bin .add (.tmp 74) (.tmp 75)), ⟨some (77, false), .ix 2 (.tmp 73) (.tmp 76), none, true, false⟩, ⟨some (78, false), .load (some 2) (.tmp 77), none, true, false⟩, ⟨some (79, false), .ix 2 (.tmp 59) (.tmp 62), none, true, false⟩, ⟨none, .store 2 (.tmp 79) (.tmp 72), none, false, false⟩, ⟨some (80, false), .ix 2 (.tmp 63) (.tmp 66), none, true, false⟩, ⟨none, .store 2 (.tmp 80) (.tmp 78), none, false, false⟩]) (.reg [] [] [.M 81 11, .N 10 81]))))))
def c102 : ACode := .seq (.reg [] [] [.M 12 1, .N 10 12]) (.block 0 288231475663603712 (.loop b102_0))
theorem is102 : IsF C 102 82 288231475663604767 c102 [] := ⟨⟨Tryd.f102, _, C_P ▸ Tryd.func102, rfl, rfl, rfl, by kernel_rfl, rfl⟩⟩
def slices_siftDown_Bm_S0 (s1 : Int) (s2 : Int) (s3 : Int) (g1 : AHeap) (v0 : Nat) (n0 : Nat) (g2 : AHeap) : Int × (List Bind) → AHeap → St := fun (s10, o0) gt => ⟨[(0, .ref g1.length v0 0 n0), (1, PI s1), (2, PI s2), (3, PI s3), (4, .fn 43 []), (10, PI s10)], (g1 ++ (.row false v0 2 (rowP encBind o0) :: (g2 ++ gt)))⟩
def slices_siftDown_Bm_I0 (s1 : Int) (s2 : Int) (s3 : Int) (g1 : AHeap) (v0 : Nat) (n0 : Nat) (g2 : AHeap) : Int × (List Bind) → Prop := fun (s10, o0) => o0.length = n0
def slices_siftDown_Bm_X0 (s1 : Int) (s2 : Int) (s3 : Int) (g1 : AHeap) (v0 : Nat) (n0 : Nat) (g2 : AHeap) : ((Int × (List Bind)) ⊕ ((List Bind))) → AExit × St → Prop
  | .inl (s10, o0), q => ∃ d11 : PV, ∃ h1 : AHeap, q = (.exit 0, ⟨[(0, .ref g1.length v0 0 n0), (1, PI s1), (2, PI s2), (3, PI s3), (4, .fn 43 []), (10, PI s10), (11, d11)], (g1 ++ (.row false v0 2 (rowP encBind o0) :: (g2 ++ h1)))⟩) ∧ o0.length = n0
  | .inr r, q => q.1 = .ret ∧ ∃ hz : AHeap, mapO (resP C.P q.2) [] = some [] ∧ q.2.h = (g1 ++ (.row false v0 2 (rowP encBind r) :: (g2 ++ hz))) ∧ r.length = n0
set_option maxHeartbeats 4000000 in
theorem slices_siftDown_Bm_R0 (s1 : Int) (s2 : Int) (s3 : Int) (g1 : AHeap) (v0 : Nat) (n0 : Nat) (g2 : AHeap) : ∀ (s : Int × (List Bind)) (g : AHeap) r, slices_siftDown_Bm_I0 s1 s2 s3 g1 v0 n0 g2 s → slices_siftDown_Bm_l0 s1 s2 s3 s = some r → Sum.elim (fun s' => (∃ g', semA C (Lim C) 288231475663604767 b102_0 (slices_siftDown_Bm_S0 s1 s2 s3 g1 v0 n0 g2 s g) = some (.normal, slices_siftDown_Bm_S0 s1 s2 s3 g1 v0 n0 g2 s' g')) ∧ slices_siftDown_Bm_I0 s1 s2 s3 g1 v0 n0 g2 s') (fun x => ∃ q, semA C (Lim C) 288231475663604767 b102_0 (slices_siftDown_Bm_S0 s1 s2 s3 g1 v0 n0 g2 s g) = some q ∧ q.1 ≠ .normal ∧ slices_siftDown_Bm_X0 s1 s2 s3 g1 v0 n0 g2 x q) r := by
  intro s g r hI hr
  obtain ⟨s10, o0⟩ := s
  have ⟨gt, hg0⟩ : ∃ y, y = g := ⟨_, rfl⟩
  subst hg0
  simp only [slices_siftDown_Bm_I0] at hI
  have hI0 := hI
  simp only [slices_siftDown_Bm_l0] at hr
  rcases Classical.propComplete (s2 ≤ (w64 ((w64 (2 * s10)) + 1))) with h1 | h1
  simp only [h1, if_true] at hr
  obtain rfl := Option.some.inj hr
  refine ⟨(.exit 0, ⟨[(0, .ref g1.length v0 0 n0), (1, PI s1), (2, PI s2), (3, PI s3), (4, .fn 43 []), (10, PI s10), (11, (PI (w64 ((w64 (2 * s10)) + 1))))], (g1 ++ (.row false v0 2 (rowP encBind o0) :: (g2 ++ gt)))⟩), ?_, nofun, PI (w64 ((w64 (2 * s10)) + 1)), gt, rfl, (show o0.length = n0 by first | assumption | (simp only [List.length_set, List.length_replicate]; first | done | assumption | omega) | omega)⟩
  rotate_left
  simp only [h1, if_false] at hr
  rcases Classical.propComplete ((w64 ((w64 ((w64 (2 * s10)) + 1)) + 1)) < s2) with h2 | h2
  simp only [h2, if_true] at hr
  obtain ⟨x1, h3, hr⟩ := bsome hr
  have h3a := eq_true (idx_some h3).1
  have h3b : ((w64 (s3 + (w64 ((w64 (2 * s10)) + 1)))) < (n0 : Int)) = True := eq_true (by have hb : (w64 (s3 + (w64 ((w64 (2 * s10)) + 1)))) < (o0.length : Int) := (idx_some h3).2.1; omega)
  have h3c := (idx_some h3).2.2
  obtain ⟨x2, h4, hr⟩ := bsome hr
  have h4a := eq_true (idx_some h4).1
  have h4b : ((w64 ((w64 (s3 + (w64 ((w64 (2 * s10)) + 1)))) + 1)) < (n0 : Int)) = True := eq_true (by have hb : (w64 ((w64 (s3 + (w64 ((w64 (2 * s10)) + 1)))) + 1)) < (o0.length : Int) := (idx_some h4).2.1; omega)
  have h4c := (idx_some h4).2.2
  obtain ⟨x3, h5, hr⟩ := bsome hr
  have h5k := fun h => match_Match_c1_o (h := h) (args := [.ag [PI x1.Var, .d (.rd (x1.T.map intD))], .ag [PI x2.Var, .d (.rd (x2.T.map intD))]]) h5 rfl
  try simp only [go_sem] at h5k
  rcases Classical.propComplete (x3 < 0) with h6 | h6
  simp only [h6, if_true] at hr
  obtain ⟨x4, h7, hr⟩ := bsome hr
  have h7a := eq_true (idx_some h7).1
  have h7b : ((w64 (s3 + s10)) < (n0 : Int)) = True := eq_true (by have hb : (w64 (s3 + s10)) < (o0.length : Int) := (idx_some h7).2.1; omega)
  have h7c := (idx_some h7).2.2
  obtain ⟨x5, h8, hr⟩ := bsome hr
  have h8a := eq_true (idx_some h8).1
  have h8b : ((w64 (s3 + (w64 ((w64 ((w64 (2 * s10)) + 1)) + 1)))) < (n0 : Int)) = True := eq_true (by have hb : (w64 (s3 + (w64 ((w64 ((w64 (2 * s10)) + 1)) + 1)))) < (o0.length : Int) := (idx_some h8).2.1; omega)
  have h8c := (idx_some h8).2.2
  obtain ⟨x6, h9, hr⟩ := bsome hr
  have h9k := fun h => match_Match_c1_o (h := h) (args := [.ag [PI x4.Var, .d (.rd (x4.T.map intD))], .ag [PI x5.Var, .d (.rd (x5.T.map intD))]]) h9 rfl
  try simp only [go_sem] at h9k
  rcases Classical.propComplete (x6 < 0) with h10 | h10
  simp only [h10, if_true] at hr
  obtain ⟨x7, h11, hr⟩ := bsome hr
  have h11a := eq_true (idx_some h11).1
  have h11b : ((w64 (s3 + (w64 ((w64 ((w64 (2 * s10)) + 1)) + 1)))) < (n0 : Int)) = True := eq_true (by have hb : (w64 (s3 + (w64 ((w64 ((w64 (2 * s10)) + 1)) + 1)))) < ((o0.set (w64 (s3 + s10)).toNat x5).length : Int) := (idx_some h11).2.1; simp only [List.length_set, List.length_replicate] at hb; omega)
  have h11c := (idx_some h11).2.2
  obtain rfl := Option.some.inj hr
  refine ⟨⟨gt, ?_⟩, (show ((o0.set (w64 (s3 + s10)).toNat x5).set (w64 (s3 + (w64 ((w64 ((w64 (2 * s10)) + 1)) + 1)))).toNat x4).length = n0 by first | assumption | (simp only [List.length_set, List.length_replicate]; first | done | assumption | omega) | omega)⟩
  rotate_left
  simp only [h10, if_false] at hr
  obtain rfl := Option.some.inj hr
  refine ⟨(.ret, ⟨[(0, .ref g1.length v0 0 n0), (1, PI s1), (2, PI s2), (3, PI s3), (4, .fn 43 []), (10, PI s10), (11, PI (w64 ((w64 ((w64 (2 * s10)) + 1)) + 1)))], (g1 ++ (.row false v0 2 (rowP encBind o0) :: (g2 ++ gt)))⟩), ?_, nofun, rfl, gt, rfl, rfl, (show o0.length = n0 by first | assumption | (simp only [List.length_set, List.length_replicate]; first | done | assumption | omega) | omega)⟩
  rotate_left
  simp only [h6, if_false] at hr
  obtain ⟨x8, h12, hr⟩ := bsome hr
  have h12a := eq_true (idx_some h12).1
  have h12b : ((w64 (s3 + s10)) < (n0 : Int)) = True := eq_true (by have hb : (w64 (s3 + s10)) < (o0.length : Int) := (idx_some h12).2.1; omega)
  have h12c := (idx_some h12).2.2
  obtain ⟨x9, h13, hr⟩ := bsome hr
  have h13k := fun h => match_Match_c1_o (h := h) (args := [.ag [PI x8.Var, .d (.rd (x8.T.map intD))], .ag [PI x1.Var, .d (.rd (x1.T.map intD))]]) h13 rfl
  try simp only [go_sem] at h13k
  rcases Classical.propComplete (x9 < 0) with h14 | h14
  simp only [h14, if_true] at hr
  obtain ⟨x10, h15, hr⟩ := bsome hr
  have h15a := eq_true (idx_some h15).1
  have h15b : ((w64 (s3 + (w64 ((w64 (2 * s10)) + 1)))) < (n0 : Int)) = True := eq_true (by have hb : (w64 (s3 + (w64 ((w64 (2 * s10)) + 1)))) < ((o0.set (w64 (s3 + s10)).toNat x1).length : Int) := (idx_some h15).2.1; simp only [List.length_set, List.length_replicate] at hb; omega)
  have h15c := (idx_some h15).2.2
  obtain rfl := Option.some.inj hr
  refine ⟨⟨gt, ?_⟩, (show ((o0.set (w64 (s3 + s10)).toNat x1).set (w64 (s3 + (w64 ((w64 (2 * s10)) + 1)))).toNat x8).length = n0 by first | assumption | (simp only [List.length_set, List.length_replicate]; first | done | assumption | omega) | omega)⟩
  rotate_left
  simp only [h14, if_false] at hr
  obtain rfl := Option.some.inj hr
  refine ⟨(.ret, ⟨[(0, .ref g1.length v0 0 n0), (1, PI s1), (2, PI s2), (3, PI s3), (4, .fn 43 []), (10, PI s10), (11, PI (w64 ((w64 (2 * s10)) + 1)))], (g1 ++ (.row false v0 2 (rowP encBind o0) :: (g2 ++ gt)))⟩), ?_, nofun, rfl, gt, rfl, rfl, (show o0.length = n0 by first | assumption | (simp only [List.length_set, List.length_replicate]; first | done | assumption | omega) | omega)⟩
  rotate_left
  simp only [h2, if_false] at hr
  obtain ⟨x11, h16, hr⟩ := bsome hr
  have h16a := eq_true (idx_some h16).1
  have h16b : ((w64 (s3 + s10)) < (n0 : Int)) = True := eq_true (by have hb : (w64 (s3 + s10)) < (o0.length : Int) := (idx_some h16).2.1; omega)
  have h16c := (idx_some h16).2.2
  obtain ⟨x12, h17, hr⟩ := bsome hr
  have h17a := eq_true (idx_some h17).1
  have h17b : ((w64 (s3 + (w64 ((w64 (2 * s10)) + 1)))) < (n0 : Int)) = True := eq_true (by have hb : (w64 (s3 + (w64 ((w64 (2 * s10)) + 1)))) < (o0.length : Int) := (idx_some h17).2.1; omega)
  have h17c := (idx_some h17).2.2
  obtain ⟨x13, h18, hr⟩ := bsome hr
  have h18k := fun h => match_Match_c1_o (h := h) (args := [.ag [PI x11.Var, .d (.rd (x11.T.map intD))], .ag [PI x12.Var, .d (.rd (x12.T.map intD))]]) h18 rfl
  try simp only [go_sem] at h18k
  rcases Classical.propComplete (x13 < 0) with h19 | h19
  simp only [h19, if_true] at hr
  obtain ⟨x14, h20, hr⟩ := bsome hr
  have h20a := eq_true (idx_some h20).1
  have h20b : ((w64 (s3 + (w64 ((w64 (2 * s10)) + 1)))) < (n0 : Int)) = True := eq_true (by have hb : (w64 (s3 + (w64 ((w64 (2 * s10)) + 1)))) < ((o0.set (w64 (s3 + s10)).toNat x12).length : Int) := (idx_some h20).2.1; simp only [List.length_set, List.length_replicate] at hb; omega)
  have h20c := (idx_some h20).2.2
  obtain rfl := Option.some.inj hr
  refine ⟨⟨gt, ?_⟩, (show ((o0.set (w64 (s3 + s10)).toNat x12).set (w64 (s3 + (w64 ((w64 (2 * s10)) + 1)))).toNat x11).length = n0 by first | assumption | (simp only [List.length_set, List.length_replicate]; first | done | assumption | omega) | omega)⟩
  rotate_left
  simp only [h19, if_false] at hr
  obtain rfl := Option.some.inj hr
  refine ⟨(.ret, ⟨[(0, .ref g1.length v0 0 n0), (1, PI s1), (2, PI s2), (3, PI s3), (4, .fn 43 []), (10, PI s10), (11, PI (w64 ((w64 (2 * s10)) + 1)))], (g1 ++ (.row false v0 2 (rowP encBind o0) :: (g2 ++ gt)))⟩), ?_, nofun, rfl, gt, rfl, rfl, (show o0.length = n0 by first | assumption | (simp only [List.length_set, List.length_replicate]; first | done | assumption | omega) | omega)⟩
  rotate_left
  all_goals (simp (config := {decide := true}) only [go_sem, Int.reduceToNat, Nat.reduceAdd, Nat.reduceLT, Nat.reduceMul, Nat.reducePow, reduceCtorEq, slices_siftDown_Bm_S0, b102_0, *])
theorem slices_siftDown_Bm_L0 {s1 : Int} {s2 : Int} {s3 : Int} {g1 : AHeap} {v0 : Nat} {n0 : Nat} {g2 : AHeap} {s : Int × (List Bind)} {g : AHeap} {x} (h : wh (slices_siftDown_Bm_l0 s1 s2 s3) s = some x) (hI : slices_siftDown_Bm_I0 s1 s2 s3 g1 v0 n0 g2 s) : ∃ q, loopLim (semA C (Lim C) 288231475663604767 b102_0) (slices_siftDown_Bm_S0 s1 s2 s3 g1 v0 n0 g2 s g) = some q ∧ slices_siftDown_Bm_X0 s1 s2 s3 g1 v0 n0 g2 x q := wh_simI (slices_siftDown_Bm_R0 s1 s2 s3 g1 v0 n0 g2) hI h
set_option maxHeartbeats 4000000 in
theorem slices_siftDown_Bm_R {s1 : Int} {s2 : Int} {s3 : Int} {o0 : List Bind} {g1 : AHeap} {v0 : Nat} {n0 : Nat} {g2 : AHeap} (hln0 : o0.length = n0) {r : (List Bind)} (hr : slices_siftDown_Bm s1 s2 s3 o0 = some r) : ∃ hz : AHeap, Lim C 102 [.ref g1.length v0 0 n0, PI s1, PI s2, PI s3, .fn 43 []] (g1 ++ (.row false v0 2 (rowP encBind o0) :: g2)) = some (resOf [], (g1 ++ (.row false v0 2 (rowP encBind r) :: (g2 ++ hz)))) ∧ r.length = n0 := by
  simp only [slices_siftDown_Bm] at hr
  obtain ⟨x15, h1, hr⟩ := bsome hr
  obtain ⟨q1, h1L, h1X⟩ := slices_siftDown_Bm_L0 (g1 := g1) (v0 := v0) (n0 := n0) (g2 := g2) (g := []) h1 (show o0.length = n0 by first | assumption | (simp only [List.length_set, List.length_replicate]; first | done | assumption | omega) | omega)
  rcases x15 with ⟨x16, x17⟩ | x20
  simp only [slices_siftDown_Bm_X0, slices_siftDown_Bm_S0] at h1X h1L
  obtain ⟨z18, z19, rfl, h1l0⟩ := h1X
  try simp only [go_sem, Nat.reduceAdd] at h1L
  obtain rfl := Option.some.inj hr
  refine ⟨z19, Lim_A is102 (Nat.le_of_ble_eq_true rfl) (e := .normal) (env := [(0, .ref g1.length v0 0 n0), (1, PI s1), (2, PI s2), (3, PI s3), (4, .fn 43 []), (10, PI x16)]) (h' := (g1 ++ (.row false v0 2 (rowP encBind x17) :: (g2 ++ z19)))) (vs := []) ?_ (.inl rfl) rfl, (show x17.length = n0 by first | assumption | (simp only [List.length_set, List.length_replicate]; first | done | assumption | omega) | omega)⟩
  rotate_left
  simp only [slices_siftDown_Bm_X0, slices_siftDown_Bm_S0] at h1X h1L
  obtain ⟨e1, st1⟩ := q1
  obtain ⟨rfl, h1R⟩ := h1X
  obtain ⟨env1, hp1⟩ := st1
  obtain ⟨y1, h1v, h1h, h1f0⟩ := h1R
  replace h1h : hp1 = _ := h1h
  subst h1h
  try simp only [go_sem, Nat.reduceAdd] at h1L
  obtain rfl := Option.some.inj hr
  refine ⟨y1, Lim_A is102 (Nat.le_of_ble_eq_true rfl) (e := .ret) (env := env1) ?_ (.inr rfl) h1v, h1f0⟩
  rotate_left
  all_goals (simp (config := {decide := true}) only [go_sem, Int.reduceToNat, Nat.reduceAdd, Nat.reduceLT, Nat.reduceMul, Nat.reducePow, reduceCtorEq, callEnv, c102, *])
theorem slices_siftDown_Bm_k {s1 : Int} {s2 : Int} {s3 : Int} {o0 : List Bind} {g1 : AHeap} {v0 : Nat} {n0 : Nat} {g2 : AHeap} (hln0 : o0.length = n0) {r : (List Bind)} (hr : slices_siftDown_Bm s1 s2 s3 o0 = some r) : ∃ hz : AHeap, callP C (Lim C) 102 [.ref g1.length v0 0 n0, PI s1, PI s2, PI s3, .fn 43 []] (g1 ++ (.row false v0 2 (rowP encBind o0) :: g2)) = some (resOf [], (g1 ++ (.row false v0 2 (rowP encBind r) :: (g2 ++ hz)))) ∧ r.length = n0 := by
  obtain ⟨hz, h1, f0⟩ := slices_siftDown_Bm_R hln0 hr (g1 := g1) (v0 := v0) (n0 := n0) (g2 := g2)
  exact ⟨hz, call_live rfl rfl rfl h1, f0⟩
def b86_1 : ACode := .seq (.seq (.reg [] [] [.M 32 12, .K 33 (.bin .geq (.tmp 32) (cI 0))]) (.cond (.tmp 33) (some 33) (.skip) (.exit 2))) (.seq (.block 3 8589934592 (.seq (.reg [] [] [.M 36 0, .M 37 8, .M 38 0, .M 39 8, .M 40 12, .T 41 (.bin .add (.tmp 39) (.tmp 40)), .M 42 0, .M 43 8, .M 44 12, .T 45 (.bin .add (.tmp 43) (.tmp 44)), ⟨some (46, false), .ix 2 (.tmp 42) (.tmp 45), none, true, false⟩, ⟨some (47, false), .load (some 2) (.tmp 46), none, true, false⟩, .M 48 0, .M 49 8, ⟨some (50, false), .ix 2 (.tmp 48) (.tmp 49), none, true, false⟩, ⟨some (51, false), .load (some 2) (.tmp 50), none, true, false⟩, ⟨some (52, false), .ix 2 (.tmp 36) (.tmp 37), none, true, false⟩, ⟨none, .store 2 (.tmp 52) (.tmp 47), none, false, false⟩, ⟨some (53, false), .ix 2 (.tmp 38) (.tmp 41), none, true, false⟩, ⟨none, .store 2 (.tmp 53) (.tmp 51), none, false, false⟩]) (.reg [] [] [.M 54 0, .M 55 9, .M 56 12, .M 57 8, .M 58 3, .T 59 (.call 102 [.tmp 54, .tmp 55, .tmp 56, .tmp 57, .tmp 58])]))) (.reg [] [] [.M 34 12, .T 35 (.bin .sub (.tmp 34) (cI 1)), .N 12 35]))
def b86_0 : ACode := .seq (.seq (.reg [] [] [.M 20 11, .K 21 (.bin .geq (.tmp 20) (cI 0))]) (.cond (.tmp 21) (some 21) (.skip) (.exit 0))) (.seq (.block 1 2097152 (.reg [] [] [.M 24 0, .M 25 11, .M 26 10, .M 27 8, .M 28 3, .T 29 (.call 102 [.tmp 24, .tmp 25, .tmp 26, .tmp 27, .tmp 28])])) (.reg [] [] [.M 22 11, .T 23 (.bin .sub (.tmp 22) (cI 1)), .N 11 23]))
def c86 : ACode := .seq (.reg [] [] [.M 13 1, .N 8 13]) (.seq (.reg [] [] [.K 9 (.mv (cI 0))]) (.seq (.reg [] [] [.M 14 2, .M 15 1, .T 16 (.bin .sub (.tmp 14) (.tmp 15)), .N 10 16]) (.seq (.seq (.reg [] [] [.M 17 10, .T 18 (.bin .sub (.tmp 17) (cI 1)), .T 19 (.binM .quo (.tmp 18) (cI 2)), .N 11 19]) (.block 0 2097152 (.loop b86_0))) (.seq (.reg [] [] [.M 30 10, .T 31 (.bin .sub (.tmp 30) (cI 1)), .N 12 31]) (.block 2 8589934592 (.loop b86_1))))))
theorem is86 : IsF C 86 60 8592039695 c86 [] := ⟨⟨Tryd.f86, _, C_P ▸ Tryd.func86, rfl, rfl, rfl, by kernel_rfl, rfl⟩⟩
def slices_heapSort_Bm_S1 (s1 : Int) (s2 : Int) (s8 : Int) (s10 : Int) (s11 : Int) (g1 : AHeap) (v0 : Nat) (n0 : Nat) (g2 : AHeap) : Int × (List Bind) → AHeap → St := fun (s12, o0) gt => ⟨[(0, .ref g1.length v0 0 n0), (1, PI s1), (2, PI s2), (3, .fn 43 []), (8, PI s8), (9, PI 0), (10, PI s10), (11, PI s11), (12, PI s12)], (g1 ++ (.row false v0 2 (rowP encBind o0) :: (g2 ++ gt)))⟩
def slices_heapSort_Bm_I1 (s1 : Int) (s2 : Int) (s8 : Int) (s10 : Int) (s11 : Int) (g1 : AHeap) (v0 : Nat) (n0 : Nat) (g2 : AHeap) : Int × (List Bind) → Prop := fun (s12, o0) => o0.length = n0
def slices_heapSort_Bm_X1 (s1 : Int) (s2 : Int) (s8 : Int) (s10 : Int) (s11 : Int) (g1 : AHeap) (v0 : Nat) (n0 : Nat) (g2 : AHeap) : (Int × (List Bind)) → AExit × St → Prop := fun (s12, o0) q => ∃ h1 : AHeap, q = (.exit 2, ⟨[(0, .ref g1.length v0 0 n0), (1, PI s1), (2, PI s2), (3, .fn 43 []), (8, PI s8), (9, PI 0), (10, PI s10), (11, PI s11), (12, PI s12)], (g1 ++ (.row false v0 2 (rowP encBind o0) :: (g2 ++ h1)))⟩) ∧ o0.length = n0
set_option maxHeartbeats 4000000 in
theorem slices_heapSort_Bm_R1 (s1 : Int) (s2 : Int) (s8 : Int) (s10 : Int) (s11 : Int) (g1 : AHeap) (v0 : Nat) (n0 : Nat) (g2 : AHeap) : ∀ (s : Int × (List Bind)) (g : AHeap) r, slices_heapSort_Bm_I1 s1 s2 s8 s10 s11 g1 v0 n0 g2 s → slices_heapSort_Bm_l1 s1 s2 s8 s10 s11 s = some r → Sum.elim (fun s' => (∃ g', semA C (Lim C) 8592039695 b86_1 (slices_heapSort_Bm_S1 s1 s2 s8 s10 s11 g1 v0 n0 g2 s g) = some (.normal, slices_heapSort_Bm_S1 s1 s2 s8 s10 s11 g1 v0 n0 g2 s' g')) ∧ slices_heapSort_Bm_I1 s1 s2 s8 s10 s11 g1 v0 n0 g2 s') (fun x => ∃ q, semA C (Lim C) 8592039695 b86_1 (slices_heapSort_Bm_S1 s1 s2 s8 s10 s11 g1 v0 n0 g2 s g) = some q ∧ q.1 ≠ .normal ∧ slices_heapSort_Bm_X1 s1 s2 s8 s10 s11 g1 v0 n0 g2 x q) r := by
  intro s g r hI hr
  obtain ⟨s12, o0⟩ := s
  have ⟨gt, hg0⟩ : ∃ y, y = g := ⟨_, rfl⟩
  subst hg0
  simp only [slices_heapSort_Bm_I1] at hI
  have hI0 := hI
  simp only [slices_heapSort_Bm_l1] at hr
  rcases Classical.propComplete (0 ≤ s12) with h1 | h1
  simp only [h1, if_true] at hr
  obtain ⟨x8, h2, hr⟩ := bsome hr
  have h2a := eq_true (idx_some h2).1
  have h2b : ((w64 (s8 + s12)) < (n0 : Int)) = True := eq_true (by have hb : (w64 (s8 + s12)) < (o0.length : Int) := (idx_some h2).2.1; omega)
  have h2c := (idx_some h2).2.2
  obtain ⟨x9, h3, hr⟩ := bsome hr
  have h3a := eq_true (idx_some h3).1
  have h3b : (s8 < (n0 : Int)) = True := eq_true (by have hb : s8 < (o0.length : Int) := (idx_some h3).2.1; omega)
  have h3c := (idx_some h3).2.2
  obtain ⟨x10, h4, hr⟩ := bsome hr
  have h4a := eq_true (idx_some h4).1
  have h4b : ((w64 (s8 + s12)) < (n0 : Int)) = True := eq_true (by have hb : (w64 (s8 + s12)) < ((o0.set (s8).toNat x8).length : Int) := (idx_some h4).2.1; simp only [List.length_set, List.length_replicate] at hb; omega)
  have h4c := (idx_some h4).2.2
  obtain ⟨x11, h5, hr⟩ := bsome hr
  obtain ⟨z12, h5k, h5l0⟩ := slices_siftDown_Bm_k (g1 := g1) (v0 := v0) (n0 := n0) (g2 := (g2 ++ gt)) (show ((o0.set (s8).toNat x8).set (w64 (s8 + s12)).toNat x9).length = n0 by first | assumption | (simp only [List.length_set, List.length_replicate]; first | done | assumption | omega) | omega) h5
  try simp only [go_sem, Nat.reduceAdd] at h5k
  obtain rfl := Option.some.inj hr
  refine ⟨⟨(gt ++ z12), ?_⟩, (show x11.length = n0 by first | assumption | (simp only [List.length_set, List.length_replicate]; first | done | assumption | omega) | omega)⟩
  rotate_left
  simp only [h1, if_false] at hr
  obtain rfl := Option.some.inj hr
  refine ⟨(.exit 2, ⟨[(0, .ref g1.length v0 0 n0), (1, PI s1), (2, PI s2), (3, .fn 43 []), (8, PI s8), (9, PI 0), (10, PI s10), (11, PI s11), (12, PI s12)], (g1 ++ (.row false v0 2 (rowP encBind o0) :: (g2 ++ gt)))⟩), ?_, nofun, gt, rfl, (show o0.length = n0 by first | assumption | (simp only [List.length_set, List.length_replicate]; first | done | assumption | omega) | omega)⟩
  rotate_left
  all_goals (simp (config := {decide := true}) only [go_sem, Int.reduceToNat, Nat.reduceAdd, Nat.reduceLT, Nat.reduceMul, Nat.reducePow, reduceCtorEq, slices_heapSort_Bm_S1, b86_1, *])
theorem slices_heapSort_Bm_L1 {s1 : Int} {s2 : Int} {s8 : Int} {s10 : Int} {s11 : Int} {g1 : AHeap} {v0 : Nat} {n0 : Nat} {g2 : AHeap} {s : Int × (List Bind)} {g : AHeap} {x} (h : wh (slices_heapSort_Bm_l1 s1 s2 s8 s10 s11) s = some x) (hI : slices_heapSort_Bm_I1 s1 s2 s8 s10 s11 g1 v0 n0 g2 s) : ∃ q, loopLim (semA C (Lim C) 8592039695 b86_1) (slices_heapSort_Bm_S1 s1 s2 s8 s10 s11 g1 v0 n0 g2 s g) = some q ∧ slices_heapSort_Bm_X1 s1 s2 s8 s10 s11 g1 v0 n0 g2 x q := wh_simI (slices_heapSort_Bm_R1 s1 s2 s8 s10 s11 g1 v0 n0 g2) hI h
def slices_heapSort_Bm_S0 (s1 : Int) (s2 : Int) (s8 : Int) (s10 : Int) (g1 : AHeap) (v0 : Nat) (n0 : Nat) (g2 : AHeap) : Int × (List Bind) → AHeap → St := fun (s11, o0) gt => ⟨[(0, .ref g1.length v0 0 n0), (1, PI s1), (2, PI s2), (3, .fn 43 []), (8, PI s8), (9, PI 0), (10, PI s10), (11, PI s11)], (g1 ++ (.row false v0 2 (rowP encBind o0) :: (g2 ++ gt)))⟩
def slices_heapSort_Bm_I0 (s1 : Int) (s2 : Int) (s8 : Int) (s10 : Int) (g1 : AHeap) (v0 : Nat) (n0 : Nat) (g2 : AHeap) : Int × (List Bind) → Prop := fun (s11, o0) => o0.length = n0
def slices_heapSort_Bm_X0 (s1 : Int) (s2 : Int) (s8 : Int) (s10 : Int) (g1 : AHeap) (v0 : Nat) (n0 : Nat) (g2 : AHeap) : (Int × (List Bind)) → AExit × St → Prop := fun (s11, o0) q => ∃ h1 : AHeap, q = (.exit 0, ⟨[(0, .ref g1.length v0 0 n0), (1, PI s1), (2, PI s2), (3, .fn 43 []), (8, PI s8), (9, PI 0), (10, PI s10), (11, PI s11)], (g1 ++ (.row false v0 2 (rowP encBind o0) :: (g2 ++ h1)))⟩) ∧ o0.length = n0
set_option maxHeartbeats 4000000 in
theorem slices_heapSort_Bm_R0 (s1 : Int) (s2 : Int) (s8 : Int) (s10 : Int) (g1 : AHeap) (v0 : Nat) (n0 : Nat) (g2 : AHeap) : ∀ (s : Int × (List Bind)) (g : AHeap) r, slices_heapSort_Bm_I0 s1 s2 s8 s10 g1 v0 n0 g2 s → slices_heapSort_Bm_l0 s1 s2 s8 s10 s = some r → Sum.elim (fun s' => (∃ g', semA C (Lim C) 8592039695 b86_0 (slices_heapSort_Bm_S0 s1 s2 s8 s10 g1 v0 n0 g2 s g) = some (.normal, slices_heapSort_Bm_S0 s1 s2 s8 s10 g1 v0 n0 g2 s' g')) ∧ slices_heapSort_Bm_I0 s1 s2 s8 s10 g1 v0 n0 g2 s') (fun x => ∃ q, semA C (Lim C) 8592039695 b86_0 (slices_heapSort_Bm_S0 s1 s2 s8 s10 g1 v0 n0 g2 s g) = some q ∧ q.1 ≠ .normal ∧ slices_heapSort_Bm_X0 s1 s2 s8 s10 g1 v0 n0 g2 x q) r := by
  intro s g r hI hr
  obtain ⟨s11, o0⟩ := s
  have ⟨gt, hg0⟩ : ∃ y, y = g := ⟨_, rfl⟩
  subst hg0
  simp only [slices_heapSort_Bm_I0] at hI
  have hI0 := hI
  simp only [slices_heapSort_Bm_l0] at hr
  rcases Classical.propComplete (0 ≤ s11) with h1 | h1
  simp only [h1, if_true] at hr
  obtain ⟨x2, h2, hr⟩ := bsome hr
  obtain ⟨z3, h2k, h2l0⟩ := slices_siftDown_Bm_k (g1 := g1) (v0 := v0) (n0 := n0) (g2 := (g2 ++ gt)) (show o0.length = n0 by first | assumption | (simp only [List.length_set, List.length_replicate]; first | done | assumption | omega) | omega) h2
  try simp only [go_sem, Nat.reduceAdd] at h2k
  obtain rfl := Option.some.inj hr
  refine ⟨⟨(gt ++ z3), ?_⟩, (show x2.length = n0 by first | assumption | (simp only [List.length_set, List.length_replicate]; first | done | assumption | omega) | omega)⟩
  rotate_left
  simp only [h1, if_false] at hr
  obtain rfl := Option.some.inj hr
  refine ⟨(.exit 0, ⟨[(0, .ref g1.length v0 0 n0), (1, PI s1), (2, PI s2), (3, .fn 43 []), (8, PI s8), (9, PI 0), (10, PI s10), (11, PI s11)], (g1 ++ (.row false v0 2 (rowP encBind o0) :: (g2 ++ gt)))⟩), ?_, nofun, gt, rfl, (show o0.length = n0 by first | assumption | (simp only [List.length_set, List.length_replicate]; first | done | assumption | omega) | omega)⟩
  rotate_left
  all_goals (simp (config := {decide := true}) only [go_sem, Int.reduceToNat, Nat.reduceAdd, Nat.reduceLT, Nat.reduceMul, Nat.reducePow, reduceCtorEq, slices_heapSort_Bm_S0, b86_0, *])
theorem slices_heapSort_Bm_L0 {s1 : Int} {s2 : Int} {s8 : Int} {s10 : Int} {g1 : AHeap} {v0 : Nat} {n0 : Nat} {g2 : AHeap} {s : Int × (List Bind)} {g : AHeap} {x} (h : wh (slices_heapSort_Bm_l0 s1 s2 s8 s10) s = some x) (hI : slices_heapSort_Bm_I0 s1 s2 s8 s10 g1 v0 n0 g2 s) : ∃ q, loopLim (semA C (Lim C) 8592039695 b86_0) (slices_heapSort_Bm_S0 s1 s2 s8 s10 g1 v0 n0 g2 s g) = some q ∧ slices_heapSort_Bm_X0 s1 s2 s8 s10 g1 v0 n0 g2 x q := wh_simI (slices_heapSort_Bm_R0 s1 s2 s8 s10 g1 v0 n0 g2) hI h
set_option maxHeartbeats 4000000 in
theorem slices_heapSort_Bm_R {s1 : Int} {s2 : Int} {o0 : List Bind} {g1 : AHeap} {v0 : Nat} {n0 : Nat} {g2 : AHeap} (hln0 : o0.length = n0) {r : (List Bind)} (hr : slices_heapSort_Bm s1 s2 o0 = some r) : ∃ hz : AHeap, Lim C 86 [.ref g1.length v0 0 n0, PI s1, PI s2, .fn 43 []] (g1 ++ (.row false v0 2 (rowP encBind o0) :: g2)) = some (resOf [], (g1 ++ (.row false v0 2 (rowP encBind r) :: (g2 ++ hz)))) ∧ r.length = n0 := by
  simp only [slices_heapSort_Bm] at hr
  obtain ⟨x1, h1, hr⟩ := bsome hr
  obtain ⟨x4, h2, hr⟩ := bsome hr
  obtain ⟨q2, h2L, h2X⟩ := slices_heapSort_Bm_L0 (g1 := g1) (v0 := v0) (n0 := n0) (g2 := g2) (g := []) h2 (show o0.length = n0 by first | assumption | (simp only [List.length_set, List.length_replicate]; first | done | assumption | omega) | omega)
  obtain ⟨x5, x6⟩ := x4
  simp only [slices_heapSort_Bm_X0, slices_heapSort_Bm_S0] at h2X h2L
  obtain ⟨z7, rfl, h2l0⟩ := h2X
  try simp only [go_sem, Nat.reduceAdd] at h2L
  obtain ⟨x13, h3, hr⟩ := bsome hr
  obtain ⟨q3, h3L, h3X⟩ := slices_heapSort_Bm_L1 (g1 := g1) (v0 := v0) (n0 := n0) (g2 := (g2 ++ z7)) (g := []) h3 (show x6.length = n0 by first | assumption | (simp only [List.length_set, List.length_replicate]; first | done | assumption | omega) | omega)
  obtain ⟨x14, x15⟩ := x13
  simp only [slices_heapSort_Bm_X1, slices_heapSort_Bm_S1] at h3X h3L
  obtain ⟨z16, rfl, h3l0⟩ := h3X
  try simp only [go_sem, Nat.reduceAdd] at h3L
  obtain rfl := Option.some.inj hr
  refine ⟨(z7 ++ z16), Lim_A is86 (Nat.le_of_ble_eq_true rfl) (e := .normal) (env := [(0, .ref g1.length v0 0 n0), (1, PI s1), (2, PI s2), (3, .fn 43 []), (8, PI s1), (9, PI 0), (10, PI (w64 (s2 - s1))), (11, PI x5), (12, PI x14)]) (h' := (g1 ++ (.row false v0 2 (rowP encBind x15) :: (g2 ++ (z7 ++ z16))))) (vs := []) ?_ (.inl rfl) rfl, (show x15.length = n0 by first | assumption | (simp only [List.length_set, List.length_replicate]; first | done | assumption | omega) | omega)⟩
  rotate_left
  all_goals (simp (config := {decide := true}) only [go_sem, Int.reduceToNat, Nat.reduceAdd, Nat.reduceLT, Nat.reduceMul, Nat.reducePow, reduceCtorEq, callEnv, c86, *])
theorem slices_heapSort_Bm_k {s1 : Int} {s2 : Int} {o0 : List Bind} {g1 : AHeap} {v0 : Nat} {n0 : Nat} {g2 : AHeap} (hln0 : o0.length = n0) {r : (List Bind)} (hr : slices_heapSort_Bm s1 s2 o0 = some r) : ∃ hz : AHeap, callP C (Lim C) 86 [.ref g1.length v0 0 n0, PI s1, PI s2, .fn 43 []] (g1 ++ (.row false v0 2 (rowP encBind o0) :: g2)) = some (resOf [], (g1 ++ (.row false v0 2 (rowP encBind r) :: (g2 ++ hz)))) ∧ r.length = n0 := by
  obtain ⟨hz, h1, f0⟩ := slices_heapSort_Bm_R hln0 hr (g1 := g1) (v0 := v0) (n0 := n0) (g2 := g2)
  exact ⟨hz, call_live rfl rfl rfl h1, f0⟩
def c110 : ACode := .seq (.reg [] [] [.K 10 (.mv (cI 0)), .K 11 (.mv (cI 0))]) (.seq (.seq (.reg [] [] [.M 12 4, .M 13 0, .M 14 2, ⟨some (15, false), .ix 2 (.tmp 13) (.tmp 14), none, true, false⟩, ⟨some (16, false), .load (some 2) (.tmp 15), none, true, false⟩, .M 17 0, .M 18 1, ⟨some (19, false), .ix 2 (.tmp 17) (.tmp 18), none, true, false⟩, ⟨some (20, false), .load (some 2) (.tmp 19), none, true, false⟩, ⟨some (21, false), .callV (.tmp 12) [.tmp 16, .tmp 20], none, true, false⟩, .K 22 (.bin .lss (.tmp 21) (cI 0))]) (.cond (.tmp 22) (some 22) (.seq (.reg [] [] [.M 23 3, .T 24 (.nilC (.tmp 23)), .T 25 (.load none (.tmp 24)), .T 26 (.bin .add (.tmp 25) (cI 1)), .T 27 (.nilC (.tmp 23)), ⟨none, .store 1 (.tmp 27) (.tmp 26), none, false, false⟩]) (.seq (.reg [] [] [.M 28 2, .M 29 1, .N 10 28, .N 11 29]) (.ret))) (.skip))) (.seq (.reg [] [] [.M 30 1, .M 31 2, .N 10 30, .N 11 31]) (.ret)))
theorem is110 : IsF C 110 32 4197407 c110 [.tmp 10, .tmp 11] := ⟨⟨Tryd.f110, _, C_P ▸ Tryd.func110, rfl, rfl, rfl, by kernel_rfl, rfl⟩⟩
set_option maxHeartbeats 4000000 in
theorem slices_order2_Bm_R {s1 : Int} {s2 : Int} {o0 : List Bind} {b3_0 : Int} {g1 : AHeap} {v0 : Nat} {n0 : Nat} {g2 : AHeap} {g3 : AHeap} (hln0 : o0.length = n0) {r : Int × Int × Int} (hr : slices_order2_Bm s1 s2 o0 b3_0 = some r) : Lim C 110 [.ref g1.length v0 0 n0, PI s1, PI s2, .ptr (g1.length + g2.length + 1) 0 0 0, .fn 43 []] (g1 ++ (.row false v0 2 (rowP encBind o0) :: (g2 ++ (.row false 0 1 [[PI b3_0]] :: g3)))) = some (resOf [PI r.1, PI r.2.1], (g1 ++ (.row false v0 2 (rowP encBind o0) :: (g2 ++ (.row false 0 1 [[PI r.2.2]] :: g3))))) := by
  simp only [slices_order2_Bm] at hr
  obtain ⟨x1, h1, hr⟩ := bsome hr
  have h1a := eq_true (idx_some h1).1
  have h1b : (s2 < (n0 : Int)) = True := eq_true (by have hb : s2 < (o0.length : Int) := (idx_some h1).2.1; omega)
  have h1c := (idx_some h1).2.2
  obtain ⟨x2, h2, hr⟩ := bsome hr
  have h2a := eq_true (idx_some h2).1
  have h2b : (s1 < (n0 : Int)) = True := eq_true (by have hb : s1 < (o0.length : Int) := (idx_some h2).2.1; omega)
  have h2c := (idx_some h2).2.2
  obtain ⟨x3, h3, hr⟩ := bsome hr
  have h3k := fun h => match_Match_c1_o (h := h) (args := [.ag [PI x1.Var, .d (.rd (x1.T.map intD))], .ag [PI x2.Var, .d (.rd (x2.T.map intD))]]) h3 rfl
  try simp only [go_sem] at h3k
  rcases Classical.propComplete (x3 < 0) with h4 | h4
  simp only [h4, if_true] at hr
  obtain rfl := Option.some.inj hr
  refine (Lim_A is110 (Nat.le_of_ble_eq_true rfl) (e := .ret) (env := [(0, .ref g1.length v0 0 n0), (1, PI s1), (2, PI s2), (3, .ptr (g1.length + g2.length + 1) 0 0 0), (4, .fn 43 []), (10, PI s2), (11, PI s1)]) (h' := (g1 ++ (.row false v0 2 (rowP encBind o0) :: (g2 ++ (.row false 0 1 [[PI (w64 (b3_0 + 1))]] :: g3))))) (vs := [PI s2, PI s1]) ?_ (.inr rfl) rfl)
  rotate_left
  simp only [h4, if_false] at hr
  obtain rfl := Option.some.inj hr
  refine (Lim_A is110 (Nat.le_of_ble_eq_true rfl) (e := .ret) (env := [(0, .ref g1.length v0 0 n0), (1, PI s1), (2, PI s2), (3, .ptr (g1.length + g2.length + 1) 0 0 0), (4, .fn 43 []), (10, PI s1), (11, PI s2)]) (h' := (g1 ++ (.row false v0 2 (rowP encBind o0) :: (g2 ++ (.row false 0 1 [[PI b3_0]] :: g3))))) (vs := [PI s1, PI s2]) ?_ (.inr rfl) rfl)
  rotate_left
  all_goals (simp (config := {decide := true}) only [go_sem, Int.reduceToNat, Nat.reduceAdd, Nat.reduceLT, Nat.reduceMul, Nat.reducePow, reduceCtorEq, callEnv, c110, *])
theorem slices_order2_Bm_k {s1 : Int} {s2 : Int} {o0 : List Bind} {b3_0 : Int} {g1 : AHeap} {v0 : Nat} {n0 : Nat} {g2 : AHeap} {g3 : AHeap} (hln0 : o0.length = n0) {r : Int × Int × Int} (hr : slices_order2_Bm s1 s2 o0 b3_0 = some r) : callP C (Lim C) 110 [.ref g1.length v0 0 n0, PI s1, PI s2, .ptr (g1.length + g2.length + 1) 0 0 0, .fn 43 []] (g1 ++ (.row false v0 2 (rowP encBind o0) :: (g2 ++ (.row false 0 1 [[PI b3_0]] :: g3)))) = some (resOf [PI r.1, PI r.2.1], (g1 ++ (.row false v0 2 (rowP encBind o0) :: (g2 ++ (.row false 0 1 [[PI r.2.2]] :: g3))))) := by
  have h1 := slices_order2_Bm_R hln0 hr (g1 := g1) (v0 := v0) (n0 := n0) (g2 := g2) (g3 := g3)
  exact call_live rfl rfl rfl h1
def c106 : ACode := .seq (.reg [] [] [.K 12 (.mv (cI 0))]) (.seq (.reg [] [] [.M 14 0, .M 15 1, .M 16 2, .M 17 4, .M 18 5, .T 19 (.call 110 [.tmp 14, .tmp 15, .tmp 16, .tmp 17, .tmp 18]), .M 13 19, .T 20 (.ext (.tmp 13) 0), .T 21 (.ext (.tmp 13) 1), .N 1 20, .N 2 21]) (.seq (.reg [] [] [.M 23 0, .M 24 2, .M 25 3, .M 26 4, .M 27 5, .T 28 (.call 110 [.tmp 23, .tmp 24, .tmp 25, .tmp 26, .tmp 27]), .M 22 28, .T 29 (.ext (.tmp 22) 0), .T 30 (.ext (.tmp 22) 1), .N 2 29, .N 3 30]) (.seq (.reg [] [] [.M 32 0, .M 33 1, .M 34 2, .M 35 4, .M 36 5, .T 37 (.call 110 [.tmp 32, .tmp 33, .tmp 34, .tmp 35, .tmp 36]), .M 31 37, .T 38 (.ext (.tmp 31) 0), .T 39 (.ext (.tmp 31) 1), .N 1 38, .N 2 39]) (.seq (.reg [] [] [.M 40 2, .N 12 40]) (.ret)))))
theorem is106 : IsF C 106 41 4159 c106 [.tmp 12] := ⟨⟨Tryd.f106, _, C_P ▸ Tryd.func106, rfl, rfl, rfl, by kernel_rfl, rfl⟩⟩
set_option maxHeartbeats 4000000 in
theorem slices_median_Bm_R {s1 : Int} {s2 : Int} {s3 : Int} {o0 : List Bind} {b4_0 : Int} {g1 : AHeap} {v0 : Nat} {n0 : Nat} {g2 : AHeap} {g3 : AHeap} (hln0 : o0.length = n0) {r : Int × Int} (hr : slices_median_Bm s1 s2 s3 o0 b4_0 = some r) : Lim C 106 [.ref g1.length v0 0 n0, PI s1, PI s2, PI s3, .ptr (g1.length + g2.length + 1) 0 0 0, .fn 43 []] (g1 ++ (.row false v0 2 (rowP encBind o0) :: (g2 ++ (.row false 0 1 [[PI b4_0]] :: g3)))) = some (resOf [PI r.1], (g1 ++ (.row false v0 2 (rowP encBind o0) :: (g2 ++ (.row false 0 1 [[PI r.2]] :: g3))))) := by
  simp only [slices_median_Bm] at hr
  obtain ⟨x1, h1, hr⟩ := bsome hr
  have h1k := slices_order2_Bm_k (g1 := g1) (v0 := v0) (n0 := n0) (g2 := g2) (g3 := g3) (show o0.length = n0 by first | assumption | (simp only [List.length_set, List.length_replicate]; first | done | assumption | omega) | omega) h1
  try simp only [go_sem, Nat.reduceAdd] at h1k
  obtain ⟨x2, h2, hr⟩ := bsome hr
  have h2k := slices_order2_Bm_k (g1 := g1) (v0 := v0) (n0 := n0) (g2 := g2) (g3 := g3) (show o0.length = n0 by first | assumption | (simp only [List.length_set, List.length_replicate]; first | done | assumption | omega) | omega) h2
  try simp only [go_sem, Nat.reduceAdd] at h2k
  obtain ⟨x3, h3, hr⟩ := bsome hr
  have h3k := slices_order2_Bm_k (g1 := g1) (v0 := v0) (n0 := n0) (g2 := g2) (g3 := g3) (show o0.length = n0 by first | assumption | (simp only [List.length_set, List.length_replicate]; first | done | assumption | omega) | omega) h3
  try simp only [go_sem, Nat.reduceAdd] at h3k
  obtain rfl := Option.some.inj hr
  refine (Lim_A is106 (Nat.le_of_ble_eq_true rfl) (e := .ret) (env := [(0, .ref g1.length v0 0 n0), (1, PI x3.1), (2, PI x3.2.1), (3, PI x2.2.1), (4, .ptr (g1.length + g2.length + 1) 0 0 0), (5, .fn 43 []), (12, PI x3.2.1)]) (h' := (g1 ++ (.row false v0 2 (rowP encBind o0) :: (g2 ++ (.row false 0 1 [[PI x3.2.2]] :: g3))))) (vs := [PI x3.2.1]) ?_ (.inr rfl) rfl)
  rotate_left
  all_goals (simp (config := {decide := true}) only [go_sem, Int.reduceToNat, Nat.reduceAdd, Nat.reduceLT, Nat.reduceMul, Nat.reducePow, reduceCtorEq, callEnv, c106, *])
theorem slices_median_Bm_k {s1 : Int} {s2 : Int} {s3 : Int} {o0 : List Bind} {b4_0 : Int} {g1 : AHeap} {v0 : Nat} {n0 : Nat} {g2 : AHeap} {g3 : AHeap} (hln0 : o0.length = n0) {r : Int × Int} (hr : slices_median_Bm s1 s2 s3 o0 b4_0 = some r) : callP C (Lim C) 106 [.ref g1.length v0 0 n0, PI s1, PI s2, PI s3, .ptr (g1.length + g2.length + 1) 0 0 0, .fn 43 []] (g1 ++ (.row false v0 2 (rowP encBind o0) :: (g2 ++ (.row false 0 1 [[PI b4_0]] :: g3)))) = some (resOf [PI r.1], (g1 ++ (.row false v0 2 (rowP encBind o0) :: (g2 ++ (.row false 0 1 [[PI r.2]] :: g3))))) := by
  have h1 := slices_median_Bm_R hln0 hr (g1 := g1) (v0 := v0) (n0 := n0) (g2 := g2) (g3 := g3)
  exact call_live rfl rfl rfl h1
def c105 : ACode := .seq (.reg [] [] [.K 8 (.mv (cI 0))]) (.seq (.reg [] [] [.M 9 0, .M 10 1, .T 11 (.bin .sub (.tmp 10) (cI 1)), .M 12 1, .M 13 1, .T 14 (.bin .add (.tmp 13) (cI 1)), .M 15 2, .M 16 3, .T 17 (.call 106 [.tmp 9, .tmp 11, .tmp 12, .tmp 14, .tmp 15, .tmp 16]), .N 8 17]) (.ret))
theorem is105 : IsF C 105 18 271 c105 [.tmp 8] := ⟨⟨Tryd.f105, _, C_P ▸ Tryd.func105, rfl, rfl, rfl, by kernel_rfl, rfl⟩⟩
set_option maxHeartbeats 4000000 in
theorem slices_medianAdjacent_Bm_R {s1 : Int} {o0 : List Bind} {b2_0 : Int} {g1 : AHeap} {v0 : Nat} {n0 : Nat} {g2 : AHeap} {g3 : AHeap} (hln0 : o0.length = n0) {r : Int × Int} (hr : slices_medianAdjacent_Bm s1 o0 b2_0 = some r) : Lim C 105 [.ref g1.length v0 0 n0, PI s1, .ptr (g1.length + g2.length + 1) 0 0 0, .fn 43 []] (g1 ++ (.row false v0 2 (rowP encBind o0) :: (g2 ++ (.row false 0 1 [[PI b2_0]] :: g3)))) = some (resOf [PI r.1], (g1 ++ (.row false v0 2 (rowP encBind o0) :: (g2 ++ (.row false 0 1 [[PI r.2]] :: g3))))) := by
  simp only [slices_medianAdjacent_Bm] at hr
  obtain ⟨x1, h1, hr⟩ := bsome hr
  have h1k := slices_median_Bm_k (g1 := g1) (v0 := v0) (n0 := n0) (g2 := g2) (g3 := g3) (show o0.length = n0 by first | assumption | (simp only [List.length_set, List.length_replicate]; first | done | assumption | omega) | omega) h1
  try simp only [go_sem, Nat.reduceAdd] at h1k
  obtain rfl := Option.some.inj hr
  refine (Lim_A is105 (Nat.le_of_ble_eq_true rfl) (e := .ret) (env := [(0, .ref g1.length v0 0 n0), (1, PI s1), (2, .ptr (g1.length + g2.length + 1) 0 0 0), (3, .fn 43 []), (8, PI x1.1)]) (h' := (g1 ++ (.row false v0 2 (rowP encBind o0) :: (g2 ++ (.row false 0 1 [[PI x1.2]] :: g3))))) (vs := [PI x1.1]) ?_ (.inr rfl) rfl)
  rotate_left
  all_goals (simp (config := {decide := true}) only [go_sem, Int.reduceToNat, Nat.reduceAdd, Nat.reduceLT, Nat.reduceMul, Nat.reducePow, reduceCtorEq, callEnv, c105, *])
theorem slices_medianAdjacent_Bm_k {s1 : Int} {o0 : List Bind} {b2_0 : Int} {g1 : AHeap} {v0 : Nat} {n0 : Nat} {g2 : AHeap} {g3 : AHeap} (hln0 : o0.length = n0) {r : Int × Int} (hr : slices_medianAdjacent_Bm s1 o0 b2_0 = some r) : callP C (Lim C) 105 [.ref g1.length v0 0 n0, PI s1, .ptr (g1.length + g2.length + 1) 0 0 0, .fn 43 []] (g1 ++ (.row false v0 2 (rowP encBind o0) :: (g2 ++ (.row false 0 1 [[PI b2_0]] :: g3)))) = some (resOf [PI r.1], (g1 ++ (.row false v0 2 (rowP encBind o0) :: (g2 ++ (.row false 0 1 [[PI r.2]] :: g3))))) := by
  have h1 := slices_medianAdjacent_Bm_R hln0 hr (g1 := g1) (v0 := v0) (n0 := n0) (g2 := g2) (g3 := g3)
  exact call_live rfl rfl rfl h1
def c88 : ACode := .seq (.reg [] [] [.K 8 (.mv (cI 0)), .K 9 (.mv (cI 0))]) (.seq (.reg [] [] [.M 15 2, .M 16 1, .T 17 (.bin .sub (.tmp 15) (.tmp 16)), .N 10 17]) (.seq (.reg [] [] [.K 11 (.alloc [.d (.v (.int .i64 0))] 1)]) (.seq (.reg [] [] [.M 18 1, .M 19 10, .T 20 (.binM .quo (.tmp 19) (cI 4)), .T 21 (.bin .mul (.tmp 20) (cI 1)), .T 22 (.bin .add (.tmp 18) (.tmp 21)), .N 12 22]) (.seq (.reg [] [] [.M 23 1, .M 24 10, .T 25 (.binM .quo (.tmp 24) (cI 4)), .T 26 (.bin .mul (.tmp 25) (cI 2)), .T 27 (.bin .add (.tmp 23) (.tmp 26)), .N 13 27]) (.seq (.reg [] [] [.M 28 1, .M 29 10, .T 30 (.binM .quo (.tmp 29) (cI 4)), .T 31 (.bin .mul (.tmp 30) (cI 3)), .T 32 (.bin .add (.tmp 28) (.tmp 31)), .N 14 32]) (.seq (.seq (.reg [] [] [.M 33 10, .K 34 (.bin .geq (.tmp 33) (cI 8))]) (.cond (.tmp 34) (some 34) (.seq (.seq (.reg [] [] [.M 35 10, .K 36 (.bin .geq (.tmp 35) (cI 50))]) (.cond (.tmp 36) (some 36) (.seq (.reg [] [] [.M 37 0, .M 38 12, .M 39 3, .T 40 (.call 105 [.tmp 37, .tmp 38, .tmp 11, .tmp 39]), .N 12 40]) (.seq (.reg [] [] [.M 41 0, .M 42 13, .M 43 3, .T 44 (.call 105 [.tmp 41, .tmp 42, .tmp 11, .tmp 43]), .N 13 44]) (.reg [] [] [.M 45 0, .M 46 14, .M 47 3, .T 48 (.call 105 [.tmp 45, .tmp 46, .tmp 11, .tmp 47]), .N 14 48]))) (.skip))) (.reg [] [] [.M 49 0, .M 50 12, .M 51 13, .M 52 14, .M 53 3, .T 54 (.call 106 [.tmp 49, .tmp 50, .tmp 51, .tmp 52, .tmp 11, .tmp 53]), .N 13 54])) (.skip))) (.seq (.reg [] [] [.K 55 (.load none (.tmp 11))]) (.block 0 1297036692682702848 (.seq (.reg [] [] [.T 58 (.bin .eql (.tmp 55) (cI 0)), .N 57 58]) (.cond (.tmp 57) (some 57) (.seq (.reg [] [] [.M 59 13, .N 8 59, .K 9 (.mv (cI 1))]) (.ret)) (.seq (.reg [] [] [.T 61 (.bin .eql (.tmp 55) (cI 12)), .N 60 61]) (.cond (.tmp 60) (some 60) (.seq (.reg [] [] [.M 62 13, .N 8 62, .K 9 (.mv (cI 2))]) (.ret)) (.seq (.reg [] [] [.M 56 13, .N 8 56, .K 9 (.mv (cI 0))]) (.ret))))))))))))))
theorem is88 : IsF C 88 63 1333065575601045263 c88 [.tmp 8, .tmp 9] := ⟨⟨Tryd.f88, _, C_P ▸ Tryd.func88, rfl, rfl, rfl, by kernel_rfl, rfl⟩⟩
set_option maxHeartbeats 4000000 in
theorem slices_choosePivot_Bm_R {s1 : Int} {s2 : Int} {o0 : List Bind} {g1 : AHeap} {v0 : Nat} {n0 : Nat} {g2 : AHeap} (hln0 : o0.length = n0) {r : Int × Int} (hr : slices_choosePivot_Bm s1 s2 o0 = some r) : ∃ hz : AHeap, Lim C 88 [.ref g1.length v0 0 n0, PI s1, PI s2, .fn 43 []] (g1 ++ (.row false v0 2 (rowP encBind o0) :: g2)) = some (resOf [PI r.1, PI r.2], (g1 ++ (.row false v0 2 (rowP encBind o0) :: (g2 ++ hz)))) := by
  simp only [slices_choosePivot_Bm] at hr
  obtain ⟨x1, h1, hr⟩ := bsome hr
  rcases Classical.propComplete (8 ≤ (w64 (s2 - s1))) with h2 | h2
  simp only [h2, if_true] at hr
  rcases Classical.propComplete (50 ≤ (w64 (s2 - s1))) with h3 | h3
  simp only [h3, if_true] at hr
  obtain ⟨x2, h4, hr⟩ := bsome hr
  have h4k := slices_medianAdjacent_Bm_k (g1 := g1) (v0 := v0) (n0 := n0) (g2 := g2) (g3 := []) (show o0.length = n0 by first | assumption | (simp only [List.length_set, List.length_replicate]; first | done | assumption | omega) | omega) h4
  try simp only [go_sem, Nat.reduceAdd] at h4k
  obtain ⟨x3, h5, hr⟩ := bsome hr
  have h5k := slices_medianAdjacent_Bm_k (g1 := g1) (v0 := v0) (n0 := n0) (g2 := g2) (g3 := []) (show o0.length = n0 by first | assumption | (simp only [List.length_set, List.length_replicate]; first | done | assumption | omega) | omega) h5
  try simp only [go_sem, Nat.reduceAdd] at h5k
  obtain ⟨x4, h6, hr⟩ := bsome hr
  have h6k := slices_medianAdjacent_Bm_k (g1 := g1) (v0 := v0) (n0 := n0) (g2 := g2) (g3 := []) (show o0.length = n0 by first | assumption | (simp only [List.length_set, List.length_replicate]; first | done | assumption | omega) | omega) h6
  try simp only [go_sem, Nat.reduceAdd] at h6k
  obtain ⟨x5, h7, hr⟩ := bsome hr
  have h7k := slices_median_Bm_k (g1 := g1) (v0 := v0) (n0 := n0) (g2 := g2) (g3 := []) (show o0.length = n0 by first | assumption | (simp only [List.length_set, List.length_replicate]; first | done | assumption | omega) | omega) h7
  try simp only [go_sem, Nat.reduceAdd] at h7k
  rcases Classical.propComplete (x5.2 = 0) with h8 | h8
  simp only [h8, if_true] at hr
  obtain rfl := Option.some.inj hr
  refine ⟨(.row false 0 1 [[PI x5.2]] :: []), Lim_A is88 (Nat.le_of_ble_eq_true rfl) (e := .ret) (env := [(0, .ref g1.length v0 0 n0), (1, PI s1), (2, PI s2), (3, .fn 43 []), (8, PI x5.1), (9, PI 1), (10, PI (w64 (s2 - s1))), (11, .ptr (g1.length + g2.length + 1) 0 0 0), (12, PI x2.1), (13, PI x5.1), (14, PI x4.1), (55, PI x5.2)]) (h' := (g1 ++ (.row false v0 2 (rowP encBind o0) :: (g2 ++ (.row false 0 1 [[PI x5.2]] :: []))))) (vs := [PI x5.1, PI 1]) ?_ (.inr rfl) rfl⟩
  rotate_left
  simp only [h8, if_false] at hr
  rcases Classical.propComplete (x5.2 = 12) with h9 | h9
  simp only [h9, if_true] at hr
  obtain rfl := Option.some.inj hr
  refine ⟨(.row false 0 1 [[PI x5.2]] :: []), Lim_A is88 (Nat.le_of_ble_eq_true rfl) (e := .ret) (env := [(0, .ref g1.length v0 0 n0), (1, PI s1), (2, PI s2), (3, .fn 43 []), (8, PI x5.1), (9, PI 2), (10, PI (w64 (s2 - s1))), (11, .ptr (g1.length + g2.length + 1) 0 0 0), (12, PI x2.1), (13, PI x5.1), (14, PI x4.1), (55, PI x5.2)]) (h' := (g1 ++ (.row false v0 2 (rowP encBind o0) :: (g2 ++ (.row false 0 1 [[PI x5.2]] :: []))))) (vs := [PI x5.1, PI 2]) ?_ (.inr rfl) rfl⟩
  rotate_left
  simp only [h9, if_false] at hr
  obtain rfl := Option.some.inj hr
  refine ⟨(.row false 0 1 [[PI x5.2]] :: []), Lim_A is88 (Nat.le_of_ble_eq_true rfl) (e := .ret) (env := [(0, .ref g1.length v0 0 n0), (1, PI s1), (2, PI s2), (3, .fn 43 []), (8, PI x5.1), (9, PI 0), (10, PI (w64 (s2 - s1))), (11, .ptr (g1.length + g2.length + 1) 0 0 0), (12, PI x2.1), (13, PI x5.1), (14, PI x4.1), (55, PI x5.2)]) (h' := (g1 ++ (.row false v0 2 (rowP encBind o0) :: (g2 ++ (.row false 0 1 [[PI x5.2]] :: []))))) (vs := [PI x5.1, PI 0]) ?_ (.inr rfl) rfl⟩
  rotate_left
  simp only [h3, if_false] at hr
  obtain ⟨x6, h10, hr⟩ := bsome hr
  have h10k := slices_median_Bm_k (g1 := g1) (v0 := v0) (n0 := n0) (g2 := g2) (g3 := []) (show o0.length = n0 by first | assumption | (simp only [List.length_set, List.length_replicate]; first | done | assumption | omega) | omega) h10
  try simp only [go_sem, Nat.reduceAdd] at h10k
  rcases Classical.propComplete (x6.2 = 0) with h11 | h11
  simp only [h11, if_true] at hr
  obtain rfl := Option.some.inj hr
  refine ⟨(.row false 0 1 [[PI x6.2]] :: []), Lim_A is88 (Nat.le_of_ble_eq_true rfl) (e := .ret) (env := [(0, .ref g1.length v0 0 n0), (1, PI s1), (2, PI s2), (3, .fn 43 []), (8, PI x6.1), (9, PI 1), (10, PI (w64 (s2 - s1))), (11, .ptr (g1.length + g2.length + 1) 0 0 0), (12, PI (w64 (s1 + (w64 (x1 * 1))))), (13, PI x6.1), (14, PI (w64 (s1 + (w64 (x1 * 3))))), (55, PI x6.2)]) (h' := (g1 ++ (.row false v0 2 (rowP encBind o0) :: (g2 ++ (.row false 0 1 [[PI x6.2]] :: []))))) (vs := [PI x6.1, PI 1]) ?_ (.inr rfl) rfl⟩
  rotate_left
  simp only [h11, if_false] at hr
  rcases Classical.propComplete (x6.2 = 12) with h12 | h12
  simp only [h12, if_true] at hr
  obtain rfl := Option.some.inj hr
  refine ⟨(.row false 0 1 [[PI x6.2]] :: []), Lim_A is88 (Nat.le_of_ble_eq_true rfl) (e := .ret) (env := [(0, .ref g1.length v0 0 n0), (1, PI s1), (2, PI s2), (3, .fn 43 []), (8, PI x6.1), (9, PI 2), (10, PI (w64 (s2 - s1))), (11, .ptr (g1.length + g2.length + 1) 0 0 0), (12, PI (w64 (s1 + (w64 (x1 * 1))))), (13, PI x6.1), (14, PI (w64 (s1 + (w64 (x1 * 3))))), (55, PI x6.2)]) (h' := (g1 ++ (.row false v0 2 (rowP encBind o0) :: (g2 ++ (.row false 0 1 [[PI x6.2]] :: []))))) (vs := [PI x6.1, PI 2]) ?_ (.inr rfl) rfl⟩
  rotate_left
  simp only [h12, if_false] at hr
  obtain rfl := Option.some.inj hr
  refine ⟨(.row false 0 1 [[PI x6.2]] :: []), Lim_A is88 (Nat.le_of_ble_eq_true rfl) (e := .ret) (env := [(0, .ref g1.length v0 0 n0), (1, PI s1), (2, PI s2), (3, .fn 43 []), (8, PI x6.1), (9, PI 0), (10, PI (w64 (s2 - s1))), (11, .ptr (g1.length + g2.length + 1) 0 0 0), (12, PI (w64 (s1 + (w64 (x1 * 1))))), (13, PI x6.1), (14, PI (w64 (s1 + (w64 (x1 * 3))))), (55, PI x6.2)]) (h' := (g1 ++ (.row false v0 2 (rowP encBind o0) :: (g2 ++ (.row false 0 1 [[PI x6.2]] :: []))))) (vs := [PI x6.1, PI 0]) ?_ (.inr rfl) rfl⟩
  rotate_left
  simp only [h2, if_false] at hr
  obtain rfl := Option.some.inj hr
  refine ⟨(.row false 0 1 [[PI 0]] :: []), Lim_A is88 (Nat.le_of_ble_eq_true rfl) (e := .ret) (env := [(0, .ref g1.length v0 0 n0), (1, PI s1), (2, PI s2), (3, .fn 43 []), (8, PI (w64 (s1 + (w64 (x1 * 2))))), (9, PI 1), (10, PI (w64 (s2 - s1))), (11, .ptr (g1.length + g2.length + 1) 0 0 0), (12, PI (w64 (s1 + (w64 (x1 * 1))))), (13, PI (w64 (s1 + (w64 (x1 * 2))))), (14, PI (w64 (s1 + (w64 (x1 * 3))))), (55, PI 0)]) (h' := (g1 ++ (.row false v0 2 (rowP encBind o0) :: (g2 ++ (.row false 0 1 [[PI 0]] :: []))))) (vs := [PI (w64 (s1 + (w64 (x1 * 2)))), PI 1]) ?_ (.inr rfl) rfl⟩
  rotate_left
  all_goals (simp (config := {decide := true}) only [go_sem, Int.reduceToNat, Nat.reduceAdd, Nat.reduceLT, Nat.reduceMul, Nat.reducePow, reduceCtorEq, callEnv, c88, *])
theorem slices_choosePivot_Bm_k {s1 : Int} {s2 : Int} {o0 : List Bind} {g1 : AHeap} {v0 : Nat} {n0 : Nat} {g2 : AHeap} (hln0 : o0.length = n0) {r : Int × Int} (hr : slices_choosePivot_Bm s1 s2 o0 = some r) : ∃ hz : AHeap, callP C (Lim C) 88 [.ref g1.length v0 0 n0, PI s1, PI s2, .fn 43 []] (g1 ++ (.row false v0 2 (rowP encBind o0) :: g2)) = some (resOf [PI r.1, PI r.2], (g1 ++ (.row false v0 2 (rowP encBind o0) :: (g2 ++ hz)))) := by
  obtain ⟨hz, h1⟩ := slices_choosePivot_Bm_R hln0 hr (g1 := g1) (v0 := v0) (n0 := n0) (g2 := g2)
  exact ⟨hz, call_live rfl rfl rfl h1⟩
def b89_0 : ACode := .seq (.seq (.reg [] [] [.M 13 8, .M 14 9, .K 15 (.bin .lss (.tmp 13) (.tmp 14))]) (.cond (.tmp 15) (some 15) (.skip) (.exit 0))) (.block 1 32768 (.seq (.reg [] [] [.M 16 0, .M 17 8, .M 18 0, .M 19 9, .M 20 0, .M 21 9, ⟨some (22, false), .ix 2 (.tmp 20) (.tmp 21), none, true, false⟩, ⟨some (23, false), .load (some 2) (.tmp 22), none, true, false⟩, .M 24 0, .M 25 8, ⟨some (26, false), .ix 2 (.tmp 24) (.tmp 25), none, true, false⟩, ⟨some (27, false), .load (some 2) (.tmp 26), none, true, false⟩, ⟨some (28, false), .ix 2 (.tmp 16) (.tmp 17), none, true, false⟩, ⟨none, .store 2 (.tmp 28) (.tmp 23), none, false, false⟩, ⟨some (29, false), .ix 2 (.tmp 18) (.tmp 19), none, true, false⟩, ⟨none, .store 2 (.tmp 29) (.tmp 27), none, false, false⟩]) (.seq (.reg [] [] [.M 30 8, .T 31 (.bin .add (.tmp 30) (cI 1)), .N 8 31]) (.reg [] [] [.M 32 9, .T 33 (.bin .sub (.tmp 32) (cI 1)), .N 9 33]))))
def c89 : ACode := .seq (.reg [] [] [.M 10 1, .N 8 10]) (.seq (.reg [] [] [.M 11 2, .T 12 (.bin .sub (.tmp 11) (cI 1)), .N 9 12]) (.block 0 32768 (.loop b89_0)))
theorem is89 : IsF C 89 34 33543 c89 [] := ⟨⟨Tryd.f89, _, C_P ▸ Tryd.func89, rfl, rfl, rfl, by kernel_rfl, rfl⟩⟩
def slices_reverseRange_Bm_S0 (s1 : Int) (s2 : Int) (g1 : AHeap) (v0 : Nat) (n0 : Nat) (g2 : AHeap) : Int × Int × (List Bind) → Unit → St := fun (s8, s9, o0) _ => ⟨[(0, .ref g1.length v0 0 n0), (1, PI s1), (2, PI s2), (8, PI s8), (9, PI s9)], (g1 ++ (.row false v0 2 (rowP encBind o0) :: g2))⟩
def slices_reverseRange_Bm_I0 (s1 : Int) (s2 : Int) (g1 : AHeap) (v0 : Nat) (n0 : Nat) (g2 : AHeap) : Int × Int × (List Bind) → Prop := fun (s8, s9, o0) => o0.length = n0
def slices_reverseRange_Bm_X0 (s1 : Int) (s2 : Int) (g1 : AHeap) (v0 : Nat) (n0 : Nat) (g2 : AHeap) : (Int × Int × (List Bind)) → AExit × St → Prop := fun (s8, s9, o0) q => q = (.exit 0, ⟨[(0, .ref g1.length v0 0 n0), (1, PI s1), (2, PI s2), (8, PI s8), (9, PI s9)], (g1 ++ (.row false v0 2 (rowP encBind o0) :: g2))⟩) ∧ o0.length = n0
set_option maxHeartbeats 4000000 in
theorem slices_reverseRange_Bm_R0 (s1 : Int) (s2 : Int) (g1 : AHeap) (v0 : Nat) (n0 : Nat) (g2 : AHeap) : ∀ (s : Int × Int × (List Bind)) (g : Unit) r, slices_reverseRange_Bm_I0 s1 s2 g1 v0 n0 g2 s → slices_reverseRange_Bm_l0 s1 s2 s = some r → Sum.elim (fun s' => (∃ g', semA C (Lim C) 33543 b89_0 (slices_reverseRange_Bm_S0 s1 s2 g1 v0 n0 g2 s g) = some (.normal, slices_reverseRange_Bm_S0 s1 s2 g1 v0 n0 g2 s' g')) ∧ slices_reverseRange_Bm_I0 s1 s2 g1 v0 n0 g2 s') (fun x => ∃ q, semA C (Lim C) 33543 b89_0 (slices_reverseRange_Bm_S0 s1 s2 g1 v0 n0 g2 s g) = some q ∧ q.1 ≠ .normal ∧ slices_reverseRange_Bm_X0 s1 s2 g1 v0 n0 g2 x q) r := by
  intro s g r hI hr
  obtain ⟨s8, s9, o0⟩ := s
  simp only [slices_reverseRange_Bm_I0] at hI
  have hI0 := hI
  simp only [slices_reverseRange_Bm_l0] at hr
  rcases Classical.propComplete (s8 < s9) with h1 | h1
  simp only [h1, if_true] at hr
  obtain ⟨x1, h2, hr⟩ := bsome hr
  have h2a := eq_true (idx_some h2).1
  have h2b : (s9 < (n0 : Int)) = True := eq_true (by have hb : s9 < (o0.length : Int) := (idx_some h2).2.1; omega)
  have h2c := (idx_some h2).2.2
  obtain ⟨x2, h3, hr⟩ := bsome hr
  have h3a := eq_true (idx_some h3).1
  have h3b : (s8 < (n0 : Int)) = True := eq_true (by have hb : s8 < (o0.length : Int) := (idx_some h3).2.1; omega)
  have h3c := (idx_some h3).2.2
  obtain ⟨x3, h4, hr⟩ := bsome hr
  have h4a := eq_true (idx_some h4).1
  have h4b : (s9 < (n0 : Int)) = True := eq_true (by have hb : s9 < ((o0.set (s8).toNat x1).length : Int) := (idx_some h4).2.1; simp only [List.length_set, List.length_replicate] at hb; omega)
  have h4c := (idx_some h4).2.2
  obtain rfl := Option.some.inj hr
  refine ⟨⟨(), ?_⟩, (show ((o0.set (s8).toNat x1).set (s9).toNat x2).length = n0 by first | assumption | (simp only [List.length_set, List.length_replicate]; first | done | assumption | omega) | omega)⟩
  rotate_left
  simp only [h1, if_false] at hr
  obtain rfl := Option.some.inj hr
  refine ⟨(.exit 0, ⟨[(0, .ref g1.length v0 0 n0), (1, PI s1), (2, PI s2), (8, PI s8), (9, PI s9)], (g1 ++ (.row false v0 2 (rowP encBind o0) :: g2))⟩), ?_, nofun, rfl, (show o0.length = n0 by first | assumption | (simp only [List.length_set, List.length_replicate]; first | done | assumption | omega) | omega)⟩
  rotate_left
  all_goals (simp (config := {decide := true}) only [go_sem, Int.reduceToNat, Nat.reduceAdd, Nat.reduceLT, Nat.reduceMul, Nat.reducePow, reduceCtorEq, slices_reverseRange_Bm_S0, b89_0, *])
theorem slices_reverseRange_Bm_L0 {s1 : Int} {s2 : Int} {g1 : AHeap} {v0 : Nat} {n0 : Nat} {g2 : AHeap} {s : Int × Int × (List Bind)} {g : Unit} {x} (h : wh (slices_reverseRange_Bm_l0 s1 s2) s = some x) (hI : slices_reverseRange_Bm_I0 s1 s2 g1 v0 n0 g2 s) : ∃ q, loopLim (semA C (Lim C) 33543 b89_0) (slices_reverseRange_Bm_S0 s1 s2 g1 v0 n0 g2 s g) = some q ∧ slices_reverseRange_Bm_X0 s1 s2 g1 v0 n0 g2 x q := wh_simI (slices_reverseRange_Bm_R0 s1 s2 g1 v0 n0 g2) hI h
set_option maxHeartbeats 4000000 in
theorem slices_reverseRange_Bm_R {s1 : Int} {s2 : Int} {o0 : List Bind} {g1 : AHeap} {v0 : Nat} {n0 : Nat} {g2 : AHeap} (hln0 : o0.length = n0) {r : (List Bind)} (hr : slices_reverseRange_Bm s1 s2 o0 = some r) : Lim C 89 [.ref g1.length v0 0 n0, PI s1, PI s2, .fn 43 []] (g1 ++ (.row false v0 2 (rowP encBind o0) :: g2)) = some (resOf [], (g1 ++ (.row false v0 2 (rowP encBind r) :: g2))) ∧ r.length = n0 := by
  simp only [slices_reverseRange_Bm] at hr
  obtain ⟨x4, h1, hr⟩ := bsome hr
  obtain ⟨q1, h1L, h1X⟩ := slices_reverseRange_Bm_L0 (g1 := g1) (v0 := v0) (n0 := n0) (g2 := g2) (g := ()) h1 (show o0.length = n0 by first | assumption | (simp only [List.length_set, List.length_replicate]; first | done | assumption | omega) | omega)
  obtain ⟨x5, x6, x7⟩ := x4
  simp only [slices_reverseRange_Bm_X0, slices_reverseRange_Bm_S0] at h1X h1L
  obtain ⟨rfl, h1l0⟩ := h1X
  try simp only [go_sem, Nat.reduceAdd] at h1L
  obtain rfl := Option.some.inj hr
  refine ⟨Lim_A is89 (Nat.le_of_ble_eq_true rfl) (e := .normal) (env := [(0, .ref g1.length v0 0 n0), (1, PI s1), (2, PI s2), (8, PI x5), (9, PI x6)]) (h' := (g1 ++ (.row false v0 2 (rowP encBind x7) :: g2))) (vs := []) ?_ (.inl rfl) rfl, (show x7.length = n0 by first | assumption | (simp only [List.length_set, List.length_replicate]; first | done | assumption | omega) | omega)⟩
  rotate_left
  all_goals (simp (config := {decide := true}) only [go_sem, Int.reduceToNat, Nat.reduceAdd, Nat.reduceLT, Nat.reduceMul, Nat.reducePow, reduceCtorEq, callEnv, c89, *])
theorem slices_reverseRange_Bm_k {s1 : Int} {s2 : Int} {o0 : List Bind} {g1 : AHeap} {v0 : Nat} {n0 : Nat} {g2 : AHeap} (hln0 : o0.length = n0) {r : (List Bind)} (hr : slices_reverseRange_Bm s1 s2 o0 = some r) : callP C (Lim C) 89 [.ref g1.length v0 0 n0, PI s1, PI s2, .fn 43 []] (g1 ++ (.row false v0 2 (rowP encBind o0) :: g2)) = some (resOf [], (g1 ++ (.row false v0 2 (rowP encBind r) :: g2))) ∧ r.length = n0 := by
  obtain ⟨h1, f0⟩ := slices_reverseRange_Bm_R hln0 hr (g1 := g1) (v0 := v0) (n0 := n0) (g2 := g2)
  exact ⟨call_live rfl rfl rfl h1, f0⟩
def b90_3 : ACode := .seq (.seq (.reg [] [] [.M 107 12, .M 108 2, .K 109 (.bin .lss (.tmp 107) (.tmp 108))]) (.cond (.tmp 109) (some 109) (.skip) (.exit 6))) (.seq (.block 7 21268296969665970819914479276526665728 (.seq (.seq (.reg [] [] [.M 112 3, .M 113 0, .M 114 12, ⟨some (115, false), .ix 2 (.tmp 113) (.tmp 114), none, true, false⟩, ⟨some (116, false), .load (some 2) (.tmp 115), none, true, false⟩, .M 117 0, .M 118 12, .T 119 (.bin .sub (.tmp 118) (cI 1)), ⟨some (120, false), .ix 2 (.tmp 117) (.tmp 119), none, true, false⟩, ⟨some (121, false), .load (some 2) (.tmp 120), none, true, false⟩, ⟨some (122, false), .callV (.tmp 112) [.tmp 116, .tmp 121], none, true, false⟩, .T 123 (.bin .lss (.tmp 122) (cI 0)), .K 124 (.not (.tmp 123))]) (.cond (.tmp 124) (some 124) (.exit 6) (.skip))) (.reg [] [] [.M 125 0, .M 126 12, .M 127 0, .M 128 12, .T 129 (.bin .sub (.tmp 128) (cI 1)), .M 130 0, .M 131 12, .T 132 (.bin .sub (.tmp 131) (cI 1)), ⟨some (133, false), .ix 2 (.tmp 130) (.tmp 132), none, true, false⟩, ⟨some (134, false), .load (some 2) (.tmp 133), none, true, false⟩, .M 135 0, .M 136 12, ⟨some (137, false), .ix 2 (.tmp 135) (.tmp 136), none, true, false⟩, ⟨some (138, false), .load (some 2) (.tmp 137), none, true, false⟩, ⟨some (139, false), .ix 2 (.tmp 125) (.tmp 126), none, true, false⟩, ⟨none, .store 2 (.tmp 139) (.tmp 134), none, false, false⟩, ⟨some (140, false), .ix 2 (.tmp 127) (.tmp 129), none, true, false⟩, ⟨none, .store 2 (.tmp 140) (.tmp 138), none, false, false⟩]))) (.reg [] [] [.M 110 12, .T 111 (.bin .add (.tmp 110) (cI 1)), .N 12 111]))
def b90_2 : ACode := .seq (.seq (.reg [] [] [.M 68 11, .K 69 (.bin .geq (.tmp 68) (cI 1))]) (.cond (.tmp 69) (some 69) (.skip) (.exit 4))) (.seq (.block 5 19343403409644425500950528 (.seq (.seq (.reg [] [] [.M 72 3, .M 73 0, .M 74 11, ⟨some (75, false), .ix 2 (.tmp 73) (.tmp 74), none, true, false⟩, ⟨some (76, false), .load (some 2) (.tmp 75), none, true, false⟩, .M 77 0, .M 78 11, .T 79 (.bin .sub (.tmp 78) (cI 1)), ⟨some (80, false), .ix 2 (.tmp 77) (.tmp 79), none, true, false⟩, ⟨some (81, false), .load (some 2) (.tmp 80), none, true, false⟩, ⟨some (82, false), .callV (.tmp 72) [.tmp 76, .tmp 81], none, true, false⟩, .T 83 (.bin .lss (.tmp 82) (cI 0)), .K 84 (.not (.tmp 83))]) (.cond (.tmp 84) (some 84) (.exit 4) (.skip))) (.reg [] [] [.M 85 0, .M 86 11, .M 87 0, .M 88 11, .T 89 (.bin .sub (.tmp 88) (cI 1)), .M 90 0, .M 91 11, .T 92 (.bin .sub (.tmp 91) (cI 1)), ⟨some (93, false), .ix 2 (.tmp 90) (.tmp 92), none, true, false⟩, ⟨some (94, false), .load (some 2) (.tmp 93), none, true, false⟩, .M 95 0, .M 96 11, ⟨some (97, false), .ix 2 (.tmp 95) (.tmp 96), none, true, false⟩, ⟨some (98, false), .load (some 2) (.tmp 97), none, true, false⟩, ⟨some (99, false), .ix 2 (.tmp 85) (.tmp 86), none, true, false⟩, ⟨none, .store 2 (.tmp 99) (.tmp 94), none, false, false⟩, ⟨some (100, false), .ix 2 (.tmp 87) (.tmp 89), none, true, false⟩, ⟨none, .store 2 (.tmp 100) (.tmp 98), none, false, false⟩]))) (.reg [] [] [.M 70 11, .T 71 (.bin .sub (.tmp 70) (cI 1)), .N 11 71]))
def b90_1 : ACode := .seq (.seq (.reg [] [] [.M 19 9, .M 20 2, .T 21 (.bin .lss (.tmp 19) (.tmp 20)), .M 22 21, .MG 23 22 true 3, .MG 24 22 true 0, .MG 25 22 true 9, ⟨some (26, false), .ix 2 (.tmp 24) (.tmp 25), some (22, true), true, false⟩, ⟨some (27, false), .load (some 2) (.tmp 26), some (22, true), true, false⟩, .MG 28 22 true 0, .MG 29 22 true 9, .TG 30 22 true (.bin .sub (.tmp 29) (cI 1)), ⟨some (31, false), .ix 2 (.tmp 28) (.tmp 30), some (22, true), true, false⟩, ⟨some (32, false), .load (some 2) (.tmp 31), some (22, true), true, false⟩, ⟨some (33, false), .callV (.tmp 23) [.tmp 27, .tmp 32], some (22, true), true, false⟩, .TG 34 22 true (.bin .lss (.tmp 33) (cI 0)), .TG 35 22 true (.not (.tmp 34)), .K 36 (.pick (.tmp 22) (.tmp 35) (.const (.bool false)))]) (.cond (.tmp 36) (some 36) (.skip) (.exit 2))) (.block 3 68719476736 (.reg [] [] [.M 37 9, .T 38 (.bin .add (.tmp 37) (cI 1)), .N 9 38]))
def b90_0 : ACode := .seq (.seq (.reg [] [] [.M 15 10, .K 16 (.bin .lss (.tmp 15) (cI 5))]) (.cond (.tmp 16) (some 16) (.skip) (.exit 0))) (.seq (.block 1 21268317252094917911888073248812898304 (.seq (.block 2 68719542272 (.loop b90_1)) (.seq (.seq (.reg [] [] [.M 39 9, .M 40 2, .K 41 (.bin .eql (.tmp 39) (.tmp 40))]) (.cond (.tmp 41) (some 41) (.seq (.reg [] [] [.K 8 (.mv (.const (.bool true)))]) (.ret)) (.skip))) (.seq (.seq (.reg [] [] [.M 42 2, .M 43 1, .T 44 (.bin .sub (.tmp 42) (.tmp 43)), .K 45 (.bin .lss (.tmp 44) (cI 50))]) (.cond (.tmp 45) (some 45) (.seq (.reg [] [] [.K 8 (.mv (.const (.bool false)))]) (.ret)) (.skip))) (.seq (.reg [] [] [.M 46 0, .M 47 9, .M 48 0, .M 49 9, .T 50 (.bin .sub (.tmp 49) (cI 1)), .M 51 0, .M 52 9, .T 53 (.bin .sub (.tmp 52) (cI 1)), ⟨some (54, false), .ix 2 (.tmp 51) (.tmp 53), none, true, false⟩, ⟨some (55, false), .load (some 2) (.tmp 54), none, true, false⟩, .M 56 0, .M 57 9, ⟨some (58, false), .ix 2 (.tmp 56) (.tmp 57), none, true, false⟩, ⟨some (59, false), .load (some 2) (.tmp 58), none, true, false⟩, ⟨some (60, false), .ix 2 (.tmp 46) (.tmp 47), none, true, false⟩, ⟨none, .store 2 (.tmp 60) (.tmp 55), none, false, false⟩, ⟨some (61, false), .ix 2 (.tmp 48) (.tmp 50), none, true, false⟩, ⟨none, .store 2 (.tmp 61) (.tmp 59), none, false, false⟩]) (.seq (.seq (.reg [] [] [.M 62 9, .M 63 1, .T 64 (.bin .sub (.tmp 62) (.tmp 63)), .K 65 (.bin .geq (.tmp 64) (cI 2))]) (.cond (.tmp 65) (some 65) (.seq (.reg [] [] [.M 66 9, .T 67 (.bin .sub (.tmp 66) (cI 1)), .N 11 67]) (.block 4 19343440303170025034942464 (.loop b90_2))) (.skip))) (.seq (.reg [] [] [.M 101 2, .M 102 9, .T 103 (.bin .sub (.tmp 101) (.tmp 102)), .K 104 (.bin .geq (.tmp 103) (cI 2))]) (.cond (.tmp 104) (some 104) (.seq (.reg [] [] [.M 105 9, .T 106 (.bin .add (.tmp 105) (cI 1)), .N 12 106]) (.block 6 21268317252094917911888073248812898304 (.loop b90_3))) (.skip))))))))) (.reg [] [] [.M 17 10, .T 18 (.bin .add (.tmp 17) (cI 1)), .N 10 18]))
def c90 : ACode := .seq (.reg [] [] [.K 8 (.mv (.const (.bool false)))]) (.seq (.reg [] [] [.M 13 1, .T 14 (.bin .add (.tmp 13) (cI 1)), .N 9 14]) (.seq (.seq (.reg [] [] [.K 10 (.mv (cI 0))]) (.block 0 21268317252094917911888073248812898304 (.loop b90_0))) (.seq (.reg [] [] [.K 8 (.mv (.const (.bool false)))]) (.ret))))
theorem is90 : IsF C 90 141 21268317252094917911888073248812900111 c90 [.tmp 8] := ⟨⟨Tryd.f90, _, C_P ▸ Tryd.func90, rfl, rfl, rfl, by kernel_rfl, rfl⟩⟩
def slices_partialInsertionSort_Bm_S3 (s1 : Int) (s2 : Int) (s9 : Int) (s10 : Int) (g1 : AHeap) (v0 : Nat) (n0 : Nat) (g2 : AHeap) : Int × (List Bind) → AHeap → St := fun (s12, o0) gt => ⟨[(0, .ref g1.length v0 0 n0), (1, PI s1), (2, PI s2), (3, .fn 43 []), (8, PB false), (9, PI s9), (10, PI s10), (12, PI s12)], (g1 ++ (.row false v0 2 (rowP encBind o0) :: (g2 ++ gt)))⟩
def slices_partialInsertionSort_Bm_I3 (s1 : Int) (s2 : Int) (s9 : Int) (s10 : Int) (g1 : AHeap) (v0 : Nat) (n0 : Nat) (g2 : AHeap) : Int × (List Bind) → Prop := fun (s12, o0) => o0.length = n0
def slices_partialInsertionSort_Bm_X3 (s1 : Int) (s2 : Int) (s9 : Int) (s10 : Int) (g1 : AHeap) (v0 : Nat) (n0 : Nat) (g2 : AHeap) : ((List Bind)) → AExit × St → Prop := fun o0 q => ∃ d12 : PV, ∃ h1 : AHeap, q = (.exit 6, ⟨[(0, .ref g1.length v0 0 n0), (1, PI s1), (2, PI s2), (3, .fn 43 []), (8, PB false), (9, PI s9), (10, PI s10), (12, d12)], (g1 ++ (.row false v0 2 (rowP encBind o0) :: (g2 ++ h1)))⟩) ∧ o0.length = n0
set_option maxHeartbeats 4000000 in
theorem slices_partialInsertionSort_Bm_R3 (s1 : Int) (s2 : Int) (s9 : Int) (s10 : Int) (g1 : AHeap) (v0 : Nat) (n0 : Nat) (g2 : AHeap) : ∀ (s : Int × (List Bind)) (g : AHeap) r, slices_partialInsertionSort_Bm_I3 s1 s2 s9 s10 g1 v0 n0 g2 s → slices_partialInsertionSort_Bm_l3 s1 s2 s9 s10 s = some r → Sum.elim (fun s' => (∃ g', semA C (Lim C) 21268317252094917911888073248812900111 b90_3 (slices_partialInsertionSort_Bm_S3 s1 s2 s9 s10 g1 v0 n0 g2 s g) = some (.normal, slices_partialInsertionSort_Bm_S3 s1 s2 s9 s10 g1 v0 n0 g2 s' g')) ∧ slices_partialInsertionSort_Bm_I3 s1 s2 s9 s10 g1 v0 n0 g2 s') (fun x => ∃ q, semA C (Lim C) 21268317252094917911888073248812900111 b90_3 (slices_partialInsertionSort_Bm_S3 s1 s2 s9 s10 g1 v0 n0 g2 s g) = some q ∧ q.1 ≠ .normal ∧ slices_partialInsertionSort_Bm_X3 s1 s2 s9 s10 g1 v0 n0 g2 x q) r := by
  intro s g r hI hr
  obtain ⟨s12, o0⟩ := s
  have ⟨gt, hg0⟩ : ∃ y, y = g := ⟨_, rfl⟩
  subst hg0
  simp only [slices_partialInsertionSort_Bm_I3] at hI
  have hI0 := hI
  simp only [slices_partialInsertionSort_Bm_l3] at hr
  rcases Classical.propComplete (s12 < s2) with h1 | h1
  simp only [h1, if_true] at hr
  obtain ⟨x26, h2, hr⟩ := bsome hr
  have h2a := eq_true (idx_some h2).1
  have h2b : (s12 < (n0 : Int)) = True := eq_true (by have hb : s12 < (o0.length : Int) := (idx_some h2).2.1; omega)
  have h2c := (idx_some h2).2.2
  obtain ⟨x27, h3, hr⟩ := bsome hr
  have h3a := eq_true (idx_some h3).1
  have h3b : ((w64 (s12 - 1)) < (n0 : Int)) = True := eq_true (by have hb : (w64 (s12 - 1)) < (o0.length : Int) := (idx_some h3).2.1; omega)
  have h3c := (idx_some h3).2.2
  obtain ⟨x28, h4, hr⟩ := bsome hr
  have h4k := fun h => match_Match_c1_o (h := h) (args := [.ag [PI x26.Var, .d (.rd (x26.T.map intD))], .ag [PI x27.Var, .d (.rd (x27.T.map intD))]]) h4 rfl
  try simp only [go_sem] at h4k
  rcases Classical.propComplete (x28 < 0) with h5 | h5
  simp only [h5, if_true] at hr
  obtain ⟨x29, h6, hr⟩ := bsome hr
  have h6a := eq_true (idx_some h6).1
  have h6b : ((w64 (s12 - 1)) < (n0 : Int)) = True := eq_true (by have hb : (w64 (s12 - 1)) < ((o0.set (s12).toNat x27).length : Int) := (idx_some h6).2.1; simp only [List.length_set, List.length_replicate] at hb; omega)
  have h6c := (idx_some h6).2.2
  obtain rfl := Option.some.inj hr
  refine ⟨⟨gt, ?_⟩, (show ((o0.set (s12).toNat x27).set (w64 (s12 - 1)).toNat x26).length = n0 by first | assumption | (simp only [List.length_set, List.length_replicate]; first | done | assumption | omega) | omega)⟩
  rotate_left
  simp only [h5, if_false] at hr
  obtain rfl := Option.some.inj hr
  refine ⟨(.exit 6, ⟨[(0, .ref g1.length v0 0 n0), (1, PI s1), (2, PI s2), (3, .fn 43 []), (8, PB false), (9, PI s9), (10, PI s10), (12, (PI s12))], (g1 ++ (.row false v0 2 (rowP encBind o0) :: (g2 ++ gt)))⟩), ?_, nofun, PI s12, gt, rfl, (show o0.length = n0 by first | assumption | (simp only [List.length_set, List.length_replicate]; first | done | assumption | omega) | omega)⟩
  rotate_left
  simp only [h1, if_false] at hr
  obtain rfl := Option.some.inj hr
  refine ⟨(.exit 6, ⟨[(0, .ref g1.length v0 0 n0), (1, PI s1), (2, PI s2), (3, .fn 43 []), (8, PB false), (9, PI s9), (10, PI s10), (12, (PI s12))], (g1 ++ (.row false v0 2 (rowP encBind o0) :: (g2 ++ gt)))⟩), ?_, nofun, PI s12, gt, rfl, (show o0.length = n0 by first | assumption | (simp only [List.length_set, List.length_replicate]; first | done | assumption | omega) | omega)⟩
  rotate_left
  all_goals (simp (config := {decide := true}) only [go_sem, Int.reduceToNat, Nat.reduceAdd, Nat.reduceLT, Nat.reduceMul, Nat.reducePow, reduceCtorEq, slices_partialInsertionSort_Bm_S3, b90_3, *])
theorem slices_partialInsertionSort_Bm_L3 {s1 : Int} {s2 : Int} {s9 : Int} {s10 : Int} {g1 : AHeap} {v0 : Nat} {n0 : Nat} {g2 : AHeap} {s : Int × (List Bind)} {g : AHeap} {x} (h : wh (slices_partialInsertionSort_Bm_l3 s1 s2 s9 s10) s = some x) (hI : slices_partialInsertionSort_Bm_I3 s1 s2 s9 s10 g1 v0 n0 g2 s) : ∃ q, loopLim (semA C (Lim C) 21268317252094917911888073248812900111 b90_3) (slices_partialInsertionSort_Bm_S3 s1 s2 s9 s10 g1 v0 n0 g2 s g) = some q ∧ slices_partialInsertionSort_Bm_X3 s1 s2 s9 s10 g1 v0 n0 g2 x q := wh_simI (slices_partialInsertionSort_Bm_R3 s1 s2 s9 s10 g1 v0 n0 g2) hI h
def slices_partialInsertionSort_Bm_S2 (s1 : Int) (s2 : Int) (s9 : Int) (s10 : Int) (g1 : AHeap) (v0 : Nat) (n0 : Nat) (g2 : AHeap) : Int × (List Bind) → AHeap → St := fun (s11, o0) gt => ⟨[(0, .ref g1.length v0 0 n0), (1, PI s1), (2, PI s2), (3, .fn 43 []), (8, PB false), (9, PI s9), (10, PI s10), (11, PI s11)], (g1 ++ (.row false v0 2 (rowP encBind o0) :: (g2 ++ gt)))⟩
def slices_partialInsertionSort_Bm_I2 (s1 : Int) (s2 : Int) (s9 : Int) (s10 : Int) (g1 : AHeap) (v0 : Nat) (n0 : Nat) (g2 : AHeap) : Int × (List Bind) → Prop := fun (s11, o0) => o0.length = n0
def slices_partialInsertionSort_Bm_X2 (s1 : Int) (s2 : Int) (s9 : Int) (s10 : Int) (g1 : AHeap) (v0 : Nat) (n0 : Nat) (g2 : AHeap) : ((List Bind)) → AExit × St → Prop := fun o0 q => ∃ d11 : PV, ∃ h1 : AHeap, q = (.exit 4, ⟨[(0, .ref g1.length v0 0 n0), (1, PI s1), (2, PI s2), (3, .fn 43 []), (8, PB false), (9, PI s9), (10, PI s10), (11, d11)], (g1 ++ (.row false v0 2 (rowP encBind o0) :: (g2 ++ h1)))⟩) ∧ o0.length = n0
set_option maxHeartbeats 4000000 in
theorem slices_partialInsertionSort_Bm_R2 (s1 : Int) (s2 : Int) (s9 : Int) (s10 : Int) (g1 : AHeap) (v0 : Nat) (n0 : Nat) (g2 : AHeap) : ∀ (s : Int × (List Bind)) (g : AHeap) r, slices_partialInsertionSort_Bm_I2 s1 s2 s9 s10 g1 v0 n0 g2 s → slices_partialInsertionSort_Bm_l2 s1 s2 s9 s10 s = some r → Sum.elim (fun s' => (∃ g', semA C (Lim C) 21268317252094917911888073248812900111 b90_2 (slices_partialInsertionSort_Bm_S2 s1 s2 s9 s10 g1 v0 n0 g2 s g) = some (.normal, slices_partialInsertionSort_Bm_S2 s1 s2 s9 s10 g1 v0 n0 g2 s' g')) ∧ slices_partialInsertionSort_Bm_I2 s1 s2 s9 s10 g1 v0 n0 g2 s') (fun x => ∃ q, semA C (Lim C) 21268317252094917911888073248812900111 b90_2 (slices_partialInsertionSort_Bm_S2 s1 s2 s9 s10 g1 v0 n0 g2 s g) = some q ∧ q.1 ≠ .normal ∧ slices_partialInsertionSort_Bm_X2 s1 s2 s9 s10 g1 v0 n0 g2 x q) r := by
  intro s g r hI hr
  obtain ⟨s11, o0⟩ := s
  have ⟨gt, hg0⟩ : ∃ y, y = g := ⟨_, rfl⟩
  subst hg0
  simp only [slices_partialInsertionSort_Bm_I2] at hI
  have hI0 := hI
  simp only [slices_partialInsertionSort_Bm_l2] at hr
  rcases Classical.propComplete (1 ≤ s11) with h1 | h1
  simp only [h1, if_true] at hr
  obtain ⟨x10, h2, hr⟩ := bsome hr
  have h2a := eq_true (idx_some h2).1
  have h2b : (s11 < (n0 : Int)) = True := eq_true (by have hb : s11 < (o0.length : Int) := (idx_some h2).2.1; omega)
  have h2c := (idx_some h2).2.2
  obtain ⟨x11, h3, hr⟩ := bsome hr
  have h3a := eq_true (idx_some h3).1
  have h3b : ((w64 (s11 - 1)) < (n0 : Int)) = True := eq_true (by have hb : (w64 (s11 - 1)) < (o0.length : Int) := (idx_some h3).2.1; omega)
  have h3c := (idx_some h3).2.2
  obtain ⟨x12, h4, hr⟩ := bsome hr
  have h4k := fun h => match_Match_c1_o (h := h) (args := [.ag [PI x10.Var, .d (.rd (x10.T.map intD))], .ag [PI x11.Var, .d (.rd (x11.T.map intD))]]) h4 rfl
  try simp only [go_sem] at h4k
  rcases Classical.propComplete (x12 < 0) with h5 | h5
  simp only [h5, if_true] at hr
  obtain ⟨x13, h6, hr⟩ := bsome hr
  have h6a := eq_true (idx_some h6).1
  have h6b : ((w64 (s11 - 1)) < (n0 : Int)) = True := eq_true (by have hb : (w64 (s11 - 1)) < ((o0.set (s11).toNat x11).length : Int) := (idx_some h6).2.1; simp only [List.length_set, List.length_replicate] at hb; omega)
  have h6c := (idx_some h6).2.2
  obtain rfl := Option.some.inj hr
  refine ⟨⟨gt, ?_⟩, (show ((o0.set (s11).toNat x11).set (w64 (s11 - 1)).toNat x10).length = n0 by first | assumption | (simp only [List.length_set, List.length_replicate]; first | done | assumption | omega) | omega)⟩
  rotate_left
  simp only [h5, if_false] at hr
  obtain rfl := Option.some.inj hr
  refine ⟨(.exit 4, ⟨[(0, .ref g1.length v0 0 n0), (1, PI s1), (2, PI s2), (3, .fn 43 []), (8, PB false), (9, PI s9), (10, PI s10), (11, (PI s11))], (g1 ++ (.row false v0 2 (rowP encBind o0) :: (g2 ++ gt)))⟩), ?_, nofun, PI s11, gt, rfl, (show o0.length = n0 by first | assumption | (simp only [List.length_set, List.length_replicate]; first | done | assumption | omega) | omega)⟩
  rotate_left
  simp only [h1, if_false] at hr
  obtain rfl := Option.some.inj hr
  refine ⟨(.exit 4, ⟨[(0, .ref g1.length v0 0 n0), (1, PI s1), (2, PI s2), (3, .fn 43 []), (8, PB false), (9, PI s9), (10, PI s10), (11, (PI s11))], (g1 ++ (.row false v0 2 (rowP encBind o0) :: (g2 ++ gt)))⟩), ?_, nofun, PI s11, gt, rfl, (show o0.length = n0 by first | assumption | (simp only [List.length_set, List.length_replicate]; first | done | assumption | omega) | omega)⟩
  rotate_left
  all_goals (simp (config := {decide := true}) only [go_sem, Int.reduceToNat, Nat.reduceAdd, Nat.reduceLT, Nat.reduceMul, Nat.reducePow, reduceCtorEq, slices_partialInsertionSort_Bm_S2, b90_2, *])
theorem slices_partialInsertionSort_Bm_L2 {s1 : Int} {s2 : Int} {s9 : Int} {s10 : Int} {g1 : AHeap} {v0 : Nat} {n0 : Nat} {g2 : AHeap} {s : Int × (List Bind)} {g : AHeap} {x} (h : wh (slices_partialInsertionSort_Bm_l2 s1 s2 s9 s10) s = some x) (hI : slices_partialInsertionSort_Bm_I2 s1 s2 s9 s10 g1 v0 n0 g2 s) : ∃ q, loopLim (semA C (Lim C) 21268317252094917911888073248812900111 b90_2) (slices_partialInsertionSort_Bm_S2 s1 s2 s9 s10 g1 v0 n0 g2 s g) = some q ∧ slices_partialInsertionSort_Bm_X2 s1 s2 s9 s10 g1 v0 n0 g2 x q := wh_simI (slices_partialInsertionSort_Bm_R2 s1 s2 s9 s10 g1 v0 n0 g2) hI h
def slices_partialInsertionSort_Bm_S1 (s1 : Int) (s2 : Int) (s10 : Int) (o0 : List Bind) (g1 : AHeap) (v0 : Nat) (n0 : Nat) (g2 : AHeap) : Int → AHeap → St := fun s9 gt => ⟨[(0, .ref g1.length v0 0 n0), (1, PI s1), (2, PI s2), (3, .fn 43 []), (8, PB false), (9, PI s9), (10, PI s10)], (g1 ++ (.row false v0 2 (rowP encBind o0) :: (g2 ++ gt)))⟩
def slices_partialInsertionSort_Bm_I1 (s1 : Int) (s2 : Int) (s10 : Int) (o0 : List Bind) (g1 : AHeap) (v0 : Nat) (n0 : Nat) (g2 : AHeap) : Int → Prop := fun s9 => o0.length = n0
def slices_partialInsertionSort_Bm_X1 (s1 : Int) (s2 : Int) (s10 : Int) (o0 : List Bind) (g1 : AHeap) (v0 : Nat) (n0 : Nat) (g2 : AHeap) : Int → AExit × St → Prop := fun s9 q => ∃ h1 : AHeap, q = (.exit 2, ⟨[(0, .ref g1.length v0 0 n0), (1, PI s1), (2, PI s2), (3, .fn 43 []), (8, PB false), (9, PI s9), (10, PI s10)], (g1 ++ (.row false v0 2 (rowP encBind o0) :: (g2 ++ h1)))⟩)
set_option maxHeartbeats 4000000 in
theorem slices_partialInsertionSort_Bm_R1 (s1 : Int) (s2 : Int) (s10 : Int) (o0 : List Bind) (g1 : AHeap) (v0 : Nat) (n0 : Nat) (g2 : AHeap) : ∀ (s : Int) (g : AHeap) r, slices_partialInsertionSort_Bm_I1 s1 s2 s10 o0 g1 v0 n0 g2 s → slices_partialInsertionSort_Bm_l1 s1 s2 s10 o0 s = some r → Sum.elim (fun s' => (∃ g', semA C (Lim C) 21268317252094917911888073248812900111 b90_1 (slices_partialInsertionSort_Bm_S1 s1 s2 s10 o0 g1 v0 n0 g2 s g) = some (.normal, slices_partialInsertionSort_Bm_S1 s1 s2 s10 o0 g1 v0 n0 g2 s' g')) ∧ slices_partialInsertionSort_Bm_I1 s1 s2 s10 o0 g1 v0 n0 g2 s') (fun x => ∃ q, semA C (Lim C) 21268317252094917911888073248812900111 b90_1 (slices_partialInsertionSort_Bm_S1 s1 s2 s10 o0 g1 v0 n0 g2 s g) = some q ∧ q.1 ≠ .normal ∧ slices_partialInsertionSort_Bm_X1 s1 s2 s10 o0 g1 v0 n0 g2 x q) r := by
  intro s g r hI hr
  have ⟨s9, hs0⟩ : ∃ y, y = s := ⟨_, rfl⟩
  subst hs0
  have ⟨gt, hg0⟩ : ∃ y, y = g := ⟨_, rfl⟩
  subst hg0
  simp only [slices_partialInsertionSort_Bm_I1] at hI
  have hI0 := hI
  simp only [slices_partialInsertionSort_Bm_l1] at hr
  rcases Classical.propComplete (s9 < s2) with h1 | h1
  simp only [h1, if_true] at hr
  obtain ⟨x1, h2, hr⟩ := bsome hr
  have h2a := eq_true (idx_some h2).1
  have h2b : (s9 < (n0 : Int)) = True := eq_true (by have hb : s9 < (o0.length : Int) := (idx_some h2).2.1; omega)
  have h2c := (idx_some h2).2.2
  obtain ⟨x2, h3, hr⟩ := bsome hr
  have h3a := eq_true (idx_some h3).1
  have h3b : ((w64 (s9 - 1)) < (n0 : Int)) = True := eq_true (by have hb : (w64 (s9 - 1)) < (o0.length : Int) := (idx_some h3).2.1; omega)
  have h3c := (idx_some h3).2.2
  obtain ⟨x3, h4, hr⟩ := bsome hr
  have h4k := fun h => match_Match_c1_o (h := h) (args := [.ag [PI x1.Var, .d (.rd (x1.T.map intD))], .ag [PI x2.Var, .d (.rd (x2.T.map intD))]]) h4 rfl
  try simp only [go_sem] at h4k
  rcases Classical.propComplete (x3 < 0) with h5 | h5
  simp only [h5, if_true] at hr
  obtain rfl := Option.some.inj hr
  refine ⟨(.exit 2, ⟨[(0, .ref g1.length v0 0 n0), (1, PI s1), (2, PI s2), (3, .fn 43 []), (8, PB false), (9, PI s9), (10, PI s10)], (g1 ++ (.row false v0 2 (rowP encBind o0) :: (g2 ++ gt)))⟩), ?_, nofun, gt, rfl⟩
  rotate_left
  simp only [h5, if_false] at hr
  obtain rfl := Option.some.inj hr
  refine ⟨⟨gt, ?_⟩, (show o0.length = n0 by first | assumption | (simp only [List.length_set, List.length_replicate]; first | done | assumption | omega) | omega)⟩
  rotate_left
  simp only [h1, if_false] at hr
  obtain rfl := Option.some.inj hr
  refine ⟨(.exit 2, ⟨[(0, .ref g1.length v0 0 n0), (1, PI s1), (2, PI s2), (3, .fn 43 []), (8, PB false), (9, PI s9), (10, PI s10)], (g1 ++ (.row false v0 2 (rowP encBind o0) :: (g2 ++ gt)))⟩), ?_, nofun, gt, rfl⟩
  rotate_left
  all_goals (simp (config := {decide := true}) only [go_sem, Int.reduceToNat, Nat.reduceAdd, Nat.reduceLT, Nat.reduceMul, Nat.reducePow, reduceCtorEq, slices_partialInsertionSort_Bm_S1, b90_1, *])
theorem slices_partialInsertionSort_Bm_L1 {s1 : Int} {s2 : Int} {s10 : Int} {o0 : List Bind} {g1 : AHeap} {v0 : Nat} {n0 : Nat} {g2 : AHeap} {s : Int} {g : AHeap} {x} (h : wh (slices_partialInsertionSort_Bm_l1 s1 s2 s10 o0) s = some x) (hI : slices_partialInsertionSort_Bm_I1 s1 s2 s10 o0 g1 v0 n0 g2 s) : ∃ q, loopLim (semA C (Lim C) 21268317252094917911888073248812900111 b90_1) (slices_partialInsertionSort_Bm_S1 s1 s2 s10 o0 g1 v0 n0 g2 s g) = some q ∧ slices_partialInsertionSort_Bm_X1 s1 s2 s10 o0 g1 v0 n0 g2 x q := wh_simI (slices_partialInsertionSort_Bm_R1 s1 s2 s10 o0 g1 v0 n0 g2) hI h
def slices_partialInsertionSort_Bm_S0 (s1 : Int) (s2 : Int) (g1 : AHeap) (v0 : Nat) (n0 : Nat) (g2 : AHeap) : Int × Int × (List Bind) → AHeap → St := fun (s9, s10, o0) gt => ⟨[(0, .ref g1.length v0 0 n0), (1, PI s1), (2, PI s2), (3, .fn 43 []), (8, PB false), (9, PI s9), (10, PI s10)], (g1 ++ (.row false v0 2 (rowP encBind o0) :: (g2 ++ gt)))⟩
def slices_partialInsertionSort_Bm_I0 (s1 : Int) (s2 : Int) (g1 : AHeap) (v0 : Nat) (n0 : Nat) (g2 : AHeap) : Int × Int × (List Bind) → Prop := fun (s9, s10, o0) => o0.length = n0
def slices_partialInsertionSort_Bm_X0 (s1 : Int) (s2 : Int) (g1 : AHeap) (v0 : Nat) (n0 : Nat) (g2 : AHeap) : ((Bool × (List Bind)) ⊕ (Int × Int × (List Bind))) → AExit × St → Prop
  | .inl r, q => q.1 = .ret ∧ ∃ hz : AHeap, mapO (resP C.P q.2) [.tmp 8] = some [PB r.1] ∧ q.2.h = (g1 ++ (.row false v0 2 (rowP encBind r.2) :: (g2 ++ hz))) ∧ r.2.length = n0
  | .inr (s9, s10, o0), q => ∃ h1 : AHeap, q = (.exit 0, ⟨[(0, .ref g1.length v0 0 n0), (1, PI s1), (2, PI s2), (3, .fn 43 []), (8, PB false), (9, PI s9), (10, PI s10)], (g1 ++ (.row false v0 2 (rowP encBind o0) :: (g2 ++ h1)))⟩) ∧ o0.length = n0
set_option maxHeartbeats 4000000 in
theorem slices_partialInsertionSort_Bm_R0 (s1 : Int) (s2 : Int) (g1 : AHeap) (v0 : Nat) (n0 : Nat) (g2 : AHeap) : ∀ (s : Int × Int × (List Bind)) (g : AHeap) r, slices_partialInsertionSort_Bm_I0 s1 s2 g1 v0 n0 g2 s → slices_partialInsertionSort_Bm_l0 s1 s2 s = some r → Sum.elim (fun s' => (∃ g', semA C (Lim C) 21268317252094917911888073248812900111 b90_0 (slices_partialInsertionSort_Bm_S0 s1 s2 g1 v0 n0 g2 s g) = some (.normal, slices_partialInsertionSort_Bm_S0 s1 s2 g1 v0 n0 g2 s' g')) ∧ slices_partialInsertionSort_Bm_I0 s1 s2 g1 v0 n0 g2 s') (fun x => ∃ q, semA C (Lim C) 21268317252094917911888073248812900111 b90_0 (slices_partialInsertionSort_Bm_S0 s1 s2 g1 v0 n0 g2 s g) = some q ∧ q.1 ≠ .normal ∧ slices_partialInsertionSort_Bm_X0 s1 s2 g1 v0 n0 g2 x q) r := by
  intro s g r hI hr
  obtain ⟨s9, s10, o0⟩ := s
  have ⟨gt, hg0⟩ : ∃ y, y = g := ⟨_, rfl⟩
  subst hg0
  simp only [slices_partialInsertionSort_Bm_I0] at hI
  have hI0 := hI
  simp only [slices_partialInsertionSort_Bm_l0] at hr
  rcases Classical.propComplete (s10 < 5) with h1 | h1
  simp only [h1, if_true] at hr
  obtain ⟨x4, h2, hr⟩ := bsome hr
  obtain ⟨q2, h2L, h2X⟩ := slices_partialInsertionSort_Bm_L1 (g1 := g1) (v0 := v0) (n0 := n0) (g2 := (g2 ++ gt)) (g := []) h2 (show o0.length = n0 by first | assumption | (simp only [List.length_set, List.length_replicate]; first | done | assumption | omega) | omega)
  have ⟨x5, hq2⟩ : ∃ y, y = x4 := ⟨_, rfl⟩
  subst hq2
  simp only [slices_partialInsertionSort_Bm_X1, slices_partialInsertionSort_Bm_S1] at h2X h2L
  obtain ⟨z6, rfl⟩ := h2X
  try simp only [go_sem, Nat.reduceAdd] at h2L
  rcases Classical.propComplete (x5 = s2) with h3 | h3
  simp only [h3, if_true] at hr
  obtain rfl := Option.some.inj hr
  refine ⟨(.ret, ⟨[(0, .ref g1.length v0 0 n0), (1, PI s1), (2, PI s2), (3, .fn 43 []), (8, PB true), (9, PI x5), (10, PI s10)], (g1 ++ (.row false v0 2 (rowP encBind o0) :: (g2 ++ (gt ++ z6))))⟩), ?_, nofun, rfl, (gt ++ z6), rfl, rfl, (show o0.length = n0 by first | assumption | (simp only [List.length_set, List.length_replicate]; first | done | assumption | omega) | omega)⟩
  rotate_left
  simp only [h3, if_false] at hr
  rcases Classical.propComplete ((w64 (s2 - s1)) < 50) with h4 | h4
  simp only [h4, if_true] at hr
  obtain rfl := Option.some.inj hr
  refine ⟨(.ret, ⟨[(0, .ref g1.length v0 0 n0), (1, PI s1), (2, PI s2), (3, .fn 43 []), (8, PB false), (9, PI x5), (10, PI s10)], (g1 ++ (.row false v0 2 (rowP encBind o0) :: (g2 ++ (gt ++ z6))))⟩), ?_, nofun, rfl, (gt ++ z6), rfl, rfl, (show o0.length = n0 by first | assumption | (simp only [List.length_set, List.length_replicate]; first | done | assumption | omega) | omega)⟩
  rotate_left
  simp only [h4, if_false] at hr
  obtain ⟨x7, h5, hr⟩ := bsome hr
  have h5a := eq_true (idx_some h5).1
  have h5b : ((w64 (x5 - 1)) < (n0 : Int)) = True := eq_true (by have hb : (w64 (x5 - 1)) < (o0.length : Int) := (idx_some h5).2.1; omega)
  have h5c := (idx_some h5).2.2
  obtain ⟨x8, h6, hr⟩ := bsome hr
  have h6a := eq_true (idx_some h6).1
  have h6b : (x5 < (n0 : Int)) = True := eq_true (by have hb : x5 < (o0.length : Int) := (idx_some h6).2.1; omega)
  have h6c := (idx_some h6).2.2
  obtain ⟨x9, h7, hr⟩ := bsome hr
  have h7a := eq_true (idx_some h7).1
  have h7b : ((w64 (x5 - 1)) < (n0 : Int)) = True := eq_true (by have hb : (w64 (x5 - 1)) < ((o0.set (x5).toNat x7).length : Int) := (idx_some h7).2.1; simp only [List.length_set, List.length_replicate] at hb; omega)
  have h7c := (idx_some h7).2.2
  rcases Classical.propComplete (2 ≤ (w64 (x5 - s1))) with h8 | h8
  simp only [h8, if_true] at hr
  obtain ⟨x14, h9, hr⟩ := bsome hr
  obtain ⟨q9, h9L, h9X⟩ := slices_partialInsertionSort_Bm_L2 (g1 := g1) (v0 := v0) (n0 := n0) (g2 := (g2 ++ (gt ++ z6))) (g := []) h9 (show ((o0.set (x5).toNat x7).set (w64 (x5 - 1)).toNat x8).length = n0 by first | assumption | (simp only [List.length_set, List.length_replicate]; first | done | assumption | omega) | omega)
  have ⟨x15, hq9⟩ : ∃ y, y = x14 := ⟨_, rfl⟩
  subst hq9
  simp only [slices_partialInsertionSort_Bm_X2, slices_partialInsertionSort_Bm_S2] at h9X h9L
  obtain ⟨z16, z17, rfl, h9l0⟩ := h9X
  try simp only [go_sem, Nat.reduceAdd] at h9L
  rcases Classical.propComplete (2 ≤ (w64 (s2 - x5))) with h10 | h10
  simp only [h10, if_true] at hr
  obtain ⟨x22, h11, hr⟩ := bsome hr
  obtain ⟨q11, h11L, h11X⟩ := slices_partialInsertionSort_Bm_L3 (g1 := g1) (v0 := v0) (n0 := n0) (g2 := (g2 ++ (gt ++ (z6 ++ z17)))) (g := []) h11 (show x15.length = n0 by first | assumption | (simp only [List.length_set, List.length_replicate]; first | done | assumption | omega) | omega)
  have ⟨x23, hq11⟩ : ∃ y, y = x22 := ⟨_, rfl⟩
  subst hq11
  simp only [slices_partialInsertionSort_Bm_X3, slices_partialInsertionSort_Bm_S3] at h11X h11L
  obtain ⟨z24, z25, rfl, h11l0⟩ := h11X
  try simp only [go_sem, Nat.reduceAdd] at h11L
  obtain rfl := Option.some.inj hr
  refine ⟨⟨(gt ++ (z6 ++ (z17 ++ z25))), ?_⟩, (show x23.length = n0 by first | assumption | (simp only [List.length_set, List.length_replicate]; first | done | assumption | omega) | omega)⟩
  rotate_left
  simp only [h10, if_false] at hr
  obtain rfl := Option.some.inj hr
  refine ⟨⟨(gt ++ (z6 ++ z17)), ?_⟩, (show x15.length = n0 by first | assumption | (simp only [List.length_set, List.length_replicate]; first | done | assumption | omega) | omega)⟩
  rotate_left
  simp only [h8, if_false] at hr
  rcases Classical.propComplete (2 ≤ (w64 (s2 - x5))) with h12 | h12
  simp only [h12, if_true] at hr
  obtain ⟨x30, h13, hr⟩ := bsome hr
  obtain ⟨q13, h13L, h13X⟩ := slices_partialInsertionSort_Bm_L3 (g1 := g1) (v0 := v0) (n0 := n0) (g2 := (g2 ++ (gt ++ z6))) (g := []) h13 (show ((o0.set (x5).toNat x7).set (w64 (x5 - 1)).toNat x8).length = n0 by first | assumption | (simp only [List.length_set, List.length_replicate]; first | done | assumption | omega) | omega)
  have ⟨x31, hq13⟩ : ∃ y, y = x30 := ⟨_, rfl⟩
  subst hq13
  simp only [slices_partialInsertionSort_Bm_X3, slices_partialInsertionSort_Bm_S3] at h13X h13L
  obtain ⟨z32, z33, rfl, h13l0⟩ := h13X
  try simp only [go_sem, Nat.reduceAdd] at h13L
  obtain rfl := Option.some.inj hr
  refine ⟨⟨(gt ++ (z6 ++ z33)), ?_⟩, (show x31.length = n0 by first | assumption | (simp only [List.length_set, List.length_replicate]; first | done | assumption | omega) | omega)⟩
  rotate_left
  simp only [h12, if_false] at hr
  obtain rfl := Option.some.inj hr
  refine ⟨⟨(gt ++ z6), ?_⟩, (show ((o0.set (x5).toNat x7).set (w64 (x5 - 1)).toNat x8).length = n0 by first | assumption | (simp only [List.length_set, List.length_replicate]; first | done | assumption | omega) | omega)⟩
  rotate_left
  simp only [h1, if_false] at hr
  obtain rfl := Option.some.inj hr
  refine ⟨(.exit 0, ⟨[(0, .ref g1.length v0 0 n0), (1, PI s1), (2, PI s2), (3, .fn 43 []), (8, PB false), (9, PI s9), (10, PI s10)], (g1 ++ (.row false v0 2 (rowP encBind o0) :: (g2 ++ gt)))⟩), ?_, nofun, gt, rfl, (show o0.length = n0 by first | assumption | (simp only [List.length_set, List.length_replicate]; first | done | assumption | omega) | omega)⟩
  rotate_left
  all_goals (simp (config := {decide := true}) only [go_sem, Int.reduceToNat, Nat.reduceAdd, Nat.reduceLT, Nat.reduceMul, Nat.reducePow, reduceCtorEq, slices_partialInsertionSort_Bm_S0, b90_0, *])
theorem slices_partialInsertionSort_Bm_L0 {s1 : Int} {s2 : Int} {g1 : AHeap} {v0 : Nat} {n0 : Nat} {g2 : AHeap} {s : Int × Int × (List Bind)} {g : AHeap} {x} (h : wh (slices_partialInsertionSort_Bm_l0 s1 s2) s = some x) (hI : slices_partialInsertionSort_Bm_I0 s1 s2 g1 v0 n0 g2 s) : ∃ q, loopLim (semA C (Lim C) 21268317252094917911888073248812900111 b90_0) (slices_partialInsertionSort_Bm_S0 s1 s2 g1 v0 n0 g2 s g) = some q ∧ slices_partialInsertionSort_Bm_X0 s1 s2 g1 v0 n0 g2 x q := wh_simI (slices_partialInsertionSort_Bm_R0 s1 s2 g1 v0 n0 g2) hI h
set_option maxHeartbeats 4000000 in
theorem slices_partialInsertionSort_Bm_R {s1 : Int} {s2 : Int} {o0 : List Bind} {g1 : AHeap} {v0 : Nat} {n0 : Nat} {g2 : AHeap} (hln0 : o0.length = n0) {r : Bool × (List Bind)} (hr : slices_partialInsertionSort_Bm s1 s2 o0 = some r) : ∃ hz : AHeap, Lim C 90 [.ref g1.length v0 0 n0, PI s1, PI s2, .fn 43 []] (g1 ++ (.row false v0 2 (rowP encBind o0) :: g2)) = some (resOf [PB r.1], (g1 ++ (.row false v0 2 (rowP encBind r.2) :: (g2 ++ hz)))) ∧ r.2.length = n0 := by
  simp only [slices_partialInsertionSort_Bm] at hr
  obtain ⟨x34, h1, hr⟩ := bsome hr
  obtain ⟨q1, h1L, h1X⟩ := slices_partialInsertionSort_Bm_L0 (g1 := g1) (v0 := v0) (n0 := n0) (g2 := g2) (g := []) h1 (show o0.length = n0 by first | assumption | (simp only [List.length_set, List.length_replicate]; first | done | assumption | omega) | omega)
  rcases x34 with x35 | ⟨x36, x37, x38⟩
  simp only [slices_partialInsertionSort_Bm_X0, slices_partialInsertionSort_Bm_S0] at h1X h1L
  obtain ⟨e1, st1⟩ := q1
  obtain ⟨rfl, h1R⟩ := h1X
  obtain ⟨env1, hp1⟩ := st1
  obtain ⟨y2, h1v, h1h, h1f0⟩ := h1R
  replace h1h : hp1 = _ := h1h
  subst h1h
  try simp only [go_sem, Nat.reduceAdd] at h1L
  obtain rfl := Option.some.inj hr
  refine ⟨y2, Lim_A is90 (Nat.le_of_ble_eq_true rfl) (e := .ret) (env := env1) ?_ (.inr rfl) h1v, h1f0⟩
  rotate_left
  simp only [slices_partialInsertionSort_Bm_X0, slices_partialInsertionSort_Bm_S0] at h1X h1L
  obtain ⟨z39, rfl, h1l0⟩ := h1X
  try simp only [go_sem, Nat.reduceAdd] at h1L
  obtain rfl := Option.some.inj hr
  refine ⟨z39, Lim_A is90 (Nat.le_of_ble_eq_true rfl) (e := .ret) (env := [(0, .ref g1.length v0 0 n0), (1, PI s1), (2, PI s2), (3, .fn 43 []), (8, PB false), (9, PI x36), (10, PI x37)]) (h' := (g1 ++ (.row false v0 2 (rowP encBind x38) :: (g2 ++ z39)))) (vs := [PB false]) ?_ (.inr rfl) rfl, (show x38.length = n0 by first | assumption | (simp only [List.length_set, List.length_replicate]; first | done | assumption | omega) | omega)⟩
  rotate_left
  all_goals (simp (config := {decide := true}) only [go_sem, Int.reduceToNat, Nat.reduceAdd, Nat.reduceLT, Nat.reduceMul, Nat.reducePow, reduceCtorEq, callEnv, c90, *])
theorem slices_partialInsertionSort_Bm_k {s1 : Int} {s2 : Int} {o0 : List Bind} {g1 : AHeap} {v0 : Nat} {n0 : Nat} {g2 : AHeap} (hln0 : o0.length = n0) {r : Bool × (List Bind)} (hr : slices_partialInsertionSort_Bm s1 s2 o0 = some r) : ∃ hz : AHeap, callP C (Lim C) 90 [.ref g1.length v0 0 n0, PI s1, PI s2, .fn 43 []] (g1 ++ (.row false v0 2 (rowP encBind o0) :: g2)) = some (resOf [PB r.1], (g1 ++ (.row false v0 2 (rowP encBind r.2) :: (g2 ++ hz)))) ∧ r.2.length = n0 := by
  obtain ⟨hz, h1, f0⟩ := slices_partialInsertionSort_Bm_R hln0 hr (g1 := g1) (v0 := v0) (n0 := n0) (g2 := g2)
  exact ⟨hz, call_live rfl rfl rfl h1, f0⟩
def b92_4 : ACode := .seq (.seq (.reg [] [] [.M 123 12, .M 124 13, .T 125 (.bin .leq (.tmp 123) (.tmp 124)), .M 126 125, .MG 127 126 true 4, .MG 128 126 true 0, .MG 129 126 true 13, ⟨some (130, false), .ix 2 (.tmp 128) (.tmp 129), some (126, true), true, false⟩, ⟨some (131, false), .load (some 2) (.tmp 130), some (126, true), true, false⟩, .MG 132 126 true 0, .MG 133 126 true 1, ⟨some (134, false), .ix 2 (.tmp 132) (.tmp 133), some (126, true), true, false⟩, ⟨some (135, false), .load (some 2) (.tmp 134), some (126, true), true, false⟩, ⟨some (136, false), .callV (.tmp 127) [.tmp 131, .tmp 135], some (126, true), true, false⟩, .TG 137 126 true (.bin .lss (.tmp 136) (cI 0)), .TG 138 126 true (.not (.tmp 137)), .K 139 (.pick (.tmp 126) (.tmp 138) (.const (.bool false)))]) (.cond (.tmp 139) (some 139) (.skip) (.exit 8))) (.block 9 696898287454081973172991196020261297061888 (.reg [] [] [.M 140 13, .T 141 (.bin .sub (.tmp 140) (cI 1)), .N 13 141]))
def b92_3 : ACode := .seq (.seq (.reg [] [] [.M 105 12, .M 106 13, .T 107 (.bin .leq (.tmp 105) (.tmp 106)), .M 108 107, .MG 109 108 true 4, .MG 110 108 true 0, .MG 111 108 true 12, ⟨some (112, false), .ix 2 (.tmp 110) (.tmp 111), some (108, true), true, false⟩, ⟨some (113, false), .load (some 2) (.tmp 112), some (108, true), true, false⟩, .MG 114 108 true 0, .MG 115 108 true 1, ⟨some (116, false), .ix 2 (.tmp 114) (.tmp 115), some (108, true), true, false⟩, ⟨some (117, false), .load (some 2) (.tmp 116), some (108, true), true, false⟩, ⟨some (118, false), .callV (.tmp 109) [.tmp 113, .tmp 117], some (108, true), true, false⟩, .TG 119 108 true (.bin .lss (.tmp 118) (cI 0)), .K 120 (.pick (.tmp 108) (.tmp 119) (.const (.bool false)))]) (.cond (.tmp 120) (some 120) (.skip) (.exit 6))) (.block 7 1329227995784915872903807060280344576 (.reg [] [] [.M 121 12, .T 122 (.bin .add (.tmp 121) (cI 1)), .N 12 122]))
def b92_2 : ACode := .block 5 22997644815212700899624582372475683083386880 (.seq (.block 6 1329227995784915872903807060280344576 (.loop b92_3)) (.seq (.block 8 696899616682077758088864099827321577406464 (.loop b92_4)) (.seq (.seq (.reg [] [] [.M 142 12, .M 143 13, .K 144 (.bin .gtr (.tmp 142) (.tmp 143))]) (.cond (.tmp 144) (some 144) (.exit 4) (.skip))) (.seq (.reg [] [] [.M 145 0, .M 146 12, .M 147 0, .M 148 13, .M 149 0, .M 150 13, ⟨some (151, false), .ix 2 (.tmp 149) (.tmp 150), none, true, false⟩, ⟨some (152, false), .load (some 2) (.tmp 151), none, true, false⟩, .M 153 0, .M 154 12, ⟨some (155, false), .ix 2 (.tmp 153) (.tmp 154), none, true, false⟩, ⟨some (156, false), .load (some 2) (.tmp 155), none, true, false⟩, ⟨some (157, false), .ix 2 (.tmp 145) (.tmp 146), none, true, false⟩, ⟨none, .store 2 (.tmp 157) (.tmp 152), none, false, false⟩, ⟨some (158, false), .ix 2 (.tmp 147) (.tmp 148), none, true, false⟩, ⟨none, .store 2 (.tmp 158) (.tmp 156), none, false, false⟩]) (.seq (.reg [] [] [.M 159 12, .T 160 (.bin .add (.tmp 159) (cI 1)), .N 12 160]) (.reg [] [] [.M 161 13, .T 162 (.bin .sub (.tmp 161) (cI 1)), .N 13 162]))))))
def b92_1 : ACode := .seq (.seq (.reg [] [] [.M 50 12, .M 51 13, .T 52 (.bin .leq (.tmp 50) (.tmp 51)), .M 53 52, .MG 54 53 true 4, .MG 55 53 true 0, .MG 56 53 true 13, ⟨some (57, false), .ix 2 (.tmp 55) (.tmp 56), some (53, true), true, false⟩, ⟨some (58, false), .load (some 2) (.tmp 57), some (53, true), true, false⟩, .MG 59 53 true 0, .MG 60 53 true 1, ⟨some (61, false), .ix 2 (.tmp 59) (.tmp 60), some (53, true), true, false⟩, ⟨some (62, false), .load (some 2) (.tmp 61), some (53, true), true, false⟩, ⟨some (63, false), .callV (.tmp 54) [.tmp 58, .tmp 62], some (53, true), true, false⟩, .TG 64 53 true (.bin .lss (.tmp 63) (cI 0)), .TG 65 53 true (.not (.tmp 64)), .K 66 (.pick (.tmp 53) (.tmp 65) (.const (.bool false)))]) (.cond (.tmp 66) (some 66) (.skip) (.exit 2))) (.block 3 73786976294838206464 (.reg [] [] [.M 67 13, .T 68 (.bin .sub (.tmp 67) (cI 1)), .N 13 68]))
def b92_0 : ACode := .seq (.seq (.reg [] [] [.M 32 12, .M 33 13, .T 34 (.bin .leq (.tmp 32) (.tmp 33)), .M 35 34, .MG 36 35 true 4, .MG 37 35 true 0, .MG 38 35 true 12, ⟨some (39, false), .ix 2 (.tmp 37) (.tmp 38), some (35, true), true, false⟩, ⟨some (40, false), .load (some 2) (.tmp 39), some (35, true), true, false⟩, .MG 41 35 true 0, .MG 42 35 true 1, ⟨some (43, false), .ix 2 (.tmp 41) (.tmp 42), some (35, true), true, false⟩, ⟨some (44, false), .load (some 2) (.tmp 43), some (35, true), true, false⟩, ⟨some (45, false), .callV (.tmp 36) [.tmp 40, .tmp 44], some (35, true), true, false⟩, .TG 46 35 true (.bin .lss (.tmp 45) (cI 0)), .K 47 (.pick (.tmp 35) (.tmp 46) (.const (.bool false)))]) (.cond (.tmp 47) (some 47) (.skip) (.exit 0))) (.block 1 140737488355328 (.reg [] [] [.M 48 12, .T 49 (.bin .add (.tmp 48) (cI 1)), .N 12 49]))
def c92 : ACode := .seq (.reg [] [] [.K 10 (.mv (cI 0)), .K 11 (.mv (.const (.bool false)))]) (.seq (.reg [] [] [.M 14 0, .M 15 1, .M 16 0, .M 17 3, .M 18 0, .M 19 3, ⟨some (20, false), .ix 2 (.tmp 18) (.tmp 19), none, true, false⟩, ⟨some (21, false), .load (some 2) (.tmp 20), none, true, false⟩, .M 22 0, .M 23 1, ⟨some (24, false), .ix 2 (.tmp 22) (.tmp 23), none, true, false⟩, ⟨some (25, false), .load (some 2) (.tmp 24), none, true, false⟩, ⟨some (26, false), .ix 2 (.tmp 14) (.tmp 15), none, true, false⟩, ⟨none, .store 2 (.tmp 26) (.tmp 21), none, false, false⟩, ⟨some (27, false), .ix 2 (.tmp 16) (.tmp 17), none, true, false⟩, ⟨none, .store 2 (.tmp 27) (.tmp 25), none, false, false⟩]) (.seq (.reg [] [] [.M 28 1, .T 29 (.bin .add (.tmp 28) (cI 1)), .M 30 2, .T 31 (.bin .sub (.tmp 30) (cI 1)), .N 12 29, .N 13 31]) (.seq (.block 0 140737488355328 (.loop b92_0)) (.seq (.block 2 73786976294838206464 (.loop b92_1)) (.seq (.seq (.reg [] [] [.M 69 12, .M 70 13, .K 71 (.bin .gtr (.tmp 69) (.tmp 70))]) (.cond (.tmp 71) (some 71) (.seq (.reg [] [] [.M 72 0, .M 73 13, .M 74 0, .M 75 1, .M 76 0, .M 77 1, ⟨some (78, false), .ix 2 (.tmp 76) (.tmp 77), none, true, false⟩, ⟨some (79, false), .load (some 2) (.tmp 78), none, true, false⟩, .M 80 0, .M 81 13, ⟨some (82, false), .ix 2 (.tmp 80) (.tmp 81), none, true, false⟩, ⟨some (83, false), .load (some 2) (.tmp 82), none, true, false⟩, ⟨some (84, false), .ix 2 (.tmp 72) (.tmp 73), none, true, false⟩, ⟨none, .store 2 (.tmp 84) (.tmp 79), none, false, false⟩, ⟨some (85, false), .ix 2 (.tmp 74) (.tmp 75), none, true, false⟩, ⟨none, .store 2 (.tmp 85) (.tmp 83), none, false, false⟩]) (.seq (.reg [] [] [.M 86 13, .N 10 86, .K 11 (.mv (.const (.bool true)))]) (.ret))) (.skip))) (.seq (.reg [] [] [.M 87 0, .M 88 12, .M 89 0, .M 90 13, .M 91 0, .M 92 13, ⟨some (93, false), .ix 2 (.tmp 91) (.tmp 92), none, true, false⟩, ⟨some (94, false), .load (some 2) (.tmp 93), none, true, false⟩, .M 95 0, .M 96 12, ⟨some (97, false), .ix 2 (.tmp 95) (.tmp 96), none, true, false⟩, ⟨some (98, false), .load (some 2) (.tmp 97), none, true, false⟩, ⟨some (99, false), .ix 2 (.tmp 87) (.tmp 88), none, true, false⟩, ⟨none, .store 2 (.tmp 99) (.tmp 94), none, false, false⟩, ⟨some (100, false), .ix 2 (.tmp 89) (.tmp 90), none, true, false⟩, ⟨none, .store 2 (.tmp 100) (.tmp 98), none, false, false⟩]) (.seq (.reg [] [] [.M 101 12, .T 102 (.bin .add (.tmp 101) (cI 1)), .N 12 102]) (.seq (.reg [] [] [.M 103 13, .T 104 (.bin .sub (.tmp 103) (cI 1)), .N 13 104]) (.seq (.block 4 22997644815212700899624582372475683083386880 (.loop b92_2)) (.seq (.reg [] [] [.M 163 0, .M 164 13, .M 165 0, .M 166 1, .M 167 0, .M 168 1, ⟨some (169, false), .ix 2 (.tmp 167) (.tmp 168), none, true, false⟩, ⟨some (170, false), .load (some 2) (.tmp 169), none, true, false⟩, .M 171 0, .M 172 13, ⟨some (173, false), .ix 2 (.tmp 171) (.tmp 172), none, true, false⟩, ⟨some (174, false), .load (some 2) (.tmp 173), none, true, false⟩, ⟨some (175, false), .ix 2 (.tmp 163) (.tmp 164), none, true, false⟩, ⟨none, .store 2 (.tmp 175) (.tmp 170), none, false, false⟩, ⟨some (176, false), .ix 2 (.tmp 165) (.tmp 166), none, true, false⟩, ⟨none, .store 2 (.tmp 176) (.tmp 174), none, false, false⟩]) (.seq (.reg [] [] [.M 177 13, .N 10 177, .K 11 (.mv (.const (.bool false)))]) (.ret))))))))))))
theorem is92 : IsF C 92 178 22997644815212700899627017342834150232570911 c92 [.tmp 10, .tmp 11] := ⟨⟨Tryd.f92, _, C_P ▸ Tryd.func92, rfl, rfl, rfl, by kernel_rfl, rfl⟩⟩
def slices_partition_Bm_S4 (s1 : Int) (s2 : Int) (s3 : Int) (s12 : Int) (o0 : List Bind) (g1 : AHeap) (v0 : Nat) (n0 : Nat) (g2 : AHeap) : Int → AHeap → St := fun s13 gt => ⟨[(0, .ref g1.length v0 0 n0), (1, PI s1), (2, PI s2), (3, PI s3), (4, .fn 43 []), (10, PI 0), (11, PB false), (12, PI s12), (13, PI s13)], (g1 ++ (.row false v0 2 (rowP encBind o0) :: (g2 ++ gt)))⟩
def slices_partition_Bm_I4 (s1 : Int) (s2 : Int) (s3 : Int) (s12 : Int) (o0 : List Bind) (g1 : AHeap) (v0 : Nat) (n0 : Nat) (g2 : AHeap) : Int → Prop := fun s13 => o0.length = n0
def slices_partition_Bm_X4 (s1 : Int) (s2 : Int) (s3 : Int) (s12 : Int) (o0 : List Bind) (g1 : AHeap) (v0 : Nat) (n0 : Nat) (g2 : AHeap) : Int → AExit × St → Prop := fun s13 q => ∃ h1 : AHeap, q = (.exit 8, ⟨[(0, .ref g1.length v0 0 n0), (1, PI s1), (2, PI s2), (3, PI s3), (4, .fn 43 []), (10, PI 0), (11, PB false), (12, PI s12), (13, PI s13)], (g1 ++ (.row false v0 2 (rowP encBind o0) :: (g2 ++ h1)))⟩)
set_option maxHeartbeats 4000000 in
theorem slices_partition_Bm_R4 (s1 : Int) (s2 : Int) (s3 : Int) (s12 : Int) (o0 : List Bind) (g1 : AHeap) (v0 : Nat) (n0 : Nat) (g2 : AHeap) : ∀ (s : Int) (g : AHeap) r, slices_partition_Bm_I4 s1 s2 s3 s12 o0 g1 v0 n0 g2 s → slices_partition_Bm_l4 s1 s2 s3 s12 o0 s = some r → Sum.elim (fun s' => (∃ g', semA C (Lim C) 22997644815212700899627017342834150232570911 b92_4 (slices_partition_Bm_S4 s1 s2 s3 s12 o0 g1 v0 n0 g2 s g) = some (.normal, slices_partition_Bm_S4 s1 s2 s3 s12 o0 g1 v0 n0 g2 s' g')) ∧ slices_partition_Bm_I4 s1 s2 s3 s12 o0 g1 v0 n0 g2 s') (fun x => ∃ q, semA C (Lim C) 22997644815212700899627017342834150232570911 b92_4 (slices_partition_Bm_S4 s1 s2 s3 s12 o0 g1 v0 n0 g2 s g) = some q ∧ q.1 ≠ .normal ∧ slices_partition_Bm_X4 s1 s2 s3 s12 o0 g1 v0 n0 g2 x q) r := by
  intro s g r hI hr
  have ⟨s13, hs0⟩ : ∃ y, y = s := ⟨_, rfl⟩
  subst hs0
  have ⟨gt, hg0⟩ : ∃ y, y = g := ⟨_, rfl⟩
  subst hg0
  simp only [slices_partition_Bm_I4] at hI
  have hI0 := hI
  simp only [slices_partition_Bm_l4] at hr
  rcases Classical.propComplete (s12 ≤ s13) with h1 | h1
  simp only [h1, if_true] at hr
  obtain ⟨x28, h2, hr⟩ := bsome hr
  have h2a := eq_true (idx_some h2).1
  have h2b : (s13 < (n0 : Int)) = True := eq_true (by have hb : s13 < (o0.length : Int) := (idx_some h2).2.1; omega)
  have h2c := (idx_some h2).2.2
  obtain ⟨x29, h3, hr⟩ := bsome hr
  have h3a := eq_true (idx_some h3).1
  have h3b : (s1 < (n0 : Int)) = True := eq_true (by have hb : s1 < (o0.length : Int) := (idx_some h3).2.1; omega)
  have h3c := (idx_some h3).2.2
  obtain ⟨x30, h4, hr⟩ := bsome hr
  have h4k := fun h => match_Match_c1_o (h := h) (args := [.ag [PI x28.Var, .d (.rd (x28.T.map intD))], .ag [PI x29.Var, .d (.rd (x29.T.map intD))]]) h4 rfl
  try simp only [go_sem] at h4k
  rcases Classical.propComplete (x30 < 0) with h5 | h5
  simp only [h5, if_true] at hr
  obtain rfl := Option.some.inj hr
  refine ⟨(.exit 8, ⟨[(0, .ref g1.length v0 0 n0), (1, PI s1), (2, PI s2), (3, PI s3), (4, .fn 43 []), (10, PI 0), (11, PB false), (12, PI s12), (13, PI s13)], (g1 ++ (.row false v0 2 (rowP encBind o0) :: (g2 ++ gt)))⟩), ?_, nofun, gt, rfl⟩
  rotate_left
  simp only [h5, if_false] at hr
  obtain rfl := Option.some.inj hr
  refine ⟨⟨gt, ?_⟩, (show o0.length = n0 by first | assumption | (simp only [List.length_set, List.length_replicate]; first | done | assumption | omega) | omega)⟩
  rotate_left
  simp only [h1, if_false] at hr
  obtain rfl := Option.some.inj hr
  refine ⟨(.exit 8, ⟨[(0, .ref g1.length v0 0 n0), (1, PI s1), (2, PI s2), (3, PI s3), (4, .fn 43 []), (10, PI 0), (11, PB false), (12, PI s12), (13, PI s13)], (g1 ++ (.row false v0 2 (rowP encBind o0) :: (g2 ++ gt)))⟩), ?_, nofun, gt, rfl⟩
  rotate_left
  all_goals (simp (config := {decide := true}) only [go_sem, Int.reduceToNat, Nat.reduceAdd, Nat.reduceLT, Nat.reduceMul, Nat.reducePow, reduceCtorEq, slices_partition_Bm_S4, b92_4, *])
theorem slices_partition_Bm_L4 {s1 : Int} {s2 : Int} {s3 : Int} {s12 : Int} {o0 : List Bind} {g1 : AHeap} {v0 : Nat} {n0 : Nat} {g2 : AHeap} {s : Int} {g : AHeap} {x} (h : wh (slices_partition_Bm_l4 s1 s2 s3 s12 o0) s = some x) (hI : slices_partition_Bm_I4 s1 s2 s3 s12 o0 g1 v0 n0 g2 s) : ∃ q, loopLim (semA C (Lim C) 22997644815212700899627017342834150232570911 b92_4) (slices_partition_Bm_S4 s1 s2 s3 s12 o0 g1 v0 n0 g2 s g) = some q ∧ slices_partition_Bm_X4 s1 s2 s3 s12 o0 g1 v0 n0 g2 x q := wh_simI (slices_partition_Bm_R4 s1 s2 s3 s12 o0 g1 v0 n0 g2) hI h
def slices_partition_Bm_S3 (s1 : Int) (s2 : Int) (s3 : Int) (s13 : Int) (o0 : List Bind) (g1 : AHeap) (v0 : Nat) (n0 : Nat) (g2 : AHeap) : Int → AHeap → St := fun s12 gt => ⟨[(0, .ref g1.length v0 0 n0), (1, PI s1), (2, PI s2), (3, PI s3), (4, .fn 43 []), (10, PI 0), (11, PB false), (12, PI s12), (13, PI s13)], (g1 ++ (.row false v0 2 (rowP encBind o0) :: (g2 ++ gt)))⟩
def slices_partition_Bm_I3 (s1 : Int) (s2 : Int) (s3 : Int) (s13 : Int) (o0 : List Bind) (g1 : AHeap) (v0 : Nat) (n0 : Nat) (g2 : AHeap) : Int → Prop := fun s12 => o0.length = n0
def slices_partition_Bm_X3 (s1 : Int) (s2 : Int) (s3 : Int) (s13 : Int) (o0 : List Bind) (g1 : AHeap) (v0 : Nat) (n0 : Nat) (g2 : AHeap) : Int → AExit × St → Prop := fun s12 q => ∃ h1 : AHeap, q = (.exit 6, ⟨[(0, .ref g1.length v0 0 n0), (1, PI s1), (2, PI s2), (3, PI s3), (4, .fn 43 []), (10, PI 0), (11, PB false), (12, PI s12), (13, PI s13)], (g1 ++ (.row false v0 2 (rowP encBind o0) :: (g2 ++ h1)))⟩)
set_option maxHeartbeats 4000000 in
theorem slices_partition_Bm_R3 (s1 : Int) (s2 : Int) (s3 : Int) (s13 : Int) (o0 : List Bind) (g1 : AHeap) (v0 : Nat) (n0 : Nat) (g2 : AHeap) : ∀ (s : Int) (g : AHeap) r, slices_partition_Bm_I3 s1 s2 s3 s13 o0 g1 v0 n0 g2 s → slices_partition_Bm_l3 s1 s2 s3 s13 o0 s = some r → Sum.elim (fun s' => (∃ g', semA C (Lim C) 22997644815212700899627017342834150232570911 b92_3 (slices_partition_Bm_S3 s1 s2 s3 s13 o0 g1 v0 n0 g2 s g) = some (.normal, slices_partition_Bm_S3 s1 s2 s3 s13 o0 g1 v0 n0 g2 s' g')) ∧ slices_partition_Bm_I3 s1 s2 s3 s13 o0 g1 v0 n0 g2 s') (fun x => ∃ q, semA C (Lim C) 22997644815212700899627017342834150232570911 b92_3 (slices_partition_Bm_S3 s1 s2 s3 s13 o0 g1 v0 n0 g2 s g) = some q ∧ q.1 ≠ .normal ∧ slices_partition_Bm_X3 s1 s2 s3 s13 o0 g1 v0 n0 g2 x q) r := by
  intro s g r hI hr
  have ⟨s12, hs0⟩ : ∃ y, y = s := ⟨_, rfl⟩
  subst hs0
  have ⟨gt, hg0⟩ : ∃ y, y = g := ⟨_, rfl⟩
  subst hg0
  simp only [slices_partition_Bm_I3] at hI
  have hI0 := hI
  simp only [slices_partition_Bm_l3] at hr
  rcases Classical.propComplete (s12 ≤ s13) with h1 | h1
  simp only [h1, if_true] at hr
  obtain ⟨x22, h2, hr⟩ := bsome hr
  have h2a := eq_true (idx_some h2).1
  have h2b : (s12 < (n0 : Int)) = True := eq_true (by have hb : s12 < (o0.length : Int) := (idx_some h2).2.1; omega)
  have h2c := (idx_some h2).2.2
  obtain ⟨x23, h3, hr⟩ := bsome hr
  have h3a := eq_true (idx_some h3).1
  have h3b : (s1 < (n0 : Int)) = True := eq_true (by have hb : s1 < (o0.length : Int) := (idx_some h3).2.1; omega)
  have h3c := (idx_some h3).2.2
  obtain ⟨x24, h4, hr⟩ := bsome hr
  have h4k := fun h => match_Match_c1_o (h := h) (args := [.ag [PI x22.Var, .d (.rd (x22.T.map intD))], .ag [PI x23.Var, .d (.rd (x23.T.map intD))]]) h4 rfl
  try simp only [go_sem] at h4k
  rcases Classical.propComplete (x24 < 0) with h5 | h5
  simp only [h5, if_true] at hr
  obtain rfl := Option.some.inj hr
  refine ⟨⟨gt, ?_⟩, (show o0.length = n0 by first | assumption | (simp only [List.length_set, List.length_replicate]; first | done | assumption | omega) | omega)⟩
  rotate_left
  simp only [h5, if_false] at hr
  obtain rfl := Option.some.inj hr
  refine ⟨(.exit 6, ⟨[(0, .ref g1.length v0 0 n0), (1, PI s1), (2, PI s2), (3, PI s3), (4, .fn 43 []), (10, PI 0), (11, PB false), (12, PI s12), (13, PI s13)], (g1 ++ (.row false v0 2 (rowP encBind o0) :: (g2 ++ gt)))⟩), ?_, nofun, gt, rfl⟩
  rotate_left
  simp only [h1, if_false] at hr
  obtain rfl := Option.some.inj hr
  refine ⟨(.exit 6, ⟨[(0, .ref g1.length v0 0 n0), (1, PI s1), (2, PI s2), (3, PI s3), (4, .fn 43 []), (10, PI 0), (11, PB false), (12, PI s12), (13, PI s13)], (g1 ++ (.row false v0 2 (rowP encBind o0) :: (g2 ++ gt)))⟩), ?_, nofun, gt, rfl⟩
  rotate_left
  all_goals (simp (config := {decide := true}) only [go_sem, Int.reduceToNat, Nat.reduceAdd, Nat.reduceLT, Nat.reduceMul, Nat.reducePow, reduceCtorEq, slices_partition_Bm_S3, b92_3, *])
theorem slices_partition_Bm_L3 {s1 : Int} {s2 : Int} {s3 : Int} {s13 : Int} {o0 : List Bind} {g1 : AHeap} {v0 : Nat} {n0 : Nat} {g2 : AHeap} {s : Int} {g : AHeap} {x} (h : wh (slices_partition_Bm_l3 s1 s2 s3 s13 o0) s = some x) (hI : slices_partition_Bm_I3 s1 s2 s3 s13 o0 g1 v0 n0 g2 s) : ∃ q, loopLim (semA C (Lim C) 22997644815212700899627017342834150232570911 b92_3) (slices_partition_Bm_S3 s1 s2 s3 s13 o0 g1 v0 n0 g2 s g) = some q ∧ slices_partition_Bm_X3 s1 s2 s3 s13 o0 g1 v0 n0 g2 x q := wh_simI (slices_partition_Bm_R3 s1 s2 s3 s13 o0 g1 v0 n0 g2) hI h
def slices_partition_Bm_S2 (s1 : Int) (s2 : Int) (s3 : Int) (g1 : AHeap) (v0 : Nat) (n0 : Nat) (g2 : AHeap) : Int × Int × (List Bind) → AHeap → St := fun (s12, s13, o0) gt => ⟨[(0, .ref g1.length v0 0 n0), (1, PI s1), (2, PI s2), (3, PI s3), (4, .fn 43 []), (10, PI 0), (11, PB false), (12, PI s12), (13, PI s13)], (g1 ++ (.row false v0 2 (rowP encBind o0) :: (g2 ++ gt)))⟩
def slices_partition_Bm_I2 (s1 : Int) (s2 : Int) (s3 : Int) (g1 : AHeap) (v0 : Nat) (n0 : Nat) (g2 : AHeap) : Int × Int × (List Bind) → Prop := fun (s12, s13, o0) => o0.length = n0
def slices_partition_Bm_X2 (s1 : Int) (s2 : Int) (s3 : Int) (g1 : AHeap) (v0 : Nat) (n0 : Nat) (g2 : AHeap) : (Int × Int × (List Bind)) → AExit × St → Prop := fun (s12, s13, o0) q => ∃ h1 : AHeap, q = (.exit 4, ⟨[(0, .ref g1.length v0 0 n0), (1, PI s1), (2, PI s2), (3, PI s3), (4, .fn 43 []), (10, PI 0), (11, PB false), (12, PI s12), (13, PI s13)], (g1 ++ (.row false v0 2 (rowP encBind o0) :: (g2 ++ h1)))⟩) ∧ o0.length = n0
set_option maxHeartbeats 4000000 in
theorem slices_partition_Bm_R2 (s1 : Int) (s2 : Int) (s3 : Int) (g1 : AHeap) (v0 : Nat) (n0 : Nat) (g2 : AHeap) : ∀ (s : Int × Int × (List Bind)) (g : AHeap) r, slices_partition_Bm_I2 s1 s2 s3 g1 v0 n0 g2 s → slices_partition_Bm_l2 s1 s2 s3 s = some r → Sum.elim (fun s' => (∃ g', semA C (Lim C) 22997644815212700899627017342834150232570911 b92_2 (slices_partition_Bm_S2 s1 s2 s3 g1 v0 n0 g2 s g) = some (.normal, slices_partition_Bm_S2 s1 s2 s3 g1 v0 n0 g2 s' g')) ∧ slices_partition_Bm_I2 s1 s2 s3 g1 v0 n0 g2 s') (fun x => ∃ q, semA C (Lim C) 22997644815212700899627017342834150232570911 b92_2 (slices_partition_Bm_S2 s1 s2 s3 g1 v0 n0 g2 s g) = some q ∧ q.1 ≠ .normal ∧ slices_partition_Bm_X2 s1 s2 s3 g1 v0 n0 g2 x q) r := by
  intro s g r hI hr
  obtain ⟨s12, s13, o0⟩ := s
  have ⟨gt, hg0⟩ : ∃ y, y = g := ⟨_, rfl⟩
  subst hg0
  simp only [slices_partition_Bm_I2] at hI
  have hI0 := hI
  simp only [slices_partition_Bm_l2] at hr
  obtain ⟨x25, h1, hr⟩ := bsome hr
  obtain ⟨q1, h1L, h1X⟩ := slices_partition_Bm_L3 (g1 := g1) (v0 := v0) (n0 := n0) (g2 := (g2 ++ gt)) (g := []) h1 (show o0.length = n0 by first | assumption | (simp only [List.length_set, List.length_replicate]; first | done | assumption | omega) | omega)
  have ⟨x26, hq1⟩ : ∃ y, y = x25 := ⟨_, rfl⟩
  subst hq1
  simp only [slices_partition_Bm_X3, slices_partition_Bm_S3] at h1X h1L
  obtain ⟨z27, rfl⟩ := h1X
  try simp only [go_sem, Nat.reduceAdd] at h1L
  obtain ⟨x31, h2, hr⟩ := bsome hr
  obtain ⟨q2, h2L, h2X⟩ := slices_partition_Bm_L4 (g1 := g1) (v0 := v0) (n0 := n0) (g2 := (g2 ++ (gt ++ z27))) (g := []) h2 (show o0.length = n0 by first | assumption | (simp only [List.length_set, List.length_replicate]; first | done | assumption | omega) | omega)
  have ⟨x32, hq2⟩ : ∃ y, y = x31 := ⟨_, rfl⟩
  subst hq2
  simp only [slices_partition_Bm_X4, slices_partition_Bm_S4] at h2X h2L
  obtain ⟨z33, rfl⟩ := h2X
  try simp only [go_sem, Nat.reduceAdd] at h2L
  rcases Classical.propComplete (x32 < x26) with h3 | h3
  simp only [h3, if_true] at hr
  obtain rfl := Option.some.inj hr
  refine ⟨(.exit 4, ⟨[(0, .ref g1.length v0 0 n0), (1, PI s1), (2, PI s2), (3, PI s3), (4, .fn 43 []), (10, PI 0), (11, PB false), (12, PI x26), (13, PI x32)], (g1 ++ (.row false v0 2 (rowP encBind o0) :: (g2 ++ (gt ++ (z27 ++ z33)))))⟩), ?_, nofun, (gt ++ (z27 ++ z33)), rfl, (show o0.length = n0 by first | assumption | (simp only [List.length_set, List.length_replicate]; first | done | assumption | omega) | omega)⟩
  rotate_left
  simp only [h3, if_false] at hr
  obtain ⟨x34, h4, hr⟩ := bsome hr
  have h4a := eq_true (idx_some h4).1
  have h4b : (x32 < (n0 : Int)) = True := eq_true (by have hb : x32 < (o0.length : Int) := (idx_some h4).2.1; omega)
  have h4c := (idx_some h4).2.2
  obtain ⟨x35, h5, hr⟩ := bsome hr
  have h5a := eq_true (idx_some h5).1
  have h5b : (x26 < (n0 : Int)) = True := eq_true (by have hb : x26 < (o0.length : Int) := (idx_some h5).2.1; omega)
  have h5c := (idx_some h5).2.2
  obtain ⟨x36, h6, hr⟩ := bsome hr
  have h6a := eq_true (idx_some h6).1
  have h6b : (x32 < (n0 : Int)) = True := eq_true (by have hb : x32 < ((o0.set (x26).toNat x34).length : Int) := (idx_some h6).2.1; simp only [List.length_set, List.length_replicate] at hb; omega)
  have h6c := (idx_some h6).2.2
  obtain rfl := Option.some.inj hr
  refine ⟨⟨(gt ++ (z27 ++ z33)), ?_⟩, (show ((o0.set (x26).toNat x34).set (x32).toNat x35).length = n0 by first | assumption | (simp only [List.length_set, List.length_replicate]; first | done | assumption | omega) | omega)⟩
  rotate_left
  all_goals (simp (config := {decide := true}) only [go_sem, Int.reduceToNat, Nat.reduceAdd, Nat.reduceLT, Nat.reduceMul, Nat.reducePow, reduceCtorEq, slices_partition_Bm_S2, b92_2, *])
theorem slices_partition_Bm_L2 {s1 : Int} {s2 : Int} {s3 : Int} {g1 : AHeap} {v0 : Nat} {n0 : Nat} {g2 : AHeap} {s : Int × Int × (List Bind)} {g : AHeap} {x} (h : wh (slices_partition_Bm_l2 s1 s2 s3) s = some x) (hI : slices_partition_Bm_I2 s1 s2 s3 g1 v0 n0 g2 s) : ∃ q, loopLim (semA C (Lim C) 22997644815212700899627017342834150232570911 b92_2) (slices_partition_Bm_S2 s1 s2 s3 g1 v0 n0 g2 s g) = some q ∧ slices_partition_Bm_X2 s1 s2 s3 g1 v0 n0 g2 x q := wh_simI (slices_partition_Bm_R2 s1 s2 s3 g1 v0 n0 g2) hI h
def slices_partition_Bm_S1 (s1 : Int) (s2 : Int) (s3 : Int) (s12 : Int) (o0 : List Bind) (g1 : AHeap) (v0 : Nat) (n0 : Nat) (g2 : AHeap) : Int → AHeap → St := fun s13 gt => ⟨[(0, .ref g1.length v0 0 n0), (1, PI s1), (2, PI s2), (3, PI s3), (4, .fn 43 []), (10, PI 0), (11, PB false), (12, PI s12), (13, PI s13)], (g1 ++ (.row false v0 2 (rowP encBind o0) :: (g2 ++ gt)))⟩
def slices_partition_Bm_I1 (s1 : Int) (s2 : Int) (s3 : Int) (s12 : Int) (o0 : List Bind) (g1 : AHeap) (v0 : Nat) (n0 : Nat) (g2 : AHeap) : Int → Prop := fun s13 => o0.length = n0
def slices_partition_Bm_X1 (s1 : Int) (s2 : Int) (s3 : Int) (s12 : Int) (o0 : List Bind) (g1 : AHeap) (v0 : Nat) (n0 : Nat) (g2 : AHeap) : Int → AExit × St → Prop := fun s13 q => ∃ h1 : AHeap, q = (.exit 2, ⟨[(0, .ref g1.length v0 0 n0), (1, PI s1), (2, PI s2), (3, PI s3), (4, .fn 43 []), (10, PI 0), (11, PB false), (12, PI s12), (13, PI s13)], (g1 ++ (.row false v0 2 (rowP encBind o0) :: (g2 ++ h1)))⟩)
set_option maxHeartbeats 4000000 in
theorem slices_partition_Bm_R1 (s1 : Int) (s2 : Int) (s3 : Int) (s12 : Int) (o0 : List Bind) (g1 : AHeap) (v0 : Nat) (n0 : Nat) (g2 : AHeap) : ∀ (s : Int) (g : AHeap) r, slices_partition_Bm_I1 s1 s2 s3 s12 o0 g1 v0 n0 g2 s → slices_partition_Bm_l1 s1 s2 s3 s12 o0 s = some r → Sum.elim (fun s' => (∃ g', semA C (Lim C) 22997644815212700899627017342834150232570911 b92_1 (slices_partition_Bm_S1 s1 s2 s3 s12 o0 g1 v0 n0 g2 s g) = some (.normal, slices_partition_Bm_S1 s1 s2 s3 s12 o0 g1 v0 n0 g2 s' g')) ∧ slices_partition_Bm_I1 s1 s2 s3 s12 o0 g1 v0 n0 g2 s') (fun x => ∃ q, semA C (Lim C) 22997644815212700899627017342834150232570911 b92_1 (slices_partition_Bm_S1 s1 s2 s3 s12 o0 g1 v0 n0 g2 s g) = some q ∧ q.1 ≠ .normal ∧ slices_partition_Bm_X1 s1 s2 s3 s12 o0 g1 v0 n0 g2 x q) r := by
  intro s g r hI hr
  have ⟨s13, hs0⟩ : ∃ y, y = s := ⟨_, rfl⟩
  subst hs0
  have ⟨gt, hg0⟩ : ∃ y, y = g := ⟨_, rfl⟩
  subst hg0
  simp only [slices_partition_Bm_I1] at hI
  have hI0 := hI
  simp only [slices_partition_Bm_l1] at hr
  rcases Classical.propComplete (s12 ≤ s13) with h1 | h1
  simp only [h1, if_true] at hr
  obtain ⟨x10, h2, hr⟩ := bsome hr
  have h2a := eq_true (idx_some h2).1
  have h2b : (s13 < (n0 : Int)) = True := eq_true (by have hb : s13 < (o0.length : Int) := (idx_some h2).2.1; omega)
  have h2c := (idx_some h2).2.2
  obtain ⟨x11, h3, hr⟩ := bsome hr
  have h3a := eq_true (idx_some h3).1
  have h3b : (s1 < (n0 : Int)) = True := eq_true (by have hb : s1 < (o0.length : Int) := (idx_some h3).2.1; omega)
  have h3c := (idx_some h3).2.2
  obtain ⟨x12, h4, hr⟩ := bsome hr
  have h4k := fun h => match_Match_c1_o (h := h) (args := [.ag [PI x10.Var, .d (.rd (x10.T.map intD))], .ag [PI x11.Var, .d (.rd (x11.T.map intD))]]) h4 rfl
  try simp only [go_sem] at h4k
  rcases Classical.propComplete (x12 < 0) with h5 | h5
  simp only [h5, if_true] at hr
  obtain rfl := Option.some.inj hr
  refine ⟨(.exit 2, ⟨[(0, .ref g1.length v0 0 n0), (1, PI s1), (2, PI s2), (3, PI s3), (4, .fn 43 []), (10, PI 0), (11, PB false), (12, PI s12), (13, PI s13)], (g1 ++ (.row false v0 2 (rowP encBind o0) :: (g2 ++ gt)))⟩), ?_, nofun, gt, rfl⟩
  rotate_left
  simp only [h5, if_false] at hr
  obtain rfl := Option.some.inj hr
  refine ⟨⟨gt, ?_⟩, (show o0.length = n0 by first | assumption | (simp only [List.length_set, List.length_replicate]; first | done | assumption | omega) | omega)⟩
  rotate_left
  simp only [h1, if_false] at hr
  obtain rfl := Option.some.inj hr
  refine ⟨(.exit 2, ⟨[(0, .ref g1.length v0 0 n0), (1, PI s1), (2, PI s2), (3, PI s3), (4, .fn 43 []), (10, PI 0), (11, PB false), (12, PI s12), (13, PI s13)], (g1 ++ (.row false v0 2 (rowP encBind o0) :: (g2 ++ gt)))⟩), ?_, nofun, gt, rfl⟩
  rotate_left
  all_goals (simp (config := {decide := true}) only [go_sem, Int.reduceToNat, Nat.reduceAdd, Nat.reduceLT, Nat.reduceMul, Nat.reducePow, reduceCtorEq, slices_partition_Bm_S1, b92_1, *])
theorem slices_partition_Bm_L1 {s1 : Int} {s2 : Int} {s3 : Int} {s12 : Int} {o0 : List Bind} {g1 : AHeap} {v0 : Nat} {n0 : Nat} {g2 : AHeap} {s : Int} {g : AHeap} {x} (h : wh (slices_partition_Bm_l1 s1 s2 s3 s12 o0) s = some x) (hI : slices_partition_Bm_I1 s1 s2 s3 s12 o0 g1 v0 n0 g2 s) : ∃ q, loopLim (semA C (Lim C) 22997644815212700899627017342834150232570911 b92_1) (slices_partition_Bm_S1 s1 s2 s3 s12 o0 g1 v0 n0 g2 s g) = some q ∧ slices_partition_Bm_X1 s1 s2 s3 s12 o0 g1 v0 n0 g2 x q := wh_simI (slices_partition_Bm_R1 s1 s2 s3 s12 o0 g1 v0 n0 g2) hI h
def slices_partition_Bm_S0 (s1 : Int) (s2 : Int) (s3 : Int) (s13 : Int) (o0 : List Bind) (g1 : AHeap) (v0 : Nat) (n0 : Nat) (g2 : AHeap) : Int → AHeap → St := fun s12 gt => ⟨[(0, .ref g1.length v0 0 n0), (1, PI s1), (2, PI s2), (3, PI s3), (4, .fn 43 []), (10, PI 0), (11, PB false), (12, PI s12), (13, PI s13)], (g1 ++ (.row false v0 2 (rowP encBind o0) :: (g2 ++ gt)))⟩
def slices_partition_Bm_I0 (s1 : Int) (s2 : Int) (s3 : Int) (s13 : Int) (o0 : List Bind) (g1 : AHeap) (v0 : Nat) (n0 : Nat) (g2 : AHeap) : Int → Prop := fun s12 => o0.length = n0
def slices_partition_Bm_X0 (s1 : Int) (s2 : Int) (s3 : Int) (s13 : Int) (o0 : List Bind) (g1 : AHeap) (v0 : Nat) (n0 : Nat) (g2 : AHeap) : Int → AExit × St → Prop := fun s12 q => ∃ h1 : AHeap, q = (.exit 0, ⟨[(0, .ref g1.length v0 0 n0), (1, PI s1), (2, PI s2), (3, PI s3), (4, .fn 43 []), (10, PI 0), (11, PB false), (12, PI s12), (13, PI s13)], (g1 ++ (.row false v0 2 (rowP encBind o0) :: (g2 ++ h1)))⟩)
set_option maxHeartbeats 4000000 in
theorem slices_partition_Bm_R0 (s1 : Int) (s2 : Int) (s3 : Int) (s13 : Int) (o0 : List Bind) (g1 : AHeap) (v0 : Nat) (n0 : Nat) (g2 : AHeap) : ∀ (s : Int) (g : AHeap) r, slices_partition_Bm_I0 s1 s2 s3 s13 o0 g1 v0 n0 g2 s → slices_partition_Bm_l0 s1 s2 s3 s13 o0 s = some r → Sum.elim (fun s' => (∃ g', semA C (Lim C) 22997644815212700899627017342834150232570911 b92_0 (slices_partition_Bm_S0 s1 s2 s3 s13 o0 g1 v0 n0 g2 s g) = some (.normal, slices_partition_Bm_S0 s1 s2 s3 s13 o0 g1 v0 n0 g2 s' g')) ∧ slices_partition_Bm_I0 s1 s2 s3 s13 o0 g1 v0 n0 g2 s') (fun x => ∃ q, semA C (Lim C) 22997644815212700899627017342834150232570911 b92_0 (slices_partition_Bm_S0 s1 s2 s3 s13 o0 g1 v0 n0 g2 s g) = some q ∧ q.1 ≠ .normal ∧ slices_partition_Bm_X0 s1 s2 s3 s13 o0 g1 v0 n0 g2 x q) r := by
  intro s g r hI hr
  have ⟨s12, hs0⟩ : ∃ y, y = s := ⟨_, rfl⟩
  subst hs0
  have ⟨gt, hg0⟩ : ∃ y, y = g := ⟨_, rfl⟩
  subst hg0
  simp only [slices_partition_Bm_I0] at hI
  have hI0 := hI
  simp only [slices_partition_Bm_l0] at hr
  rcases Classical.propComplete (s12 ≤ s13) with h1 | h1
  simp only [h1, if_true] at hr
  obtain ⟨x4, h2, hr⟩ := bsome hr
  have h2a := eq_true (idx_some h2).1
  have h2b : (s12 < (n0 : Int)) = True := eq_true (by have hb : s12 < (o0.length : Int) := (idx_some h2).2.1; omega)
  have h2c := (idx_some h2).2.2
  obtain ⟨x5, h3, hr⟩ := bsome hr
  have h3a := eq_true (idx_some h3).1
  have h3b : (s1 < (n0 : Int)) = True := eq_true (by have hb : s1 < (o0.length : Int) := (idx_some h3).2.1; omega)
  have h3c := (idx_some h3).2.2
  obtain ⟨x6, h4, hr⟩ := bsome hr
  have h4k := fun h => match_Match_c1_o (h := h) (args := [.ag [PI x4.Var, .d (.rd (x4.T.map intD))], .ag [PI x5.Var, .d (.rd (x5.T.map intD))]]) h4 rfl
  try simp only [go_sem] at h4k
  rcases Classical.propComplete (x6 < 0) with h5 | h5
  simp only [h5, if_true] at hr
  obtain rfl := Option.some.inj hr
  refine ⟨⟨gt, ?_⟩, (show o0.length = n0 by first | assumption | (simp only [List.length_set, List.length_replicate]; first | done | assumption | omega) | omega)⟩
  rotate_left
  simp only [h5, if_false] at hr
  obtain rfl := Option.some.inj hr
  refine ⟨(.exit 0, ⟨[(0, .ref g1.length v0 0 n0), (1, PI s1), (2, PI s2), (3, PI s3), (4, .fn 43 []), (10, PI 0), (11, PB false), (12, PI s12), (13, PI s13)], (g1 ++ (.row false v0 2 (rowP encBind o0) :: (g2 ++ gt)))⟩), ?_, nofun, gt, rfl⟩
  rotate_left
  simp only [h1, if_false] at hr
  obtain rfl := Option.some.inj hr
  refine ⟨(.exit 0, ⟨[(0, .ref g1.length v0 0 n0), (1, PI s1), (2, PI s2), (3, PI s3), (4, .fn 43 []), (10, PI 0), (11, PB false), (12, PI s12), (13, PI s13)], (g1 ++ (.row false v0 2 (rowP encBind o0) :: (g2 ++ gt)))⟩), ?_, nofun, gt, rfl⟩
  rotate_left
  all_goals (simp (config := {decide := true}) only [go_sem, Int.reduceToNat, Nat.reduceAdd, Nat.reduceLT, Nat.reduceMul, Nat.reducePow, reduceCtorEq, slices_partition_Bm_S0, b92_0, *])
theorem slices_partition_Bm_L0 {s1 : Int} {s2 : Int} {s3 : Int} {s13 : Int} {o0 : List Bind} {g1 : AHeap} {v0 : Nat} {n0 : Nat} {g2 : AHeap} {s : Int} {g : AHeap} {x} (h : wh (slices_partition_Bm_l0 s1 s2 s3 s13 o0) s = some x) (hI : slices_partition_Bm_I0 s1 s2 s3 s13 o0 g1 v0 n0 g2 s) : ∃ q, loopLim (semA C (Lim C) 22997644815212700899627017342834150232570911 b92_0) (slices_partition_Bm_S0 s1 s2 s3 s13 o0 g1 v0 n0 g2 s g) = some q ∧ slices_partition_Bm_X0 s1 s2 s3 s13 o0 g1 v0 n0 g2 x q := wh_simI (slices_partition_Bm_R0 s1 s2 s3 s13 o0 g1 v0 n0 g2) hI h
set_option maxHeartbeats 4000000 in
theorem slices_partition_Bm_R {s1 : Int} {s2 : Int} {s3 : Int} {o0 : List Bind} {g1 : AHeap} {v0 : Nat} {n0 : Nat} {g2 : AHeap} (hln0 : o0.length = n0) {r : Int × Bool × (List Bind)} (hr : slices_partition_Bm s1 s2 s3 o0 = some r) : ∃ hz : AHeap, Lim C 92 [.ref g1.length v0 0 n0, PI s1, PI s2, PI s3, .fn 43 []] (g1 ++ (.row false v0 2 (rowP encBind o0) :: g2)) = some (resOf [PI r.1, PB r.2.1], (g1 ++ (.row false v0 2 (rowP encBind r.2.2) :: (g2 ++ hz)))) ∧ r.2.2.length = n0 := by
  simp only [slices_partition_Bm] at hr
  obtain ⟨x1, h1, hr⟩ := bsome hr
  have h1a := eq_true (idx_some h1).1
  have h1b : (s3 < (n0 : Int)) = True := eq_true (by have hb : s3 < (o0.length : Int) := (idx_some h1).2.1; omega)
  have h1c := (idx_some h1).2.2
  obtain ⟨x2, h2, hr⟩ := bsome hr
  have h2a := eq_true (idx_some h2).1
  have h2b : (s1 < (n0 : Int)) = True := eq_true (by have hb : s1 < (o0.length : Int) := (idx_some h2).2.1; omega)
  have h2c := (idx_some h2).2.2
  obtain ⟨x3, h3, hr⟩ := bsome hr
  have h3a := eq_true (idx_some h3).1
  have h3b : (s3 < (n0 : Int)) = True := eq_true (by have hb : s3 < ((o0.set (s1).toNat x1).length : Int) := (idx_some h3).2.1; simp only [List.length_set, List.length_replicate] at hb; omega)
  have h3c := (idx_some h3).2.2
  obtain ⟨x7, h4, hr⟩ := bsome hr
  obtain ⟨q4, h4L, h4X⟩ := slices_partition_Bm_L0 (g1 := g1) (v0 := v0) (n0 := n0) (g2 := g2) (g := []) h4 (show ((o0.set (s1).toNat x1).set (s3).toNat x2).length = n0 by first | assumption | (simp only [List.length_set, List.length_replicate]; first | done | assumption | omega) | omega)
  have ⟨x8, hq4⟩ : ∃ y, y = x7 := ⟨_, rfl⟩
  subst hq4
  simp only [slices_partition_Bm_X0, slices_partition_Bm_S0] at h4X h4L
  obtain ⟨z9, rfl⟩ := h4X
  try simp only [go_sem, Nat.reduceAdd] at h4L
  obtain ⟨x13, h5, hr⟩ := bsome hr
  obtain ⟨q5, h5L, h5X⟩ := slices_partition_Bm_L1 (g1 := g1) (v0 := v0) (n0 := n0) (g2 := (g2 ++ z9)) (g := []) h5 (show ((o0.set (s1).toNat x1).set (s3).toNat x2).length = n0 by first | assumption | (simp only [List.length_set, List.length_replicate]; first | done | assumption | omega) | omega)
  have ⟨x14, hq5⟩ : ∃ y, y = x13 := ⟨_, rfl⟩
  subst hq5
  simp only [slices_partition_Bm_X1, slices_partition_Bm_S1] at h5X h5L
  obtain ⟨z15, rfl⟩ := h5X
  try simp only [go_sem, Nat.reduceAdd] at h5L
  rcases Classical.propComplete (x14 < x8) with h6 | h6
  simp only [h6, if_true] at hr
  obtain ⟨x16, h7, hr⟩ := bsome hr
  have h7a := eq_true (idx_some h7).1
  have h7b : (s1 < (n0 : Int)) = True := eq_true (by have hb : s1 < (((o0.set (s1).toNat x1).set (s3).toNat x2).length : Int) := (idx_some h7).2.1; simp only [List.length_set, List.length_replicate] at hb; omega)
  have h7c := (idx_some h7).2.2
  obtain ⟨x17, h8, hr⟩ := bsome hr
  have h8a := eq_true (idx_some h8).1
  have h8b : (x14 < (n0 : Int)) = True := eq_true (by have hb : x14 < (((o0.set (s1).toNat x1).set (s3).toNat x2).length : Int) := (idx_some h8).2.1; simp only [List.length_set, List.length_replicate] at hb; omega)
  have h8c := (idx_some h8).2.2
  obtain ⟨x18, h9, hr⟩ := bsome hr
  have h9a := eq_true (idx_some h9).1
  have h9b : (s1 < (n0 : Int)) = True := eq_true (by have hb : s1 < ((((o0.set (s1).toNat x1).set (s3).toNat x2).set (x14).toNat x16).length : Int) := (idx_some h9).2.1; simp only [List.length_set, List.length_replicate] at hb; omega)
  have h9c := (idx_some h9).2.2
  obtain rfl := Option.some.inj hr
  refine ⟨(z9 ++ z15), Lim_A is92 (Nat.le_of_ble_eq_true rfl) (e := .ret) (env := [(0, .ref g1.length v0 0 n0), (1, PI s1), (2, PI s2), (3, PI s3), (4, .fn 43 []), (10, PI x14), (11, PB true), (12, PI x8), (13, PI x14)]) (h' := (g1 ++ (.row false v0 2 (rowP encBind ((((o0.set (s1).toNat x1).set (s3).toNat x2).set (x14).toNat x16).set (s1).toNat x17)) :: (g2 ++ (z9 ++ z15))))) (vs := [PI x14, PB true]) ?_ (.inr rfl) rfl, (show ((((o0.set (s1).toNat x1).set (s3).toNat x2).set (x14).toNat x16).set (s1).toNat x17).length = n0 by first | assumption | (simp only [List.length_set, List.length_replicate]; first | done | assumption | omega) | omega)⟩
  rotate_left
  simp only [h6, if_false] at hr
  obtain ⟨x19, h10, hr⟩ := bsome hr
  have h10a := eq_true (idx_some h10).1
  have h10b : (x14 < (n0 : Int)) = True := eq_true (by have hb : x14 < (((o0.set (s1).toNat x1).set (s3).toNat x2).length : Int) := (idx_some h10).2.1; simp only [List.length_set, List.length_replicate] at hb; omega)
  have h10c := (idx_some h10).2.2
  obtain ⟨x20, h11, hr⟩ := bsome hr
  have h11a := eq_true (idx_some h11).1
  have h11b : (x8 < (n0 : Int)) = True := eq_true (by have hb : x8 < (((o0.set (s1).toNat x1).set (s3).toNat x2).length : Int) := (idx_some h11).2.1; simp only [List.length_set, List.length_replicate] at hb; omega)
  have h11c := (idx_some h11).2.2
  obtain ⟨x21, h12, hr⟩ := bsome hr
  have h12a := eq_true (idx_some h12).1
  have h12b : (x14 < (n0 : Int)) = True := eq_true (by have hb : x14 < ((((o0.set (s1).toNat x1).set (s3).toNat x2).set (x8).toNat x19).length : Int) := (idx_some h12).2.1; simp only [List.length_set, List.length_replicate] at hb; omega)
  have h12c := (idx_some h12).2.2
  obtain ⟨x37, h13, hr⟩ := bsome hr
  obtain ⟨q13, h13L, h13X⟩ := slices_partition_Bm_L2 (g1 := g1) (v0 := v0) (n0 := n0) (g2 := (g2 ++ (z9 ++ z15))) (g := []) h13 (show ((((o0.set (s1).toNat x1).set (s3).toNat x2).set (x8).toNat x19).set (x14).toNat x20).length = n0 by first | assumption | (simp only [List.length_set, List.length_replicate]; first | done | assumption | omega) | omega)
  obtain ⟨x38, x39, x40⟩ := x37
  simp only [slices_partition_Bm_X2, slices_partition_Bm_S2] at h13X h13L
  obtain ⟨z41, rfl, h13l0⟩ := h13X
  try simp only [go_sem, Nat.reduceAdd] at h13L
  obtain ⟨x42, h14, hr⟩ := bsome hr
  have h14a := eq_true (idx_some h14).1
  have h14b : (s1 < (n0 : Int)) = True := eq_true (by have hb : s1 < (x40.length : Int) := (idx_some h14).2.1; omega)
  have h14c := (idx_some h14).2.2
  obtain ⟨x43, h15, hr⟩ := bsome hr
  have h15a := eq_true (idx_some h15).1
  have h15b : (x39 < (n0 : Int)) = True := eq_true (by have hb : x39 < (x40.length : Int) := (idx_some h15).2.1; omega)
  have h15c := (idx_some h15).2.2
  obtain ⟨x44, h16, hr⟩ := bsome hr
  have h16a := eq_true (idx_some h16).1
  have h16b : (s1 < (n0 : Int)) = True := eq_true (by have hb : s1 < ((x40.set (x39).toNat x42).length : Int) := (idx_some h16).2.1; simp only [List.length_set, List.length_replicate] at hb; omega)
  have h16c := (idx_some h16).2.2
  obtain rfl := Option.some.inj hr
  refine ⟨(z9 ++ (z15 ++ z41)), Lim_A is92 (Nat.le_of_ble_eq_true rfl) (e := .ret) (env := [(0, .ref g1.length v0 0 n0), (1, PI s1), (2, PI s2), (3, PI s3), (4, .fn 43 []), (10, PI x39), (11, PB false), (12, PI x38), (13, PI x39)]) (h' := (g1 ++ (.row false v0 2 (rowP encBind ((x40.set (x39).toNat x42).set (s1).toNat x43)) :: (g2 ++ (z9 ++ (z15 ++ z41)))))) (vs := [PI x39, PB false]) ?_ (.inr rfl) rfl, (show ((x40.set (x39).toNat x42).set (s1).toNat x43).length = n0 by first | assumption | (simp only [List.length_set, List.length_replicate]; first | done | assumption | omega) | omega)⟩
  rotate_left
  all_goals (simp (config := {decide := true}) only [go_sem, Int.reduceToNat, Nat.reduceAdd, Nat.reduceLT, Nat.reduceMul, Nat.reducePow, reduceCtorEq, callEnv, c92, *])
theorem slices_partition_Bm_k {s1 : Int} {s2 : Int} {s3 : Int} {o0 : List Bind} {g1 : AHeap} {v0 : Nat} {n0 : Nat} {g2 : AHeap} (hln0 : o0.length = n0) {r : Int × Bool × (List Bind)} (hr : slices_partition_Bm s1 s2 s3 o0 = some r) : ∃ hz : AHeap, callP C (Lim C) 92 [.ref g1.length v0 0 n0, PI s1, PI s2, PI s3, .fn 43 []] (g1 ++ (.row false v0 2 (rowP encBind o0) :: g2)) = some (resOf [PI r.1, PB r.2.1], (g1 ++ (.row false v0 2 (rowP encBind r.2.2) :: (g2 ++ hz)))) ∧ r.2.2.length = n0 := by
  obtain ⟨hz, h1, f0⟩ := slices_partition_Bm_R hln0 hr (g1 := g1) (v0 := v0) (n0 := n0) (g2 := g2)
  exact ⟨hz, call_live rfl rfl rfl h1, f0⟩
end Ld

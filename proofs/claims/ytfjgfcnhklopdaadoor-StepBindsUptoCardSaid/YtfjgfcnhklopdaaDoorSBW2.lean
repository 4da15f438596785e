import Derived.Test.YtfjgfcnhklopdaaDoorSBW1
set_option maxHeartbeats 4000000
set_option linter.unusedVariables false
set_option linter.unusedSimpArgs false
namespace Ld
open Go Go.Proofs Go.Abs
set_option maxRecDepth 8000
def c80 : ACode := .seq (.reg [] [(2, 0)] [.K 2 (.mv (.const Go.Value.nilIface))]) (.seq (.seq (.reg [] [] [.M 3 0, .K 4 (.bin .lss (.tmp 3) (cI 0))]) (.cond (.tmp 4) (some 4) (.seq (.reg [] [(2, 0)] [.M 5 0, .T 6 (.bin .sub (cI (-1)) (.tmp 5)), .T 7 (.mkI 130 (.tmp 6)), .N 2 7]) (.ret)) (.skip))) (.seq (.reg [] [(2, 0)] [.M 8 0, .T 9 (.mkI 128 (.tmp 8)), .N 2 9]) (.ret)))
theorem is80 : IsF C 80 10 21 c80 [.tmp 2] := ⟨⟨Tryd.f80, _, C_P ▸ Tryd.func80, rfl, rfl, rfl, by kernel_rfl, rfl⟩⟩
theorem qqO9 {a0 : Int} {r : D} (hr : qeT9 a0 = some r) : ∃ p hp, Lim C 80 [PI a0] [] = some (p, hp) ∧ rsT hp p = some (.d (r)) := by
  simp only [qeT9] at hr
  rcases pcA (a0 < 0) with h1 | h1
  simp only [h1, if_true] at hr
  obtain rfl := oiA hr
  refine qh9 is80 (nbA rfl) (q := (.ret, ⟨[(0, PI a0), (2, .d (.ifc 130 (.v (.int .i64 (w64 ((-1) - a0))))))], []⟩)) ?_ (.inr rfl) ⟨[.d (.ifc 130 (.v (.int .i64 (w64 ((-1) - a0)))))], rfl, ?_⟩
  rotate_left 2
  simp only [h1, if_false] at hr
  obtain rfl := oiA hr
  refine qh9 is80 (nbA rfl) (q := (.ret, ⟨[(0, PI a0), (2, .d (.ifc 128 (.v (.int .i64 a0))))], []⟩)) ?_ (.inr rfl) ⟨[.d (.ifc 128 (.v (.int .i64 a0)))], rfl, ?_⟩
  rotate_left 2
  all_goals (simp +decide only [go_sem, Int.reduceToNat, Nat.reduceAdd, Nat.reduceLT, Nat.reduceMul, Nat.reducePow, reduceCtorEq, qg9, c80, *])
theorem qpL9 {a0 : Int} {r : D} (hr : qeT9 a0 = some r) {h : AHeap} : callP C (Lim C) 80 [PI a0] h = some (.d (r), h) := qbk9 (ds := [.v (.int .i64 a0)]) rfl rfl rfl (qqO9 hr) h
def b81_0 : ACode := .seq (.seq (.reg [] [] [.M 8 6, .K 9 (.bin .gtr (.tmp 8) (cI 0))]) (.cond (.tmp 9) (some 9) (.skip) (.exit 0))) (.seq (.block 1 131712 (.seq (.seq (.reg [] [] [.M 12 1, .M 13 5, .T 14 (.ix 1 (.tmp 12) (.tmp 13)), .T 15 (.load none (.tmp 14)), .N 7 15]) (.seq (.reg [] [] [.M 16 7, .K 17 (.bin .geq (.tmp 16) (cI 0))]) (.cond (.tmp 17) (some 17) (.reg [] [] [.M 18 6, .M 19 0, .M 20 7, .T 21 (.ix 2 (.tmp 19) (.tmp 20)), .T 22 (.fa 1 (.tmp 21)), .T 23 (.load none (.tmp 22)), .T 24 (.bin .add (.tmp 18) (.tmp 23)), .N 6 24]) (.skip)))) (.reg [] [] [.M 25 5, .T 26 (.bin .add (.tmp 25) (cI 1)), .N 5 26]))) (.reg [] [] [.M 10 6, .T 11 (.bin .sub (.tmp 10) (cI 1)), .N 6 11]))
def c81 : ACode := .seq (.reg [] [] [.K 4 (.mv (cI 0))]) (.seq (.reg [] [] [.K 5 (.mv (cI 0))]) (.seq (.seq (.reg [] [] [.K 6 (.mv (cI 1))]) (.block 0 131712 (.loop b81_0))) (.seq (.reg [] [] [.M 27 5, .N 4 27]) (.ret))))
theorem is81 : IsF C 81 28 131827 c81 [.tmp 4] := ⟨⟨Tryd.f81, _, C_P ▸ Tryd.func81, rfl, rfl, rfl, by kernel_rfl, rfl⟩⟩
def qeB9 (s0 : List Symbol) (s1 : List Int) : Int × Int → Unit → St := fun (s5, s6) _ => ⟨[(0, .d (.rd (s0.map qa9))), (1, .d (.rd (s1.map intD))), (4, PI 0), (5, PI s5), (6, PI s6)], []⟩
def qhD9 (s0 : List Symbol) (s1 : List Int) : (Int × Int) → AExit × St → Prop := fun (s5, s6) q => q = (.exit 0, ⟨[(0, .d (.rd (s0.map qa9))), (1, .d (.rd (s1.map intD))), (4, PI 0), (5, PI s5), (6, PI s6)], []⟩)
theorem qoc9 (s0 : List Symbol) (s1 : List Int) : ∀ (s : Int × Int) (g : Unit) r, qcH9 s0 s1 s = some r → Sum.elim (fun s' => ∃ g', semA C (Lim C) 131827 b81_0 (qeB9 s0 s1 s g) = some (.normal, qeB9 s0 s1 s' g')) (fun x => ∃ q, semA C (Lim C) 131827 b81_0 (qeB9 s0 s1 s g) = some q ∧ q.1 ≠ .normal ∧ qhD9 s0 s1 x q) r := by
  intro s g r hr
  obtain ⟨s5, s6⟩ := s
  simp only [qcH9] at hr
  rcases pcA (0 < s6) with h1 | h1
  simp only [h1, if_true] at hr
  obtain ⟨x1, h2, hr⟩ := bsome hr
  rcases pcA (0 ≤ x1) with h3 | h3
  simp only [h3, if_true] at hr
  obtain ⟨x2, h4, hr⟩ := bsome hr
  obtain rfl := oiA hr
  refine ⟨(), ?_⟩
  rotate_left
  simp only [h3, if_false] at hr
  obtain rfl := oiA hr
  refine ⟨(), ?_⟩
  rotate_left
  simp only [h1, if_false] at hr
  obtain rfl := oiA hr
  refine ⟨(.exit 0, ⟨[(0, .d (.rd (s0.map qa9))), (1, .d (.rd (s1.map intD))), (4, PI 0), (5, PI s5), (6, PI s6)], []⟩), ?_, nofun, rfl⟩
  rotate_left
  all_goals (simp +decide only [go_sem, Int.reduceToNat, Nat.reduceAdd, Nat.reduceLT, Nat.reduceMul, Nat.reducePow, reduceCtorEq, qeB9, b81_0, *])
theorem qod9 {s0 : List Symbol} {s1 : List Int} {s : Int × Int} {g : Unit} {x} (h : wh (qcH9 s0 s1) s = some x) : ∃ q, qp9 (semA C (Lim C) 131827 b81_0) (qeB9 s0 s1 s g) = some q ∧ qhD9 s0 s1 x q := qcx9 (qoc9 s0 s1) h
theorem qpl9 {a0 : List Symbol} {a1 : List Int} {r : Int} (hr : qfC9 a0 a1 = some r) : ∃ p hp, Lim C 81 [.d (.rd (a0.map qa9)), .d (.rd (a1.map intD))] [] = some (p, hp) ∧ rsT hp p = some (PI r) := by
  simp only [qfC9] at hr
  obtain ⟨x3, h1, hr⟩ := bsome hr
  obtain ⟨q1, h1L, h1X⟩ := qod9 (g := ()) h1
  obtain ⟨x4, x5⟩ := x3
  simp only [qhD9, qeB9] at h1X h1L
  subst h1X
  try simp only [go_sem, Nat.reduceAdd, la1, la2, la3, la4, la5, la6] at h1L
  obtain rfl := oiA hr
  refine qh9 is81 (nbA rfl) (q := (.ret, ⟨[(0, .d (.rd (a0.map qa9))), (1, .d (.rd (a1.map intD))), (4, PI x4), (5, PI x4), (6, PI x5)], []⟩)) ?_ (.inr rfl) ⟨[PI x4], rfl, ?_⟩
  rotate_left 2
  all_goals (simp +decide only [go_sem, Int.reduceToNat, Nat.reduceAdd, Nat.reduceLT, Nat.reduceMul, Nat.reducePow, reduceCtorEq, qg9, c81, *])
theorem qoZ9 {a0 : List Symbol} {a1 : List Int} {r : Int} (hr : qfC9 a0 a1 = some r) {h : AHeap} : callP C (Lim C) 81 [.d (.rd (a0.map qa9)), .d (.rd (a1.map intD))] h = some (PI r, h) := qbk9 (ds := [.rd (a0.map qa9), .rd (a1.map intD)]) rfl rfl rfl (qpl9 hr) h
def b82_0 : ACode := .seq (.reg [] [] [.K 14 (.bin .lss (.tmp 13) (.tmp 12))]) (.seq (.cond (.tmp 14) (some 14) (.skip) (.exit 0)) (.seq (.block 1 16793632 (.seq (.reg [] [] [.M 15 13, .N 5 15]) (.seq (.reg [] [] [.M 16 0, .M 17 5, ⟨some (18, false), .ix 1 (.tmp 16) (.tmp 17), none, true, false⟩, ⟨some (19, false), .load none (.tmp 18), none, true, false⟩, .M 20 1, .M 21 5, ⟨some (22, false), .ix 1 (.tmp 20) (.tmp 21), none, true, false⟩, ⟨some (23, false), .load none (.tmp 22), none, true, false⟩, .K 24 (.bin .neq (.tmp 19) (.tmp 23))]) (.cond (.tmp 24) (some 24) (.seq (.reg [] [] [.K 4 (.mv (.const (.bool false)))]) (.ret)) (.skip))))) (.reg [] [] [.T 25 (.bin .add (.tmp 13) (cI 1)), .N 13 25])))
def c82 : ACode := .seq (.reg [] [] [.K 4 (.mv (.const (.bool false)))]) (.seq (.seq (.reg [] [] [.M 6 0, .T 7 (.len (.tmp 6)), .M 8 1, .T 9 (.len (.tmp 8)), .K 10 (.bin .neq (.tmp 7) (.tmp 9))]) (.cond (.tmp 10) (some 10) (.seq (.reg [] [] [.K 4 (.mv (.const (.bool false)))]) (.ret)) (.skip))) (.seq (.seq (.reg [] [] [.M 11 0, .K 12 (.len (.tmp 11)), .K 13 (.mv (cI 0))]) (.block 0 16793632 (.loop b82_0))) (.seq (.reg [] [] [.K 4 (.mv (.const (.bool true)))]) (.ret))))
theorem is82 : IsF C 82 26 16806963 c82 [.tmp 4] := ⟨⟨Tryd.f82, _, C_P ▸ Tryd.func82, rfl, rfl, rfl, by kernel_rfl, rfl⟩⟩
def qbm9 (s0 : List Int) (s1 : List Int) (s12 : Int) : Int → Unit → St := fun s13 _ => ⟨[(0, .d (.rd (s0.map intD))), (1, .d (.rd (s1.map intD))), (4, PB false), (12, PI s12), (13, PI s13)], []⟩
def qdj9 (s0 : List Int) (s1 : List Int) (s12 : Int) : (Bool ⊕ Int) → AExit × St → Prop
  | .inl r, q => q.1 = .ret ∧ RetOK C [.tmp 4] q.2 (PB r)
  | .inr s13, q => q = (.exit 0, ⟨[(0, .d (.rd (s0.map intD))), (1, .d (.rd (s1.map intD))), (4, PB false), (12, PI s12), (13, PI s13)], []⟩)
theorem qiE9 (s0 : List Int) (s1 : List Int) (s12 : Int) : ∀ (s : Int) (g : Unit) r, qcw9 s0 s1 s12 s = some r → Sum.elim (fun s' => ∃ g', semA C (Lim C) 16806963 b82_0 (qbm9 s0 s1 s12 s g) = some (.normal, qbm9 s0 s1 s12 s' g')) (fun x => ∃ q, semA C (Lim C) 16806963 b82_0 (qbm9 s0 s1 s12 s g) = some q ∧ q.1 ≠ .normal ∧ qdj9 s0 s1 s12 x q) r := by
  intro s g r hr
  have ⟨s13, hs0⟩ : ∃ y, y = s := ⟨_, rfl⟩
  subst hs0
  simp only [qcw9] at hr
  rcases pcA (s13 < s12) with h1 | h1
  simp only [h1, if_true] at hr
  obtain ⟨x1, h2, hr⟩ := bsome hr
  obtain ⟨x2, h3, hr⟩ := bsome hr
  rcases pcA (x1 = x2) with h4 | h4
  simp only [h4, if_true] at hr
  obtain rfl := oiA hr
  refine ⟨(), ?_⟩
  rotate_left
  simp only [h4, if_false] at hr
  obtain rfl := oiA hr
  refine ⟨(.ret, ⟨[(0, .d (.rd (s0.map intD))), (1, .d (.rd (s1.map intD))), (4, PB false), (5, PI s13), (12, PI s12), (13, PI s13)], []⟩), ?_, nofun, rfl, [PB false], rfl, ?_⟩
  rotate_left 2
  simp only [h1, if_false] at hr
  obtain rfl := oiA hr
  refine ⟨(.exit 0, ⟨[(0, .d (.rd (s0.map intD))), (1, .d (.rd (s1.map intD))), (4, PB false), (12, PI s12), (13, PI s13)], []⟩), ?_, nofun, rfl⟩
  rotate_left
  all_goals (simp +decide only [go_sem, Int.reduceToNat, Nat.reduceAdd, Nat.reduceLT, Nat.reduceMul, Nat.reducePow, reduceCtorEq, qbm9, b82_0, *])
theorem qiR9 {s0 : List Int} {s1 : List Int} {s12 : Int} {s : Int} {g : Unit} {x} (h : wh (qcw9 s0 s1 s12) s = some x) : ∃ q, qp9 (semA C (Lim C) 16806963 b82_0) (qbm9 s0 s1 s12 s g) = some q ∧ qdj9 s0 s1 s12 x q := qcx9 (qiE9 s0 s1 s12) h
theorem qjm9 {a0 : List Int} {a1 : List Int} {r : Bool} (hr : qbL9 a0 a1 = some r) : ∃ p hp, Lim C 82 [.d (.rd (a0.map intD)), .d (.rd (a1.map intD))] [] = some (p, hp) ∧ rsT hp p = some (PB r) := by
  simp only [qbL9] at hr
  rcases pcA ((a0.length : Int) = (a1.length : Int)) with h1 | h1
  simp only [h1, if_true] at hr
  obtain ⟨x3, h2, hr⟩ := bsome hr
  obtain ⟨q2, h2L, h2X⟩ := qiR9 (g := ()) h2
  rcases x3 with x4 | x5
  simp only [qdj9, qbm9] at h2X h2L
  obtain ⟨e2, st2⟩ := q2
  obtain ⟨rfl, h2R⟩ := h2X
  try simp only [go_sem, Nat.reduceAdd, la1, la2, la3, la4, la5, la6] at h2L
  obtain rfl := oiA hr
  refine qh9 is82 (nbA rfl) ?_ (.inr rfl) h2R
  rotate_left
  simp only [qdj9, qbm9] at h2X h2L
  subst h2X
  try simp only [go_sem, Nat.reduceAdd, la1, la2, la3, la4, la5, la6] at h2L
  obtain rfl := oiA hr
  refine qh9 is82 (nbA rfl) (q := (.ret, ⟨[(0, .d (.rd (a0.map intD))), (1, .d (.rd (a1.map intD))), (4, PB true), (12, PI (a0.length : Int)), (13, PI x5)], []⟩)) ?_ (.inr rfl) ⟨[PB true], rfl, ?_⟩
  rotate_left 2
  simp only [h1, if_false] at hr
  obtain rfl := oiA hr
  refine qh9 is82 (nbA rfl) (q := (.ret, ⟨[(0, .d (.rd (a0.map intD))), (1, .d (.rd (a1.map intD))), (4, PB false)], []⟩)) ?_ (.inr rfl) ⟨[PB false], rfl, ?_⟩
  rotate_left 2
  all_goals (simp +decide only [go_sem, Int.reduceToNat, Nat.reduceAdd, Nat.reduceLT, Nat.reduceMul, Nat.reducePow, reduceCtorEq, qg9, c82, *])
theorem qjh9 {a0 : List Int} {a1 : List Int} {r : Bool} (hr : qbL9 a0 a1 = some r) {h : AHeap} : callP C (Lim C) 82 [.d (.rd (a0.map intD)), .d (.rd (a1.map intD))] h = some (PB r, h) := qbk9 (ds := [.rd (a0.map intD), .rd (a1.map intD)]) rfl rfl rfl (qjm9 hr) h

theorem qjw9 {a0 r : Int} (hr : qeM9 a0 = some r) {h : AHeap} : callP C (Lim C) 106 [.d (.v (.int .u64 a0))] h = some (.d (.v (.int .i64 r)), h) := by
  have e : C.prim 106 = some qdK9 := rfl
  obtain ⟨h1, h2⟩ := gsome hr
  simp only [callP, e, qdK9]
  rw [if_pos (of_eq_true h1)]
  rw [← oiA h2]

def c107 : ACode := .seq (.reg [] [] [.K 2 (.mv (.const (.bool false)))]) (.seq (.reg [] [] [.M 3 0, .M 4 0, .T 5 (.bin .neq (.tmp 3) (.tmp 4)), .N 2 5]) (.ret))
theorem is107 : IsF C 107 6 5 c107 [.tmp 2] := ⟨⟨Tryd.f107, _, C_P ▸ Tryd.func107, rfl, rfl, rfl, by kernel_rfl, rfl⟩⟩
theorem qne9 {a0 : Int} {r : Bool} (hr : qec9 a0 = some r) : ∃ p hp, Lim C 107 [PI a0] [] = some (p, hp) ∧ rsT hp p = some (PB r) := by
  simp only [qec9] at hr
  obtain rfl := oiA hr
  refine qh9 is107 (nbA rfl) (q := (.ret, ⟨[(0, PI a0), (2, PB (!decide (a0 = a0)))], []⟩)) ?_ (.inr rfl) ⟨[PB (!decide (a0 = a0))], rfl, ?_⟩
  rotate_left 2
  all_goals (simp +decide only [go_sem, Int.reduceToNat, Nat.reduceAdd, Nat.reduceLT, Nat.reduceMul, Nat.reducePow, reduceCtorEq, qg9, c107, *])
theorem qjx9 {a0 : Int} {r : Bool} (hr : qec9 a0 = some r) {h : AHeap} : callP C (Lim C) 107 [PI a0] h = some (PB r, h) := qbk9 (ds := [.v (.int .i64 a0)]) rfl rfl rfl (qne9 hr) h
def c85 : ACode := .seq (.reg [] [] [.K 4 (.mv (cI 0))]) (.seq (.reg [] [] [.M 7 0, .T 8 (.call 107 [.tmp 7]), .N 5 8]) (.seq (.reg [] [] [.M 9 1, .T 10 (.call 107 [.tmp 9]), .N 6 10]) (.seq (.seq (.reg [] [] [.N 11 5]) (.cond (.tmp 11) (some 11) (.seq (.seq (.reg [] [] [.N 12 6]) (.cond (.tmp 12) (some 12) (.seq (.reg [] [] [.K 4 (.mv (cI 0))]) (.ret)) (.skip))) (.seq (.reg [] [] [.K 4 (.mv (cI (-1)))]) (.ret))) (.skip))) (.seq (.seq (.reg [] [] [.N 13 6]) (.cond (.tmp 13) (some 13) (.seq (.reg [] [] [.K 4 (.mv (cI 1))]) (.ret)) (.skip))) (.seq (.seq (.reg [] [] [.M 14 0, .M 15 1, .K 16 (.bin .lss (.tmp 14) (.tmp 15))]) (.cond (.tmp 16) (some 16) (.seq (.reg [] [] [.K 4 (.mv (cI (-1)))]) (.ret)) (.skip))) (.seq (.seq (.reg [] [] [.M 17 0, .M 18 1, .K 19 (.bin .gtr (.tmp 17) (.tmp 18))]) (.cond (.tmp 19) (some 19) (.seq (.reg [] [] [.K 4 (.mv (cI 1))]) (.ret)) (.skip))) (.seq (.reg [] [] [.K 4 (.mv (cI 0))]) (.ret))))))))
theorem is85 : IsF C 85 20 604275 c85 [.tmp 4] := ⟨⟨Tryd.f85, _, C_P ▸ Tryd.func85, rfl, rfl, rfl, by kernel_rfl, rfl⟩⟩
theorem qmk9 {a0 : Int} {a1 : Int} {r : Int} (hr : qeU9 a0 a1 = some r) : ∃ p hp, Lim C 85 [PI a0, PI a1] [] = some (p, hp) ∧ rsT hp p = some (PI r) := by
  simp only [qeU9] at hr
  obtain ⟨x1, h1, hr⟩ := bsome hr
  have h1k := fun h => qjx9 (h := h) h1
  try simp only [go_sem] at h1k
  obtain ⟨x2, h2, hr⟩ := bsome hr
  have h2k := fun h => qjx9 (h := h) h2
  try simp only [go_sem] at h2k
  cases h3 : x1
  simp only [h3, Bool.false_eq_true, if_false] at hr
  cases h5 : x2
  simp only [h5, Bool.false_eq_true, if_false] at hr
  rcases pcA (a0 < a1) with h6 | h6
  simp only [h6, if_true] at hr
  obtain rfl := oiA hr
  refine qh9 is85 (nbA rfl) (q := (.ret, ⟨[(0, PI a0), (1, PI a1), (4, PI (-1)), (5, PB x1), (6, PB x2)], []⟩)) ?_ (.inr rfl) ⟨[PI (-1)], rfl, ?_⟩
  rotate_left 2
  simp only [h6, if_false] at hr
  rcases pcA (a1 < a0) with h7 | h7
  simp only [h7, if_true] at hr
  obtain rfl := oiA hr
  refine qh9 is85 (nbA rfl) (q := (.ret, ⟨[(0, PI a0), (1, PI a1), (4, PI 1), (5, PB x1), (6, PB x2)], []⟩)) ?_ (.inr rfl) ⟨[PI 1], rfl, ?_⟩
  rotate_left 2
  simp only [h7, if_false] at hr
  obtain rfl := oiA hr
  refine qh9 is85 (nbA rfl) (q := (.ret, ⟨[(0, PI a0), (1, PI a1), (4, PI 0), (5, PB x1), (6, PB x2)], []⟩)) ?_ (.inr rfl) ⟨[PI 0], rfl, ?_⟩
  rotate_left 2
  simp only [h5, if_true] at hr
  obtain rfl := oiA hr
  refine qh9 is85 (nbA rfl) (q := (.ret, ⟨[(0, PI a0), (1, PI a1), (4, PI 1), (5, PB x1), (6, PB x2)], []⟩)) ?_ (.inr rfl) ⟨[PI 1], rfl, ?_⟩
  rotate_left 2
  simp only [h3, if_true] at hr
  cases h4 : x2
  simp only [h4, Bool.false_eq_true, if_false] at hr
  obtain rfl := oiA hr
  refine qh9 is85 (nbA rfl) (q := (.ret, ⟨[(0, PI a0), (1, PI a1), (4, PI (-1)), (5, PB x1), (6, PB x2)], []⟩)) ?_ (.inr rfl) ⟨[PI (-1)], rfl, ?_⟩
  rotate_left 2
  simp only [h4, if_true] at hr
  obtain rfl := oiA hr
  refine qh9 is85 (nbA rfl) (q := (.ret, ⟨[(0, PI a0), (1, PI a1), (4, PI 0), (5, PB x1), (6, PB x2)], []⟩)) ?_ (.inr rfl) ⟨[PI 0], rfl, ?_⟩
  rotate_left 2
  all_goals (simp +decide only [go_sem, Int.reduceToNat, Nat.reduceAdd, Nat.reduceLT, Nat.reduceMul, Nat.reducePow, reduceCtorEq, qg9, c85, *])
theorem qmm9 {a0 : Int} {a1 : Int} {r : Int} (hr : qeU9 a0 a1 = some r) {h : AHeap} : callP C (Lim C) 85 [PI a0, PI a1] h = some (PI r, h) := qbk9 (ds := [.v (.int .i64 a0), .v (.int .i64 a1)]) rfl rfl rfl (qmk9 hr) h
def c84 : ACode := .seq (.reg [] [] [.K 2 (.box (.tmp 0)), .K 3 (.box (.tmp 1)), .K 4 (.mv (cI 0))]) (.seq (.reg [] [] [.T 5 (.fa 0 (.tmp 2)), .T 6 (.load none (.tmp 5)), .T 7 (.fa 0 (.tmp 3)), .T 8 (.load none (.tmp 7)), .T 9 (.call 85 [.tmp 6, .tmp 8]), .N 4 9]) (.ret))
theorem is84 : IsF C 84 10 31 c84 [.tmp 4] := ⟨⟨Tryd.f84, _, C_P ▸ Tryd.func84, rfl, rfl, rfl, by kernel_rfl, rfl⟩⟩
theorem qmR9 {a0 : Bind} {a1 : Bind} {r : Int} (hr : qn9 a0 a1 = some r) : ∃ p hp, Lim C 84 [.d (.ag (qb9 a0)), .d (.ag (qb9 a1))] [] = some (p, hp) ∧ rsT hp p = some (PI r) := by
  simp only [qn9] at hr
  obtain ⟨x1, h1, hr⟩ := bsome hr
  have h1k := fun h => qmm9 (h := h) h1
  try simp only [go_sem] at h1k
  obtain rfl := oiA hr
  refine qh9 is84 (nbA rfl) (q := (.ret, ⟨[(0, .d (.ag (qb9 a0))), (1, .d (.ag (qb9 a1))), (2, .ptr 0 0 0 0), (3, .ptr 1 0 0 0), (4, PI x1)], (.row false 0 2 [[PI a0.Var, .d (.rd (a0.T.map intD))]] :: (.row false 0 2 [[PI a1.Var, .d (.rd (a1.T.map intD))]] :: []))⟩)) ?_ (.inr rfl) ⟨[PI x1], rfl, ?_⟩
  rotate_left 2
  all_goals (simp +decide only [go_sem, Int.reduceToNat, Nat.reduceAdd, Nat.reduceLT, Nat.reduceMul, Nat.reducePow, reduceCtorEq, qg9, c84, *])
theorem qv9 {a0 : Bind} {a1 : Bind} {r : Int} (hr : qn9 a0 a1 = some r) {h : AHeap} {args : List PV} (ha : mapO (rs h depth) args = some [.ag (qb9 a0), .ag (qb9 a1)]) : callP C (Lim C) 84 args h = some (PI r, if scalar (PI r) = true then h else freezeAll (args.flatMap (reach h depth)) h) := qdD9 rfl rfl rfl (qmR9 hr) ha
def qln9 : ACode := .seq (.seq (.reg [] [] [.M 18 9, .M 19 1, .T 20 (.bin .gtr (.tmp 18) (.tmp 19)), .M 21 20, .MG 22 21 true 3, .MG 23 21 true 0, .MG 24 21 true 9, ⟨some (25, false), .ix 2 (.tmp 23) (.tmp 24), some (21, true), true, false⟩, ⟨some (26, false), .load (some 2) (.tmp 25), some (21, true), true, false⟩, .MG 27 21 true 0, .MG 28 21 true 9, .TG 29 21 true (.bin .sub (.tmp 28) (cI 1)), ⟨some (30, false), .ix 2 (.tmp 27) (.tmp 29), some (21, true), true, false⟩, ⟨some (31, false), .load (some 2) (.tmp 30), some (21, true), true, false⟩, ⟨some (32, false), .callV (.tmp 22) [.tmp 26, .tmp 31], some (21, true), true, false⟩, .TG 33 21 true (.bin .lss (.tmp 32) (cI 0)), .K 34 (.pick (.tmp 21) (.tmp 33) (.const (.bool false)))]) (.cond (.tmp 34) (some 34) (.skip) (.exit 2))) (.seq (.block 3 17179869184 (.reg [] [] [.M 37 0, .M 38 9, .M 39 0, .M 40 9, .T 41 (.bin .sub (.tmp 40) (cI 1)), .M 42 0, .M 43 9, .T 44 (.bin .sub (.tmp 43) (cI 1)), ⟨some (45, false), .ix 2 (.tmp 42) (.tmp 44), none, true, false⟩, ⟨some (46, false), .load (some 2) (.tmp 45), none, true, false⟩, .M 47 0, .M 48 9, ⟨some (49, false), .ix 2 (.tmp 47) (.tmp 48), none, true, false⟩, ⟨some (50, false), .load (some 2) (.tmp 49), none, true, false⟩, ⟨some (51, false), .ix 2 (.tmp 37) (.tmp 38), none, true, false⟩, ⟨none, .store 2 (.tmp 51) (.tmp 46), none, false, false⟩, ⟨some (52, false), .ix 2 (.tmp 39) (.tmp 41), none, true, false⟩, ⟨none, .store 2 (.tmp 52) (.tmp 50), none, false, false⟩])) (.reg [] [] [.M 35 9, .T 36 (.bin .sub (.tmp 35) (cI 1)), .N 9 36]))
def qlt9 : ACode := .seq (.seq (.reg [] [] [.M 12 8, .M 13 2, .K 14 (.bin .lss (.tmp 12) (.tmp 13))]) (.cond (.tmp 14) (some 14) (.skip) (.exit 0))) (.seq (.block 1 17179886080 (.seq (.reg [] [] [.M 17 8, .N 9 17]) (.block 2 17179886080 (.loop qln9)))) (.reg [] [] [.M 15 8, .T 16 (.bin .add (.tmp 15) (cI 1)), .N 8 16]))
def c122 : ACode := .seq (.reg [] [] [.M 10 1, .T 11 (.bin .add (.tmp 10) (cI 1)), .N 8 11]) (.block 0 17179886080 (.loop qlt9))
theorem is122 : IsF C 122 53 17179886351 c122 [] := ⟨⟨Tryd.f122, _, C_P ▸ Tryd.func122, rfl, rfl, rfl, by kernel_rfl, rfl⟩⟩
def qbF9 (s1 : Int) (s2 : Int) (s8 : Int) (g1 : AHeap) (v0 : Nat) (n0 : Nat) (g2 : AHeap) : Int × (List Bind) → AHeap → St := fun (s9, o0) gt => ⟨[(0, .ref g1.length v0 0 n0), (1, PI s1), (2, PI s2), (3, .fn 84 []), (8, PI s8), (9, PI s9)], (g1 ++ (.row false v0 2 (rowP qb9 o0) :: (g2 ++ gt)))⟩
def qcT9 (s1 : Int) (s2 : Int) (s8 : Int) (g1 : AHeap) (v0 : Nat) (n0 : Nat) (g2 : AHeap) : Int × (List Bind) → Prop := fun (s9, o0) => o0.length = n0
def qee9 (s1 : Int) (s2 : Int) (s8 : Int) (g1 : AHeap) (v0 : Nat) (n0 : Nat) (g2 : AHeap) : ((List Bind)) → AExit × St → Prop := fun o0 q => ∃ d9 : PV, ∃ h1 : AHeap, q = (.exit 2, ⟨[(0, .ref g1.length v0 0 n0), (1, PI s1), (2, PI s2), (3, .fn 84 []), (8, PI s8), (9, d9)], (g1 ++ (.row false v0 2 (rowP qb9 o0) :: (g2 ++ h1)))⟩) ∧ o0.length = n0
theorem qix9 (s1 : Int) (s2 : Int) (s8 : Int) (g1 : AHeap) (v0 : Nat) (n0 : Nat) (g2 : AHeap) : ∀ (s : Int × (List Bind)) (g : AHeap) r, qcT9 s1 s2 s8 g1 v0 n0 g2 s → qba9 s1 s2 s8 s = some r → Sum.elim (fun s' => (∃ g', semA C (Lim C) 17179886351 qln9 (qbF9 s1 s2 s8 g1 v0 n0 g2 s g) = some (.normal, qbF9 s1 s2 s8 g1 v0 n0 g2 s' g')) ∧ qcT9 s1 s2 s8 g1 v0 n0 g2 s') (fun x => ∃ q, semA C (Lim C) 17179886351 qln9 (qbF9 s1 s2 s8 g1 v0 n0 g2 s g) = some q ∧ q.1 ≠ .normal ∧ qee9 s1 s2 s8 g1 v0 n0 g2 x q) r := by
  intro s g r hI hr
  obtain ⟨s9, o0⟩ := s
  have ⟨gt, hg0⟩ : ∃ y, y = g := ⟨_, rfl⟩
  subst hg0
  simp only [qcT9] at hI
  have hI0 := hI
  simp only [qba9] at hr
  rcases pcA (s1 < s9) with h1 | h1
  simp only [h1, if_true] at hr
  obtain ⟨x1, h2, hr⟩ := bsome hr
  have h2a := eq_true (qc9 h2).1
  have h2b : (s9 < (n0 : Int)) = True := eq_true (by have hb : s9 < (o0.length : Int) := (qc9 h2).2.1; omega)
  have h2c := (qc9 h2).2.2
  obtain ⟨x2, h3, hr⟩ := bsome hr
  have h3a := eq_true (qc9 h3).1
  have h3b : ((w64 (s9 - 1)) < (n0 : Int)) = True := eq_true (by have hb : (w64 (s9 - 1)) < (o0.length : Int) := (qc9 h3).2.1; omega)
  have h3c := (qc9 h3).2.2
  obtain ⟨x3, h4, hr⟩ := bsome hr
  have h4k := fun h => qv9 (h := h) (args := [.ag [PI x1.Var, .d (.rd (x1.T.map intD))], .ag [PI x2.Var, .d (.rd (x2.T.map intD))]]) h4 rfl
  try simp only [go_sem] at h4k
  rcases pcA (x3 < 0) with h5 | h5
  simp only [h5, if_true] at hr
  obtain ⟨x4, h6, hr⟩ := bsome hr
  have h6a := eq_true (qc9 h6).1
  have h6b : ((w64 (s9 - 1)) < (n0 : Int)) = True := eq_true (by have hb : (w64 (s9 - 1)) < ((o0.set (s9).toNat x2).length : Int) := (qc9 h6).2.1; simp only [llA, lrA] at hb; omega)
  have h6c := (qc9 h6).2.2
  obtain rfl := oiA hr
  refine ⟨⟨gt, ?_⟩, (show ((o0.set (s9).toNat x2).set (w64 (s9 - 1)).toNat x1).length = n0 by first | assumption | (simp only [llA, lrA]; first | done | assumption | omega) | omega)⟩
  rotate_left
  simp only [h5, if_false] at hr
  obtain rfl := oiA hr
  refine ⟨(.exit 2, ⟨[(0, .ref g1.length v0 0 n0), (1, PI s1), (2, PI s2), (3, .fn 84 []), (8, PI s8), (9, (PI s9))], (g1 ++ (.row false v0 2 (rowP qb9 o0) :: (g2 ++ gt)))⟩), ?_, nofun, PI s9, gt, rfl, (show o0.length = n0 by first | assumption | (simp only [llA, lrA]; first | done | assumption | omega) | omega)⟩
  rotate_left
  simp only [h1, if_false] at hr
  obtain rfl := oiA hr
  refine ⟨(.exit 2, ⟨[(0, .ref g1.length v0 0 n0), (1, PI s1), (2, PI s2), (3, .fn 84 []), (8, PI s8), (9, (PI s9))], (g1 ++ (.row false v0 2 (rowP qb9 o0) :: (g2 ++ gt)))⟩), ?_, nofun, PI s9, gt, rfl, (show o0.length = n0 by first | assumption | (simp only [llA, lrA]; first | done | assumption | omega) | omega)⟩
  rotate_left
  all_goals (simp +decide only [go_sem, Int.reduceToNat, Nat.reduceAdd, Nat.reduceLT, Nat.reduceMul, Nat.reducePow, reduceCtorEq, qbF9, qln9, *])
theorem qit9 {s1 : Int} {s2 : Int} {s8 : Int} {g1 : AHeap} {v0 : Nat} {n0 : Nat} {g2 : AHeap} {s : Int × (List Bind)} {g : AHeap} {x} (h : wh (qba9 s1 s2 s8) s = some x) (hI : qcT9 s1 s2 s8 g1 v0 n0 g2 s) : ∃ q, qp9 (semA C (Lim C) 17179886351 qln9) (qbF9 s1 s2 s8 g1 v0 n0 g2 s g) = some q ∧ qee9 s1 s2 s8 g1 v0 n0 g2 x q := qcp9 (qix9 s1 s2 s8 g1 v0 n0 g2) hI h
def qbD9 (s1 : Int) (s2 : Int) (g1 : AHeap) (v0 : Nat) (n0 : Nat) (g2 : AHeap) : Int × (List Bind) → AHeap → St := fun (s8, o0) gt => ⟨[(0, .ref g1.length v0 0 n0), (1, PI s1), (2, PI s2), (3, .fn 84 []), (8, PI s8)], (g1 ++ (.row false v0 2 (rowP qb9 o0) :: (g2 ++ gt)))⟩
def qcU9 (s1 : Int) (s2 : Int) (g1 : AHeap) (v0 : Nat) (n0 : Nat) (g2 : AHeap) : Int × (List Bind) → Prop := fun (s8, o0) => o0.length = n0
def qeh9 (s1 : Int) (s2 : Int) (g1 : AHeap) (v0 : Nat) (n0 : Nat) (g2 : AHeap) : (Int × (List Bind)) → AExit × St → Prop := fun (s8, o0) q => ∃ h1 : AHeap, q = (.exit 0, ⟨[(0, .ref g1.length v0 0 n0), (1, PI s1), (2, PI s2), (3, .fn 84 []), (8, PI s8)], (g1 ++ (.row false v0 2 (rowP qb9 o0) :: (g2 ++ h1)))⟩) ∧ o0.length = n0
theorem qiy9 (s1 : Int) (s2 : Int) (g1 : AHeap) (v0 : Nat) (n0 : Nat) (g2 : AHeap) : ∀ (s : Int × (List Bind)) (g : AHeap) r, qcU9 s1 s2 g1 v0 n0 g2 s → qU9 s1 s2 s = some r → Sum.elim (fun s' => (∃ g', semA C (Lim C) 17179886351 qlt9 (qbD9 s1 s2 g1 v0 n0 g2 s g) = some (.normal, qbD9 s1 s2 g1 v0 n0 g2 s' g')) ∧ qcU9 s1 s2 g1 v0 n0 g2 s') (fun x => ∃ q, semA C (Lim C) 17179886351 qlt9 (qbD9 s1 s2 g1 v0 n0 g2 s g) = some q ∧ q.1 ≠ .normal ∧ qeh9 s1 s2 g1 v0 n0 g2 x q) r := by
  intro s g r hI hr
  obtain ⟨s8, o0⟩ := s
  have ⟨gt, hg0⟩ : ∃ y, y = g := ⟨_, rfl⟩
  subst hg0
  simp only [qcU9] at hI
  have hI0 := hI
  simp only [qU9] at hr
  rcases pcA (s8 < s2) with h1 | h1
  simp only [h1, if_true] at hr
  obtain ⟨x5, h2, hr⟩ := bsome hr
  obtain ⟨q2, h2L, h2X⟩ := qit9 (g1 := g1) (v0 := v0) (n0 := n0) (g2 := (g2 ++ gt)) (g := []) h2 (show o0.length = n0 by first | assumption | (simp only [llA, lrA]; first | done | assumption | omega) | omega)
  have ⟨x6, hq2⟩ : ∃ y, y = x5 := ⟨_, rfl⟩
  subst hq2
  simp only [qee9, qbF9] at h2X h2L
  obtain ⟨z7, z8, rfl, h2l0⟩ := h2X
  try simp only [go_sem, Nat.reduceAdd, la1, la2, la3, la4, la5, la6] at h2L
  try simp only [hI0] at h2L
  obtain rfl := oiA hr
  refine ⟨⟨(gt ++ z8), ?_⟩, (show x6.length = n0 by first | assumption | (simp only [llA, lrA]; first | done | assumption | omega) | omega)⟩
  rotate_left
  simp only [h1, if_false] at hr
  obtain rfl := oiA hr
  refine ⟨(.exit 0, ⟨[(0, .ref g1.length v0 0 n0), (1, PI s1), (2, PI s2), (3, .fn 84 []), (8, PI s8)], (g1 ++ (.row false v0 2 (rowP qb9 o0) :: (g2 ++ gt)))⟩), ?_, nofun, gt, rfl, (show o0.length = n0 by first | assumption | (simp only [llA, lrA]; first | done | assumption | omega) | omega)⟩
  rotate_left
  all_goals (simp +decide only [go_sem, Int.reduceToNat, Nat.reduceAdd, Nat.reduceLT, Nat.reduceMul, Nat.reducePow, reduceCtorEq, qbD9, qlt9, *])
theorem qiw9 {s1 : Int} {s2 : Int} {g1 : AHeap} {v0 : Nat} {n0 : Nat} {g2 : AHeap} {s : Int × (List Bind)} {g : AHeap} {x} (h : wh (qU9 s1 s2) s = some x) (hI : qcU9 s1 s2 g1 v0 n0 g2 s) : ∃ q, qp9 (semA C (Lim C) 17179886351 qlt9) (qbD9 s1 s2 g1 v0 n0 g2 s g) = some q ∧ qeh9 s1 s2 g1 v0 n0 g2 x q := qcp9 (qiy9 s1 s2 g1 v0 n0 g2) hI h
theorem qiS9 {s1 : Int} {s2 : Int} {o0 : List Bind} {g1 : AHeap} {v0 : Nat} {n0 : Nat} {g2 : AHeap} (hln0 : o0.length = n0) {r : (List Bind)} (hr : qce9 s1 s2 o0 = some r) : ∃ hz : AHeap, Lim C 122 [.ref g1.length v0 0 n0, PI s1, PI s2, .fn 84 []] (g1 ++ (.row false v0 2 (rowP qb9 o0) :: g2)) = some (resOf [], (g1 ++ (.row false v0 2 (rowP qb9 r) :: (g2 ++ hz)))) ∧ r.length = n0 := by
  simp only [qce9] at hr
  obtain ⟨x9, h1, hr⟩ := bsome hr
  obtain ⟨q1, h1L, h1X⟩ := qiw9 (g1 := g1) (v0 := v0) (n0 := n0) (g2 := g2) (g := []) h1 (show o0.length = n0 by first | assumption | (simp only [llA, lrA]; first | done | assumption | omega) | omega)
  obtain ⟨x10, x11⟩ := x9
  simp only [qeh9, qbD9] at h1X h1L
  obtain ⟨z12, rfl, h1l0⟩ := h1X
  try simp only [go_sem, Nat.reduceAdd, la1, la2, la3, la4, la5, la6] at h1L
  try simp only [hln0] at h1L
  obtain rfl := oiA hr
  refine ⟨z12, Lim_A is122 (nbA rfl) (e := .normal) (env := [(0, .ref g1.length v0 0 n0), (1, PI s1), (2, PI s2), (3, .fn 84 []), (8, PI x10)]) (h' := (g1 ++ (.row false v0 2 (rowP qb9 x11) :: (g2 ++ z12)))) (vs := []) ?_ (.inl rfl) rfl, (show x11.length = n0 by first | assumption | (simp only [llA, lrA]; first | done | assumption | omega) | omega)⟩
  rotate_left
  all_goals (simp +decide only [go_sem, Int.reduceToNat, Nat.reduceAdd, Nat.reduceLT, Nat.reduceMul, Nat.reducePow, reduceCtorEq, qg9, c122, *])
theorem qiK9 {s1 : Int} {s2 : Int} {o0 : List Bind} {g1 : AHeap} {v0 : Nat} {n0 : Nat} {g2 : AHeap} (hln0 : o0.length = n0) {r : (List Bind)} (hr : qce9 s1 s2 o0 = some r) : ∃ hz : AHeap, callP C (Lim C) 122 [.ref g1.length v0 0 n0, PI s1, PI s2, .fn 84 []] (g1 ++ (.row false v0 2 (rowP qb9 o0) :: g2)) = some (resOf [], (g1 ++ (.row false v0 2 (rowP qb9 r) :: (g2 ++ hz)))) ∧ r.length = n0 := by
  obtain ⟨hz, h1, f0⟩ := qiS9 hln0 hr (g1 := g1) (v0 := v0) (n0 := n0) (g2 := g2)
  exact ⟨hz, qZ9 rfl rfl rfl h1, f0⟩
def qlP9 : ACode := .block 1 288231475663603712 (.seq (.reg [] [] [.M 13 10, .T 14 (.bin .mul (cI 2) (.tmp 13)), .T 15 (.bin .add (.tmp 14) (cI 1)), .N 11 15]) (.seq (.seq (.reg [] [] [.M 16 11, .M 17 2, .K 18 (.bin .geq (.tmp 16) (.tmp 17))]) (.cond (.tmp 18) (some 18) (.exit 0) (.skip))) (.seq (.seq (.reg [] [] [.M 19 11, .T 20 (.bin .add (.tmp 19) (cI 1)), .M 21 2, .T 22 (.bin .lss (.tmp 20) (.tmp 21)), .M 23 22, .MG 24 23 true 4, .MG 25 23 true 0, .MG 26 23 true 3, .MG 27 23 true 11, .TG 28 23 true (.bin .add (.tmp 26) (.tmp 27)), ⟨some (29, false), .ix 2 (.tmp 25) (.tmp 28), some (23, true), true, false⟩, ⟨some (30, false), .load (some 2) (.tmp 29), some (23, true), true, false⟩, .MG 31 23 true 0, .MG 32 23 true 3, .MG 33 23 true 11, .TG 34 23 true (.bin .add (.tmp 32) (.tmp 33)), .TG 35 23 true (.bin .add (.tmp 34) (cI 1)), ⟨some (36, false), .ix 2 (.tmp 31) (.tmp 35), some (23, true), true, false⟩, ⟨some (37, false), .load (some 2) (.tmp 36), some (23, true), true, false⟩, ⟨some (38, false), .callV (.tmp 24) [.tmp 30, .tmp 37], some (23, true), true, false⟩, .TG 39 23 true (.bin .lss (.tmp 38) (cI 0)), .K 40 (.pick (.tmp 23) (.tmp 39) (.const (.bool false)))]) (.cond (.tmp 40) (some 40) (.reg [] [] [.M 41 11, .T 42 (.bin .add (.tmp 41) (cI 1)), .N 11 42]) (.skip))) (.seq (.seq (.reg [] [] [.M 43 4, .M 44 0, .M 45 3, .M 46 10, .T 47 (.bin .add (.tmp 45) (.tmp 46)), ⟨some (48, false), .ix 2 (.tmp 44) (.tmp 47), none, true, false⟩, ⟨some (49, false), .load (some 2) (.tmp 48), none, true, false⟩, .M 50 0, .M 51 3, .M 52 11, .T 53 (.bin .add (.tmp 51) (.tmp 52)), ⟨some (54, false), .ix 2 (.tmp 50) (.tmp 53), none, true, false⟩, ⟨some (55, false), .load (some 2) (.tmp 54), none, true, false⟩, ⟨some (56, false), .callV (.tmp 43) [.tmp 49, .tmp 55], none, true, false⟩, .T 57 (.bin .lss (.tmp 56) (cI 0)), .K 58 (.not (.tmp 57))]) (.cond (.tmp 58) (some 58) (.ret) (.skip))) (.seq (.reg [] [] [.M 59 0, .M 60 3, .M 61 10, .T 62 (.bin .add (.tmp 60) (.tmp 61)), .M 63 0, .M 64 3, .M 65 11, .T 66 (.bin .add (.tmp 64) (.tmp 65)), .M 67 0, .M 68 3, .M 69 11, .T 70 (.bin .add (.tmp 68) (.tmp 69)), ⟨some (71, false), .ix 2 (.tmp 67) (.tmp 70), none, true, false⟩, ⟨some (72, false), .load (some 2) (.tmp 71), none, true, false⟩, .M 73 0, .M 74 3, .M 75 10, .T 76 (.bin .add (.tmp 74) (.tmp 75)), ⟨some (77, false), .ix 2 (.tmp 73) (.tmp 76), none, true, false⟩, ⟨some (78, false), .load (some 2) (.tmp 77), none, true, false⟩, ⟨some (79, false), .ix 2 (.tmp 59) (.tmp 62), none, true, false⟩, ⟨none, .store 2 (.tmp 79) (.tmp 72), none, false, false⟩, ⟨some (80, false), .ix 2 (.tmp 63) (.tmp 66), none, true, false⟩, ⟨none, .store 2 (.tmp 80) (.tmp 78), none, false, false⟩]) (.reg [] [] [.M 81 11, .N 10 81]))))))
def c136 : ACode := .seq (.reg [] [] [.M 12 1, .N 10 12]) (.block 0 288231475663603712 (.loop qlP9))
theorem is136 : IsF C 136 82 288231475663604767 c136 [] := ⟨⟨Tryd.f136, _, C_P ▸ Tryd.func136, rfl, rfl, rfl, by kernel_rfl, rfl⟩⟩
def qbU9 (s1 : Int) (s2 : Int) (s3 : Int) (g1 : AHeap) (v0 : Nat) (n0 : Nat) (g2 : AHeap) : Int × (List Bind) → AHeap → St := fun (s10, o0) gt => ⟨[(0, .ref g1.length v0 0 n0), (1, PI s1), (2, PI s2), (3, PI s3), (4, .fn 84 []), (10, PI s10)], (g1 ++ (.row false v0 2 (rowP qb9 o0) :: (g2 ++ gt)))⟩
def qdX9 (s1 : Int) (s2 : Int) (s3 : Int) (g1 : AHeap) (v0 : Nat) (n0 : Nat) (g2 : AHeap) : Int × (List Bind) → Prop := fun (s10, o0) => o0.length = n0
def qea9 (s1 : Int) (s2 : Int) (s3 : Int) (g1 : AHeap) (v0 : Nat) (n0 : Nat) (g2 : AHeap) : ((Int × (List Bind)) ⊕ ((List Bind))) → AExit × St → Prop
  | .inl (s10, o0), q => ∃ d11 : PV, ∃ h1 : AHeap, q = (.exit 0, ⟨[(0, .ref g1.length v0 0 n0), (1, PI s1), (2, PI s2), (3, PI s3), (4, .fn 84 []), (10, PI s10), (11, d11)], (g1 ++ (.row false v0 2 (rowP qb9 o0) :: (g2 ++ h1)))⟩) ∧ o0.length = n0
  | .inr r, q => q.1 = .ret ∧ ∃ hz : AHeap, mapO (resP C.P q.2) [] = some [] ∧ q.2.h = (g1 ++ (.row false v0 2 (rowP qb9 r) :: (g2 ++ hz))) ∧ r.length = n0
theorem qkh9 (s1 : Int) (s2 : Int) (s3 : Int) (g1 : AHeap) (v0 : Nat) (n0 : Nat) (g2 : AHeap) : ∀ (s : Int × (List Bind)) (g : AHeap) r, qdX9 s1 s2 s3 g1 v0 n0 g2 s → qK9 s1 s2 s3 s = some r → Sum.elim (fun s' => (∃ g', semA C (Lim C) 288231475663604767 qlP9 (qbU9 s1 s2 s3 g1 v0 n0 g2 s g) = some (.normal, qbU9 s1 s2 s3 g1 v0 n0 g2 s' g')) ∧ qdX9 s1 s2 s3 g1 v0 n0 g2 s') (fun x => ∃ q, semA C (Lim C) 288231475663604767 qlP9 (qbU9 s1 s2 s3 g1 v0 n0 g2 s g) = some q ∧ q.1 ≠ .normal ∧ qea9 s1 s2 s3 g1 v0 n0 g2 x q) r := by
  intro s g r hI hr
  obtain ⟨s10, o0⟩ := s
  have ⟨gt, hg0⟩ : ∃ y, y = g := ⟨_, rfl⟩
  subst hg0
  simp only [qdX9] at hI
  have hI0 := hI
  simp only [qK9] at hr
  rcases pcA (s2 ≤ (w64 ((w64 (2 * s10)) + 1))) with h1 | h1
  simp only [h1, if_true] at hr
  obtain rfl := oiA hr
  refine ⟨(.exit 0, ⟨[(0, .ref g1.length v0 0 n0), (1, PI s1), (2, PI s2), (3, PI s3), (4, .fn 84 []), (10, PI s10), (11, (PI (w64 ((w64 (2 * s10)) + 1))))], (g1 ++ (.row false v0 2 (rowP qb9 o0) :: (g2 ++ gt)))⟩), ?_, nofun, PI (w64 ((w64 (2 * s10)) + 1)), gt, rfl, (show o0.length = n0 by first | assumption | (simp only [llA, lrA]; first | done | assumption | omega) | omega)⟩
  rotate_left
  simp only [h1, if_false] at hr
  rcases pcA ((w64 ((w64 ((w64 (2 * s10)) + 1)) + 1)) < s2) with h2 | h2
  simp only [h2, if_true] at hr
  obtain ⟨x1, h3, hr⟩ := bsome hr
  have h3a := eq_true (qc9 h3).1
  have h3b : ((w64 (s3 + (w64 ((w64 (2 * s10)) + 1)))) < (n0 : Int)) = True := eq_true (by have hb : (w64 (s3 + (w64 ((w64 (2 * s10)) + 1)))) < (o0.length : Int) := (qc9 h3).2.1; omega)
  have h3c := (qc9 h3).2.2
  obtain ⟨x2, h4, hr⟩ := bsome hr
  have h4a := eq_true (qc9 h4).1
  have h4b : ((w64 ((w64 (s3 + (w64 ((w64 (2 * s10)) + 1)))) + 1)) < (n0 : Int)) = True := eq_true (by have hb : (w64 ((w64 (s3 + (w64 ((w64 (2 * s10)) + 1)))) + 1)) < (o0.length : Int) := (qc9 h4).2.1; omega)
  have h4c := (qc9 h4).2.2
  obtain ⟨x3, h5, hr⟩ := bsome hr
  have h5k := fun h => qv9 (h := h) (args := [.ag [PI x1.Var, .d (.rd (x1.T.map intD))], .ag [PI x2.Var, .d (.rd (x2.T.map intD))]]) h5 rfl
  try simp only [go_sem] at h5k
  rcases pcA (x3 < 0) with h6 | h6
  simp only [h6, if_true] at hr
  obtain ⟨x4, h7, hr⟩ := bsome hr
  have h7a := eq_true (qc9 h7).1
  have h7b : ((w64 (s3 + s10)) < (n0 : Int)) = True := eq_true (by have hb : (w64 (s3 + s10)) < (o0.length : Int) := (qc9 h7).2.1; omega)
  have h7c := (qc9 h7).2.2
  obtain ⟨x5, h8, hr⟩ := bsome hr
  have h8a := eq_true (qc9 h8).1
  have h8b : ((w64 (s3 + (w64 ((w64 ((w64 (2 * s10)) + 1)) + 1)))) < (n0 : Int)) = True := eq_true (by have hb : (w64 (s3 + (w64 ((w64 ((w64 (2 * s10)) + 1)) + 1)))) < (o0.length : Int) := (qc9 h8).2.1; omega)
  have h8c := (qc9 h8).2.2
  obtain ⟨x6, h9, hr⟩ := bsome hr
  have h9k := fun h => qv9 (h := h) (args := [.ag [PI x4.Var, .d (.rd (x4.T.map intD))], .ag [PI x5.Var, .d (.rd (x5.T.map intD))]]) h9 rfl
  try simp only [go_sem] at h9k
  rcases pcA (x6 < 0) with h10 | h10
  simp only [h10, if_true] at hr
  obtain ⟨x7, h11, hr⟩ := bsome hr
  have h11a := eq_true (qc9 h11).1
  have h11b : ((w64 (s3 + (w64 ((w64 ((w64 (2 * s10)) + 1)) + 1)))) < (n0 : Int)) = True := eq_true (by have hb : (w64 (s3 + (w64 ((w64 ((w64 (2 * s10)) + 1)) + 1)))) < ((o0.set (w64 (s3 + s10)).toNat x5).length : Int) := (qc9 h11).2.1; simp only [llA, lrA] at hb; omega)
  have h11c := (qc9 h11).2.2
  obtain rfl := oiA hr
  refine ⟨⟨gt, ?_⟩, (show ((o0.set (w64 (s3 + s10)).toNat x5).set (w64 (s3 + (w64 ((w64 ((w64 (2 * s10)) + 1)) + 1)))).toNat x4).length = n0 by first | assumption | (simp only [llA, lrA]; first | done | assumption | omega) | omega)⟩
  rotate_left
  simp only [h10, if_false] at hr
  obtain rfl := oiA hr
  refine ⟨(.ret, ⟨[(0, .ref g1.length v0 0 n0), (1, PI s1), (2, PI s2), (3, PI s3), (4, .fn 84 []), (10, PI s10), (11, PI (w64 ((w64 ((w64 (2 * s10)) + 1)) + 1)))], (g1 ++ (.row false v0 2 (rowP qb9 o0) :: (g2 ++ gt)))⟩), ?_, nofun, rfl, gt, rfl, rfl, (show o0.length = n0 by first | assumption | (simp only [llA, lrA]; first | done | assumption | omega) | omega)⟩
  rotate_left
  simp only [h6, if_false] at hr
  obtain ⟨x8, h12, hr⟩ := bsome hr
  have h12a := eq_true (qc9 h12).1
  have h12b : ((w64 (s3 + s10)) < (n0 : Int)) = True := eq_true (by have hb : (w64 (s3 + s10)) < (o0.length : Int) := (qc9 h12).2.1; omega)
  have h12c := (qc9 h12).2.2
  obtain ⟨x9, h13, hr⟩ := bsome hr
  have h13k := fun h => qv9 (h := h) (args := [.ag [PI x8.Var, .d (.rd (x8.T.map intD))], .ag [PI x1.Var, .d (.rd (x1.T.map intD))]]) h13 rfl
  try simp only [go_sem] at h13k
  rcases pcA (x9 < 0) with h14 | h14
  simp only [h14, if_true] at hr
  obtain ⟨x10, h15, hr⟩ := bsome hr
  have h15a := eq_true (qc9 h15).1
  have h15b : ((w64 (s3 + (w64 ((w64 (2 * s10)) + 1)))) < (n0 : Int)) = True := eq_true (by have hb : (w64 (s3 + (w64 ((w64 (2 * s10)) + 1)))) < ((o0.set (w64 (s3 + s10)).toNat x1).length : Int) := (qc9 h15).2.1; simp only [llA, lrA] at hb; omega)
  have h15c := (qc9 h15).2.2
  obtain rfl := oiA hr
  refine ⟨⟨gt, ?_⟩, (show ((o0.set (w64 (s3 + s10)).toNat x1).set (w64 (s3 + (w64 ((w64 (2 * s10)) + 1)))).toNat x8).length = n0 by first | assumption | (simp only [llA, lrA]; first | done | assumption | omega) | omega)⟩
  rotate_left
  simp only [h14, if_false] at hr
  obtain rfl := oiA hr
  refine ⟨(.ret, ⟨[(0, .ref g1.length v0 0 n0), (1, PI s1), (2, PI s2), (3, PI s3), (4, .fn 84 []), (10, PI s10), (11, PI (w64 ((w64 (2 * s10)) + 1)))], (g1 ++ (.row false v0 2 (rowP qb9 o0) :: (g2 ++ gt)))⟩), ?_, nofun, rfl, gt, rfl, rfl, (show o0.length = n0 by first | assumption | (simp only [llA, lrA]; first | done | assumption | omega) | omega)⟩
  rotate_left
  simp only [h2, if_false] at hr
  obtain ⟨x11, h16, hr⟩ := bsome hr
  have h16a := eq_true (qc9 h16).1
  have h16b : ((w64 (s3 + s10)) < (n0 : Int)) = True := eq_true (by have hb : (w64 (s3 + s10)) < (o0.length : Int) := (qc9 h16).2.1; omega)
  have h16c := (qc9 h16).2.2
  obtain ⟨x12, h17, hr⟩ := bsome hr
  have h17a := eq_true (qc9 h17).1
  have h17b : ((w64 (s3 + (w64 ((w64 (2 * s10)) + 1)))) < (n0 : Int)) = True := eq_true (by have hb : (w64 (s3 + (w64 ((w64 (2 * s10)) + 1)))) < (o0.length : Int) := (qc9 h17).2.1; omega)
  have h17c := (qc9 h17).2.2
  obtain ⟨x13, h18, hr⟩ := bsome hr
  have h18k := fun h => qv9 (h := h) (args := [.ag [PI x11.Var, .d (.rd (x11.T.map intD))], .ag [PI x12.Var, .d (.rd (x12.T.map intD))]]) h18 rfl
  try simp only [go_sem] at h18k
  rcases pcA (x13 < 0) with h19 | h19
  simp only [h19, if_true] at hr
  obtain ⟨x14, h20, hr⟩ := bsome hr
  have h20a := eq_true (qc9 h20).1
  have h20b : ((w64 (s3 + (w64 ((w64 (2 * s10)) + 1)))) < (n0 : Int)) = True := eq_true (by have hb : (w64 (s3 + (w64 ((w64 (2 * s10)) + 1)))) < ((o0.set (w64 (s3 + s10)).toNat x12).length : Int) := (qc9 h20).2.1; simp only [llA, lrA] at hb; omega)
  have h20c := (qc9 h20).2.2
  obtain rfl := oiA hr
  refine ⟨⟨gt, ?_⟩, (show ((o0.set (w64 (s3 + s10)).toNat x12).set (w64 (s3 + (w64 ((w64 (2 * s10)) + 1)))).toNat x11).length = n0 by first | assumption | (simp only [llA, lrA]; first | done | assumption | omega) | omega)⟩
  rotate_left
  simp only [h19, if_false] at hr
  obtain rfl := oiA hr
  refine ⟨(.ret, ⟨[(0, .ref g1.length v0 0 n0), (1, PI s1), (2, PI s2), (3, PI s3), (4, .fn 84 []), (10, PI s10), (11, PI (w64 ((w64 (2 * s10)) + 1)))], (g1 ++ (.row false v0 2 (rowP qb9 o0) :: (g2 ++ gt)))⟩), ?_, nofun, rfl, gt, rfl, rfl, (show o0.length = n0 by first | assumption | (simp only [llA, lrA]; first | done | assumption | omega) | omega)⟩
  rotate_left
  all_goals (simp +decide only [go_sem, Int.reduceToNat, Nat.reduceAdd, Nat.reduceLT, Nat.reduceMul, Nat.reducePow, reduceCtorEq, qbU9, qlP9, *])
theorem qjY9 {s1 : Int} {s2 : Int} {s3 : Int} {g1 : AHeap} {v0 : Nat} {n0 : Nat} {g2 : AHeap} {s : Int × (List Bind)} {g : AHeap} {x} (h : wh (qK9 s1 s2 s3) s = some x) (hI : qdX9 s1 s2 s3 g1 v0 n0 g2 s) : ∃ q, qp9 (semA C (Lim C) 288231475663604767 qlP9) (qbU9 s1 s2 s3 g1 v0 n0 g2 s g) = some q ∧ qea9 s1 s2 s3 g1 v0 n0 g2 x q := qcp9 (qkh9 s1 s2 s3 g1 v0 n0 g2) hI h
theorem qkJ9 {s1 : Int} {s2 : Int} {s3 : Int} {o0 : List Bind} {g1 : AHeap} {v0 : Nat} {n0 : Nat} {g2 : AHeap} (hln0 : o0.length = n0) {r : (List Bind)} (hr : qcd9 s1 s2 s3 o0 = some r) : ∃ hz : AHeap, Lim C 136 [.ref g1.length v0 0 n0, PI s1, PI s2, PI s3, .fn 84 []] (g1 ++ (.row false v0 2 (rowP qb9 o0) :: g2)) = some (resOf [], (g1 ++ (.row false v0 2 (rowP qb9 r) :: (g2 ++ hz)))) ∧ r.length = n0 := by
  simp only [qcd9] at hr
  obtain ⟨x15, h1, hr⟩ := bsome hr
  obtain ⟨q1, h1L, h1X⟩ := qjY9 (g1 := g1) (v0 := v0) (n0 := n0) (g2 := g2) (g := []) h1 (show o0.length = n0 by first | assumption | (simp only [llA, lrA]; first | done | assumption | omega) | omega)
  rcases x15 with ⟨x16, x17⟩ | x20
  simp only [qea9, qbU9] at h1X h1L
  obtain ⟨z18, z19, rfl, h1l0⟩ := h1X
  try simp only [go_sem, Nat.reduceAdd, la1, la2, la3, la4, la5, la6] at h1L
  try simp only [hln0] at h1L
  obtain rfl := oiA hr
  refine ⟨z19, Lim_A is136 (nbA rfl) (e := .normal) (env := [(0, .ref g1.length v0 0 n0), (1, PI s1), (2, PI s2), (3, PI s3), (4, .fn 84 []), (10, PI x16)]) (h' := (g1 ++ (.row false v0 2 (rowP qb9 x17) :: (g2 ++ z19)))) (vs := []) ?_ (.inl rfl) rfl, (show x17.length = n0 by first | assumption | (simp only [llA, lrA]; first | done | assumption | omega) | omega)⟩
  rotate_left
  simp only [qea9, qbU9] at h1X h1L
  obtain ⟨e1, st1⟩ := q1
  obtain ⟨rfl, h1R⟩ := h1X
  obtain ⟨env1, hp1⟩ := st1
  obtain ⟨y1, h1v, h1h, h1f0⟩ := h1R
  replace h1h : hp1 = _ := h1h
  subst h1h
  try simp only [go_sem, Nat.reduceAdd, la1, la2, la3, la4, la5, la6] at h1L
  try simp only [hln0] at h1L
  obtain rfl := oiA hr
  refine ⟨y1, Lim_A is136 (nbA rfl) (e := .ret) (env := env1) ?_ (.inr rfl) h1v, h1f0⟩
  rotate_left
  all_goals (simp +decide only [go_sem, Int.reduceToNat, Nat.reduceAdd, Nat.reduceLT, Nat.reduceMul, Nat.reducePow, reduceCtorEq, qg9, c136, *])
theorem qhp9 {s1 : Int} {s2 : Int} {s3 : Int} {o0 : List Bind} {g1 : AHeap} {v0 : Nat} {n0 : Nat} {g2 : AHeap} (hln0 : o0.length = n0) {r : (List Bind)} (hr : qcd9 s1 s2 s3 o0 = some r) : ∃ hz : AHeap, callP C (Lim C) 136 [.ref g1.length v0 0 n0, PI s1, PI s2, PI s3, .fn 84 []] (g1 ++ (.row false v0 2 (rowP qb9 o0) :: g2)) = some (resOf [], (g1 ++ (.row false v0 2 (rowP qb9 r) :: (g2 ++ hz)))) ∧ r.length = n0 := by
  obtain ⟨hz, h1, f0⟩ := qkJ9 hln0 hr (g1 := g1) (v0 := v0) (n0 := n0) (g2 := g2)
  exact ⟨hz, qZ9 rfl rfl rfl h1, f0⟩
def qlr9 : ACode := .seq (.seq (.reg [] [] [.M 32 12, .K 33 (.bin .geq (.tmp 32) (cI 0))]) (.cond (.tmp 33) (some 33) (.skip) (.exit 2))) (.seq (.block 3 8589934592 (.seq (.reg [] [] [.M 36 0, .M 37 8, .M 38 0, .M 39 8, .M 40 12, .T 41 (.bin .add (.tmp 39) (.tmp 40)), .M 42 0, .M 43 8, .M 44 12, .T 45 (.bin .add (.tmp 43) (.tmp 44)), ⟨some (46, false), .ix 2 (.tmp 42) (.tmp 45), none, true, false⟩, ⟨some (47, false), .load (some 2) (.tmp 46), none, true, false⟩, .M 48 0, .M 49 8, ⟨some (50, false), .ix 2 (.tmp 48) (.tmp 49), none, true, false⟩, ⟨some (51, false), .load (some 2) (.tmp 50), none, true, false⟩, ⟨some (52, false), .ix 2 (.tmp 36) (.tmp 37), none, true, false⟩, ⟨none, .store 2 (.tmp 52) (.tmp 47), none, false, false⟩, ⟨some (53, false), .ix 2 (.tmp 38) (.tmp 41), none, true, false⟩, ⟨none, .store 2 (.tmp 53) (.tmp 51), none, false, false⟩]) (.reg [] [] [.M 54 0, .M 55 9, .M 56 12, .M 57 8, .M 58 3, .T 59 (.call 136 [.tmp 54, .tmp 55, .tmp 56, .tmp 57, .tmp 58])]))) (.reg [] [] [.M 34 12, .T 35 (.bin .sub (.tmp 34) (cI 1)), .N 12 35]))
def qld9 : ACode := .seq (.seq (.reg [] [] [.M 20 11, .K 21 (.bin .geq (.tmp 20) (cI 0))]) (.cond (.tmp 21) (some 21) (.skip) (.exit 0))) (.seq (.block 1 2097152 (.reg [] [] [.M 24 0, .M 25 11, .M 26 10, .M 27 8, .M 28 3, .T 29 (.call 136 [.tmp 24, .tmp 25, .tmp 26, .tmp 27, .tmp 28])])) (.reg [] [] [.M 22 11, .T 23 (.bin .sub (.tmp 22) (cI 1)), .N 11 23]))
def c123 : ACode := .seq (.reg [] [] [.M 13 1, .N 8 13]) (.seq (.reg [] [] [.K 9 (.mv (cI 0))]) (.seq (.reg [] [] [.M 14 2, .M 15 1, .T 16 (.bin .sub (.tmp 14) (.tmp 15)), .N 10 16]) (.seq (.seq (.reg [] [] [.M 17 10, .T 18 (.bin .sub (.tmp 17) (cI 1)), .T 19 (.binM .quo (.tmp 18) (cI 2)), .N 11 19]) (.block 0 2097152 (.loop qld9))) (.seq (.reg [] [] [.M 30 10, .T 31 (.bin .sub (.tmp 30) (cI 1)), .N 12 31]) (.block 2 8589934592 (.loop qlr9))))))
theorem is123 : IsF C 123 60 8592039695 c123 [] := ⟨⟨Tryd.f123, _, C_P ▸ Tryd.func123, rfl, rfl, rfl, by kernel_rfl, rfl⟩⟩
def qcz9 (s1 : Int) (s2 : Int) (s8 : Int) (s10 : Int) (s11 : Int) (g1 : AHeap) (v0 : Nat) (n0 : Nat) (g2 : AHeap) : Int × (List Bind) → AHeap → St := fun (s12, o0) gt => ⟨[(0, .ref g1.length v0 0 n0), (1, PI s1), (2, PI s2), (3, .fn 84 []), (8, PI s8), (9, PI 0), (10, PI s10), (11, PI s11), (12, PI s12)], (g1 ++ (.row false v0 2 (rowP qb9 o0) :: (g2 ++ gt)))⟩
def qdW9 (s1 : Int) (s2 : Int) (s8 : Int) (s10 : Int) (s11 : Int) (g1 : AHeap) (v0 : Nat) (n0 : Nat) (g2 : AHeap) : Int × (List Bind) → Prop := fun (s12, o0) => o0.length = n0
def qfm9 (s1 : Int) (s2 : Int) (s8 : Int) (s10 : Int) (s11 : Int) (g1 : AHeap) (v0 : Nat) (n0 : Nat) (g2 : AHeap) : (Int × (List Bind)) → AExit × St → Prop := fun (s12, o0) q => ∃ h1 : AHeap, q = (.exit 2, ⟨[(0, .ref g1.length v0 0 n0), (1, PI s1), (2, PI s2), (3, .fn 84 []), (8, PI s8), (9, PI 0), (10, PI s10), (11, PI s11), (12, PI s12)], (g1 ++ (.row false v0 2 (rowP qb9 o0) :: (g2 ++ h1)))⟩) ∧ o0.length = n0
theorem qkj9 (s1 : Int) (s2 : Int) (s8 : Int) (s10 : Int) (s11 : Int) (g1 : AHeap) (v0 : Nat) (n0 : Nat) (g2 : AHeap) : ∀ (s : Int × (List Bind)) (g : AHeap) r, qdW9 s1 s2 s8 s10 s11 g1 v0 n0 g2 s → qbA9 s1 s2 s8 s10 s11 s = some r → Sum.elim (fun s' => (∃ g', semA C (Lim C) 8592039695 qlr9 (qcz9 s1 s2 s8 s10 s11 g1 v0 n0 g2 s g) = some (.normal, qcz9 s1 s2 s8 s10 s11 g1 v0 n0 g2 s' g')) ∧ qdW9 s1 s2 s8 s10 s11 g1 v0 n0 g2 s') (fun x => ∃ q, semA C (Lim C) 8592039695 qlr9 (qcz9 s1 s2 s8 s10 s11 g1 v0 n0 g2 s g) = some q ∧ q.1 ≠ .normal ∧ qfm9 s1 s2 s8 s10 s11 g1 v0 n0 g2 x q) r := by
  intro s g r hI hr
  obtain ⟨s12, o0⟩ := s
  have ⟨gt, hg0⟩ : ∃ y, y = g := ⟨_, rfl⟩
  subst hg0
  simp only [qdW9] at hI
  have hI0 := hI
  simp only [qbA9] at hr
  rcases pcA (0 ≤ s12) with h1 | h1
  simp only [h1, if_true] at hr
  obtain ⟨x8, h2, hr⟩ := bsome hr
  have h2a := eq_true (qc9 h2).1
  have h2b : ((w64 (s8 + s12)) < (n0 : Int)) = True := eq_true (by have hb : (w64 (s8 + s12)) < (o0.length : Int) := (qc9 h2).2.1; omega)
  have h2c := (qc9 h2).2.2
  obtain ⟨x9, h3, hr⟩ := bsome hr
  have h3a := eq_true (qc9 h3).1
  have h3b : (s8 < (n0 : Int)) = True := eq_true (by have hb : s8 < (o0.length : Int) := (qc9 h3).2.1; omega)
  have h3c := (qc9 h3).2.2
  obtain ⟨x10, h4, hr⟩ := bsome hr
  have h4a := eq_true (qc9 h4).1
  have h4b : ((w64 (s8 + s12)) < (n0 : Int)) = True := eq_true (by have hb : (w64 (s8 + s12)) < ((o0.set (s8).toNat x8).length : Int) := (qc9 h4).2.1; simp only [llA, lrA] at hb; omega)
  have h4c := (qc9 h4).2.2
  obtain ⟨x11, h5, hr⟩ := bsome hr
  obtain ⟨z12, h5k, h5l0⟩ := qhp9 (g1 := g1) (v0 := v0) (n0 := n0) (g2 := (g2 ++ gt)) (show ((o0.set (s8).toNat x8).set (w64 (s8 + s12)).toNat x9).length = n0 by first | assumption | (simp only [llA, lrA]; first | done | assumption | omega) | omega) h5
  try simp only [go_sem, Nat.reduceAdd, la1, la2, la3, la4, la5, la6] at h5k
  obtain rfl := oiA hr
  refine ⟨⟨(gt ++ z12), ?_⟩, (show x11.length = n0 by first | assumption | (simp only [llA, lrA]; first | done | assumption | omega) | omega)⟩
  rotate_left
  simp only [h1, if_false] at hr
  obtain rfl := oiA hr
  refine ⟨(.exit 2, ⟨[(0, .ref g1.length v0 0 n0), (1, PI s1), (2, PI s2), (3, .fn 84 []), (8, PI s8), (9, PI 0), (10, PI s10), (11, PI s11), (12, PI s12)], (g1 ++ (.row false v0 2 (rowP qb9 o0) :: (g2 ++ gt)))⟩), ?_, nofun, gt, rfl, (show o0.length = n0 by first | assumption | (simp only [llA, lrA]; first | done | assumption | omega) | omega)⟩
  rotate_left
  all_goals (simp +decide only [go_sem, Int.reduceToNat, Nat.reduceAdd, Nat.reduceLT, Nat.reduceMul, Nat.reducePow, reduceCtorEq, qcz9, qlr9, *])
theorem qkl9 {s1 : Int} {s2 : Int} {s8 : Int} {s10 : Int} {s11 : Int} {g1 : AHeap} {v0 : Nat} {n0 : Nat} {g2 : AHeap} {s : Int × (List Bind)} {g : AHeap} {x} (h : wh (qbA9 s1 s2 s8 s10 s11) s = some x) (hI : qdW9 s1 s2 s8 s10 s11 g1 v0 n0 g2 s) : ∃ q, qp9 (semA C (Lim C) 8592039695 qlr9) (qcz9 s1 s2 s8 s10 s11 g1 v0 n0 g2 s g) = some q ∧ qfm9 s1 s2 s8 s10 s11 g1 v0 n0 g2 x q := qcp9 (qkj9 s1 s2 s8 s10 s11 g1 v0 n0 g2) hI h
def qcA9 (s1 : Int) (s2 : Int) (s8 : Int) (s10 : Int) (g1 : AHeap) (v0 : Nat) (n0 : Nat) (g2 : AHeap) : Int × (List Bind) → AHeap → St := fun (s11, o0) gt => ⟨[(0, .ref g1.length v0 0 n0), (1, PI s1), (2, PI s2), (3, .fn 84 []), (8, PI s8), (9, PI 0), (10, PI s10), (11, PI s11)], (g1 ++ (.row false v0 2 (rowP qb9 o0) :: (g2 ++ gt)))⟩
def qeb9 (s1 : Int) (s2 : Int) (s8 : Int) (s10 : Int) (g1 : AHeap) (v0 : Nat) (n0 : Nat) (g2 : AHeap) : Int × (List Bind) → Prop := fun (s11, o0) => o0.length = n0
def qfo9 (s1 : Int) (s2 : Int) (s8 : Int) (s10 : Int) (g1 : AHeap) (v0 : Nat) (n0 : Nat) (g2 : AHeap) : (Int × (List Bind)) → AExit × St → Prop := fun (s11, o0) q => ∃ h1 : AHeap, q = (.exit 0, ⟨[(0, .ref g1.length v0 0 n0), (1, PI s1), (2, PI s2), (3, .fn 84 []), (8, PI s8), (9, PI 0), (10, PI s10), (11, PI s11)], (g1 ++ (.row false v0 2 (rowP qb9 o0) :: (g2 ++ h1)))⟩) ∧ o0.length = n0
theorem qjW9 (s1 : Int) (s2 : Int) (s8 : Int) (s10 : Int) (g1 : AHeap) (v0 : Nat) (n0 : Nat) (g2 : AHeap) : ∀ (s : Int × (List Bind)) (g : AHeap) r, qeb9 s1 s2 s8 s10 g1 v0 n0 g2 s → qbx9 s1 s2 s8 s10 s = some r → Sum.elim (fun s' => (∃ g', semA C (Lim C) 8592039695 qld9 (qcA9 s1 s2 s8 s10 g1 v0 n0 g2 s g) = some (.normal, qcA9 s1 s2 s8 s10 g1 v0 n0 g2 s' g')) ∧ qeb9 s1 s2 s8 s10 g1 v0 n0 g2 s') (fun x => ∃ q, semA C (Lim C) 8592039695 qld9 (qcA9 s1 s2 s8 s10 g1 v0 n0 g2 s g) = some q ∧ q.1 ≠ .normal ∧ qfo9 s1 s2 s8 s10 g1 v0 n0 g2 x q) r := by
  intro s g r hI hr
  obtain ⟨s11, o0⟩ := s
  have ⟨gt, hg0⟩ : ∃ y, y = g := ⟨_, rfl⟩
  subst hg0
  simp only [qeb9] at hI
  have hI0 := hI
  simp only [qbx9] at hr
  rcases pcA (0 ≤ s11) with h1 | h1
  simp only [h1, if_true] at hr
  obtain ⟨x2, h2, hr⟩ := bsome hr
  obtain ⟨z3, h2k, h2l0⟩ := qhp9 (g1 := g1) (v0 := v0) (n0 := n0) (g2 := (g2 ++ gt)) (show o0.length = n0 by first | assumption | (simp only [llA, lrA]; first | done | assumption | omega) | omega) h2
  try simp only [go_sem, Nat.reduceAdd, la1, la2, la3, la4, la5, la6] at h2k
  obtain rfl := oiA hr
  refine ⟨⟨(gt ++ z3), ?_⟩, (show x2.length = n0 by first | assumption | (simp only [llA, lrA]; first | done | assumption | omega) | omega)⟩
  rotate_left
  simp only [h1, if_false] at hr
  obtain rfl := oiA hr
  refine ⟨(.exit 0, ⟨[(0, .ref g1.length v0 0 n0), (1, PI s1), (2, PI s2), (3, .fn 84 []), (8, PI s8), (9, PI 0), (10, PI s10), (11, PI s11)], (g1 ++ (.row false v0 2 (rowP qb9 o0) :: (g2 ++ gt)))⟩), ?_, nofun, gt, rfl, (show o0.length = n0 by first | assumption | (simp only [llA, lrA]; first | done | assumption | omega) | omega)⟩
  rotate_left
  all_goals (simp +decide only [go_sem, Int.reduceToNat, Nat.reduceAdd, Nat.reduceLT, Nat.reduceMul, Nat.reducePow, reduceCtorEq, qcA9, qld9, *])
theorem qjZ9 {s1 : Int} {s2 : Int} {s8 : Int} {s10 : Int} {g1 : AHeap} {v0 : Nat} {n0 : Nat} {g2 : AHeap} {s : Int × (List Bind)} {g : AHeap} {x} (h : wh (qbx9 s1 s2 s8 s10) s = some x) (hI : qeb9 s1 s2 s8 s10 g1 v0 n0 g2 s) : ∃ q, qp9 (semA C (Lim C) 8592039695 qld9) (qcA9 s1 s2 s8 s10 g1 v0 n0 g2 s g) = some q ∧ qfo9 s1 s2 s8 s10 g1 v0 n0 g2 x q := qcp9 (qjW9 s1 s2 s8 s10 g1 v0 n0 g2) hI h
theorem qkt9 {s1 : Int} {s2 : Int} {o0 : List Bind} {g1 : AHeap} {v0 : Nat} {n0 : Nat} {g2 : AHeap} (hln0 : o0.length = n0) {r : (List Bind)} (hr : qde9 s1 s2 o0 = some r) : ∃ hz : AHeap, Lim C 123 [.ref g1.length v0 0 n0, PI s1, PI s2, .fn 84 []] (g1 ++ (.row false v0 2 (rowP qb9 o0) :: g2)) = some (resOf [], (g1 ++ (.row false v0 2 (rowP qb9 r) :: (g2 ++ hz)))) ∧ r.length = n0 := by
  simp only [qde9] at hr
  obtain ⟨x1, h1, hr⟩ := bsome hr
  obtain ⟨x4, h2, hr⟩ := bsome hr
  obtain ⟨q2, h2L, h2X⟩ := qjZ9 (g1 := g1) (v0 := v0) (n0 := n0) (g2 := g2) (g := []) h2 (show o0.length = n0 by first | assumption | (simp only [llA, lrA]; first | done | assumption | omega) | omega)
  obtain ⟨x5, x6⟩ := x4
  simp only [qfo9, qcA9] at h2X h2L
  obtain ⟨z7, rfl, h2l0⟩ := h2X
  try simp only [go_sem, Nat.reduceAdd, la1, la2, la3, la4, la5, la6] at h2L
  try simp only [hln0] at h2L
  obtain ⟨x13, h3, hr⟩ := bsome hr
  obtain ⟨q3, h3L, h3X⟩ := qkl9 (g1 := g1) (v0 := v0) (n0 := n0) (g2 := (g2 ++ z7)) (g := []) h3 (show x6.length = n0 by first | assumption | (simp only [llA, lrA]; first | done | assumption | omega) | omega)
  obtain ⟨x14, x15⟩ := x13
  simp only [qfm9, qcz9] at h3X h3L
  obtain ⟨z16, rfl, h3l0⟩ := h3X
  try simp only [go_sem, Nat.reduceAdd, la1, la2, la3, la4, la5, la6] at h3L
  try simp only [hln0] at h3L
  obtain rfl := oiA hr
  refine ⟨(z7 ++ z16), Lim_A is123 (nbA rfl) (e := .normal) (env := [(0, .ref g1.length v0 0 n0), (1, PI s1), (2, PI s2), (3, .fn 84 []), (8, PI s1), (9, PI 0), (10, PI (w64 (s2 - s1))), (11, PI x5), (12, PI x14)]) (h' := (g1 ++ (.row false v0 2 (rowP qb9 x15) :: (g2 ++ (z7 ++ z16))))) (vs := []) ?_ (.inl rfl) rfl, (show x15.length = n0 by first | assumption | (simp only [llA, lrA]; first | done | assumption | omega) | omega)⟩
  rotate_left
  all_goals (simp +decide only [go_sem, Int.reduceToNat, Nat.reduceAdd, Nat.reduceLT, Nat.reduceMul, Nat.reducePow, reduceCtorEq, qg9, c123, *])
theorem qkD9 {s1 : Int} {s2 : Int} {o0 : List Bind} {g1 : AHeap} {v0 : Nat} {n0 : Nat} {g2 : AHeap} (hln0 : o0.length = n0) {r : (List Bind)} (hr : qde9 s1 s2 o0 = some r) : ∃ hz : AHeap, callP C (Lim C) 123 [.ref g1.length v0 0 n0, PI s1, PI s2, .fn 84 []] (g1 ++ (.row false v0 2 (rowP qb9 o0) :: g2)) = some (resOf [], (g1 ++ (.row false v0 2 (rowP qb9 r) :: (g2 ++ hz)))) ∧ r.length = n0 := by
  obtain ⟨hz, h1, f0⟩ := qkt9 hln0 hr (g1 := g1) (v0 := v0) (n0 := n0) (g2 := g2)
  exact ⟨hz, qZ9 rfl rfl rfl h1, f0⟩
def c141 : ACode := .seq (.reg [] [] [.K 10 (.mv (cI 0)), .K 11 (.mv (cI 0))]) (.seq (.seq (.reg [] [] [.M 12 4, .M 13 0, .M 14 2, ⟨some (15, false), .ix 2 (.tmp 13) (.tmp 14), none, true, false⟩, ⟨some (16, false), .load (some 2) (.tmp 15), none, true, false⟩, .M 17 0, .M 18 1, ⟨some (19, false), .ix 2 (.tmp 17) (.tmp 18), none, true, false⟩, ⟨some (20, false), .load (some 2) (.tmp 19), none, true, false⟩, ⟨some (21, false), .callV (.tmp 12) [.tmp 16, .tmp 20], none, true, false⟩, .K 22 (.bin .lss (.tmp 21) (cI 0))]) (.cond (.tmp 22) (some 22) (.seq (.reg [] [] [.M 23 3, .T 24 (.nilC (.tmp 23)), .T 25 (.load none (.tmp 24)), .T 26 (.bin .add (.tmp 25) (cI 1)), .T 27 (.nilC (.tmp 23)), ⟨none, .store 1 (.tmp 27) (.tmp 26), none, false, false⟩]) (.seq (.reg [] [] [.M 28 2, .M 29 1, .N 10 28, .N 11 29]) (.ret))) (.skip))) (.seq (.reg [] [] [.M 30 1, .M 31 2, .N 10 30, .N 11 31]) (.ret)))
theorem is141 : IsF C 141 32 4197407 c141 [.tmp 10, .tmp 11] := ⟨⟨Tryd.f141, _, C_P ▸ Tryd.func141, rfl, rfl, rfl, by kernel_rfl, rfl⟩⟩
theorem qlu9 {s1 : Int} {s2 : Int} {o0 : List Bind} {b3_0 : Int} {g1 : AHeap} {v0 : Nat} {n0 : Nat} {g2 : AHeap} {g3 : AHeap} (hln0 : o0.length = n0) {r : Int × Int × Int} (hr : qcF9 s1 s2 o0 b3_0 = some r) : Lim C 141 [.ref g1.length v0 0 n0, PI s1, PI s2, .ptr (g1.length + g2.length + 1) 0 0 0, .fn 84 []] (g1 ++ (.row false v0 2 (rowP qb9 o0) :: (g2 ++ (.row false 0 1 [[PI b3_0]] :: g3)))) = some (resOf [PI r.1, PI r.2.1], (g1 ++ (.row false v0 2 (rowP qb9 o0) :: (g2 ++ (.row false 0 1 [[PI r.2.2]] :: g3))))) := by
  simp only [qcF9] at hr
  obtain ⟨x1, h1, hr⟩ := bsome hr
  have h1a := eq_true (qc9 h1).1
  have h1b : (s2 < (n0 : Int)) = True := eq_true (by have hb : s2 < (o0.length : Int) := (qc9 h1).2.1; omega)
  have h1c := (qc9 h1).2.2
  obtain ⟨x2, h2, hr⟩ := bsome hr
  have h2a := eq_true (qc9 h2).1
  have h2b : (s1 < (n0 : Int)) = True := eq_true (by have hb : s1 < (o0.length : Int) := (qc9 h2).2.1; omega)
  have h2c := (qc9 h2).2.2
  obtain ⟨x3, h3, hr⟩ := bsome hr
  have h3k := fun h => qv9 (h := h) (args := [.ag [PI x1.Var, .d (.rd (x1.T.map intD))], .ag [PI x2.Var, .d (.rd (x2.T.map intD))]]) h3 rfl
  try simp only [go_sem] at h3k
  rcases pcA (x3 < 0) with h4 | h4
  simp only [h4, if_true] at hr
  obtain rfl := oiA hr
  refine (Lim_A is141 (nbA rfl) (e := .ret) (env := [(0, .ref g1.length v0 0 n0), (1, PI s1), (2, PI s2), (3, .ptr (g1.length + g2.length + 1) 0 0 0), (4, .fn 84 []), (10, PI s2), (11, PI s1)]) (h' := (g1 ++ (.row false v0 2 (rowP qb9 o0) :: (g2 ++ (.row false 0 1 [[PI (w64 (b3_0 + 1))]] :: g3))))) (vs := [PI s2, PI s1]) ?_ (.inr rfl) rfl)
  rotate_left
  simp only [h4, if_false] at hr
  obtain rfl := oiA hr
  refine (Lim_A is141 (nbA rfl) (e := .ret) (env := [(0, .ref g1.length v0 0 n0), (1, PI s1), (2, PI s2), (3, .ptr (g1.length + g2.length + 1) 0 0 0), (4, .fn 84 []), (10, PI s1), (11, PI s2)]) (h' := (g1 ++ (.row false v0 2 (rowP qb9 o0) :: (g2 ++ (.row false 0 1 [[PI b3_0]] :: g3))))) (vs := [PI s1, PI s2]) ?_ (.inr rfl) rfl)
  rotate_left
  all_goals (simp +decide only [go_sem, Int.reduceToNat, Nat.reduceAdd, Nat.reduceLT, Nat.reduceMul, Nat.reducePow, reduceCtorEq, qg9, c141, *])
theorem qfT9 {s1 : Int} {s2 : Int} {o0 : List Bind} {b3_0 : Int} {g1 : AHeap} {v0 : Nat} {n0 : Nat} {g2 : AHeap} {g3 : AHeap} (hln0 : o0.length = n0) {r : Int × Int × Int} (hr : qcF9 s1 s2 o0 b3_0 = some r) : callP C (Lim C) 141 [.ref g1.length v0 0 n0, PI s1, PI s2, .ptr (g1.length + g2.length + 1) 0 0 0, .fn 84 []] (g1 ++ (.row false v0 2 (rowP qb9 o0) :: (g2 ++ (.row false 0 1 [[PI b3_0]] :: g3)))) = some (resOf [PI r.1, PI r.2.1], (g1 ++ (.row false v0 2 (rowP qb9 o0) :: (g2 ++ (.row false 0 1 [[PI r.2.2]] :: g3))))) := by
  have h1 := qlu9 hln0 hr (g1 := g1) (v0 := v0) (n0 := n0) (g2 := g2) (g3 := g3)
  exact qZ9 rfl rfl rfl h1
def c140 : ACode := .seq (.reg [] [] [.K 12 (.mv (cI 0))]) (.seq (.reg [] [] [.M 14 0, .M 15 1, .M 16 2, .M 17 4, .M 18 5, .T 19 (.call 141 [.tmp 14, .tmp 15, .tmp 16, .tmp 17, .tmp 18]), .M 13 19, .T 20 (.ext (.tmp 13) 0), .T 21 (.ext (.tmp 13) 1), .N 1 20, .N 2 21]) (.seq (.reg [] [] [.M 23 0, .M 24 2, .M 25 3, .M 26 4, .M 27 5, .T 28 (.call 141 [.tmp 23, .tmp 24, .tmp 25, .tmp 26, .tmp 27]), .M 22 28, .T 29 (.ext (.tmp 22) 0), .T 30 (.ext (.tmp 22) 1), .N 2 29, .N 3 30]) (.seq (.reg [] [] [.M 32 0, .M 33 1, .M 34 2, .M 35 4, .M 36 5, .T 37 (.call 141 [.tmp 32, .tmp 33, .tmp 34, .tmp 35, .tmp 36]), .M 31 37, .T 38 (.ext (.tmp 31) 0), .T 39 (.ext (.tmp 31) 1), .N 1 38, .N 2 39]) (.seq (.reg [] [] [.M 40 2, .N 12 40]) (.ret)))))
theorem is140 : IsF C 140 41 4159 c140 [.tmp 12] := ⟨⟨Tryd.f140, _, C_P ▸ Tryd.func140, rfl, rfl, rfl, by kernel_rfl, rfl⟩⟩
theorem qls9 {s1 : Int} {s2 : Int} {s3 : Int} {o0 : List Bind} {b4_0 : Int} {g1 : AHeap} {v0 : Nat} {n0 : Nat} {g2 : AHeap} {g3 : AHeap} (hln0 : o0.length = n0) {r : Int × Int} (hr : qcC9 s1 s2 s3 o0 b4_0 = some r) : Lim C 140 [.ref g1.length v0 0 n0, PI s1, PI s2, PI s3, .ptr (g1.length + g2.length + 1) 0 0 0, .fn 84 []] (g1 ++ (.row false v0 2 (rowP qb9 o0) :: (g2 ++ (.row false 0 1 [[PI b4_0]] :: g3)))) = some (resOf [PI r.1], (g1 ++ (.row false v0 2 (rowP qb9 o0) :: (g2 ++ (.row false 0 1 [[PI r.2]] :: g3))))) := by
  simp only [qcC9] at hr
  obtain ⟨x1, h1, hr⟩ := bsome hr
  have h1k := qfT9 (g1 := g1) (v0 := v0) (n0 := n0) (g2 := g2) (g3 := g3) (show o0.length = n0 by first | assumption | (simp only [llA, lrA]; first | done | assumption | omega) | omega) h1
  try simp only [go_sem, Nat.reduceAdd, la1, la2, la3, la4, la5, la6] at h1k
  obtain ⟨x2, h2, hr⟩ := bsome hr
  have h2k := qfT9 (g1 := g1) (v0 := v0) (n0 := n0) (g2 := g2) (g3 := g3) (show o0.length = n0 by first | assumption | (simp only [llA, lrA]; first | done | assumption | omega) | omega) h2
  try simp only [go_sem, Nat.reduceAdd, la1, la2, la3, la4, la5, la6] at h2k
  obtain ⟨x3, h3, hr⟩ := bsome hr
  have h3k := qfT9 (g1 := g1) (v0 := v0) (n0 := n0) (g2 := g2) (g3 := g3) (show o0.length = n0 by first | assumption | (simp only [llA, lrA]; first | done | assumption | omega) | omega) h3
  try simp only [go_sem, Nat.reduceAdd, la1, la2, la3, la4, la5, la6] at h3k
  obtain rfl := oiA hr
  refine (Lim_A is140 (nbA rfl) (e := .ret) (env := [(0, .ref g1.length v0 0 n0), (1, PI x3.1), (2, PI x3.2.1), (3, PI x2.2.1), (4, .ptr (g1.length + g2.length + 1) 0 0 0), (5, .fn 84 []), (12, PI x3.2.1)]) (h' := (g1 ++ (.row false v0 2 (rowP qb9 o0) :: (g2 ++ (.row false 0 1 [[PI x3.2.2]] :: g3))))) (vs := [PI x3.2.1]) ?_ (.inr rfl) rfl)
  rotate_left
  all_goals (simp +decide only [go_sem, Int.reduceToNat, Nat.reduceAdd, Nat.reduceLT, Nat.reduceMul, Nat.reducePow, reduceCtorEq, qg9, c140, *])
theorem qgc9 {s1 : Int} {s2 : Int} {s3 : Int} {o0 : List Bind} {b4_0 : Int} {g1 : AHeap} {v0 : Nat} {n0 : Nat} {g2 : AHeap} {g3 : AHeap} (hln0 : o0.length = n0) {r : Int × Int} (hr : qcC9 s1 s2 s3 o0 b4_0 = some r) : callP C (Lim C) 140 [.ref g1.length v0 0 n0, PI s1, PI s2, PI s3, .ptr (g1.length + g2.length + 1) 0 0 0, .fn 84 []] (g1 ++ (.row false v0 2 (rowP qb9 o0) :: (g2 ++ (.row false 0 1 [[PI b4_0]] :: g3)))) = some (resOf [PI r.1], (g1 ++ (.row false v0 2 (rowP qb9 o0) :: (g2 ++ (.row false 0 1 [[PI r.2]] :: g3))))) := by
  have h1 := qls9 hln0 hr (g1 := g1) (v0 := v0) (n0 := n0) (g2 := g2) (g3 := g3)
  exact qZ9 rfl rfl rfl h1
def c139 : ACode := .seq (.reg [] [] [.K 8 (.mv (cI 0))]) (.seq (.reg [] [] [.M 9 0, .M 10 1, .T 11 (.bin .sub (.tmp 10) (cI 1)), .M 12 1, .M 13 1, .T 14 (.bin .add (.tmp 13) (cI 1)), .M 15 2, .M 16 3, .T 17 (.call 140 [.tmp 9, .tmp 11, .tmp 12, .tmp 14, .tmp 15, .tmp 16]), .N 8 17]) (.ret))
theorem is139 : IsF C 139 18 271 c139 [.tmp 8] := ⟨⟨Tryd.f139, _, C_P ▸ Tryd.func139, rfl, rfl, rfl, by kernel_rfl, rfl⟩⟩
theorem qiu9 {s1 : Int} {o0 : List Bind} {b2_0 : Int} {g1 : AHeap} {v0 : Nat} {n0 : Nat} {g2 : AHeap} {g3 : AHeap} (hln0 : o0.length = n0) {r : Int × Int} (hr : qbg9 s1 o0 b2_0 = some r) : Lim C 139 [.ref g1.length v0 0 n0, PI s1, .ptr (g1.length + g2.length + 1) 0 0 0, .fn 84 []] (g1 ++ (.row false v0 2 (rowP qb9 o0) :: (g2 ++ (.row false 0 1 [[PI b2_0]] :: g3)))) = some (resOf [PI r.1], (g1 ++ (.row false v0 2 (rowP qb9 o0) :: (g2 ++ (.row false 0 1 [[PI r.2]] :: g3))))) := by
  simp only [qbg9] at hr
  obtain ⟨x1, h1, hr⟩ := bsome hr
  have h1k := qgc9 (g1 := g1) (v0 := v0) (n0 := n0) (g2 := g2) (g3 := g3) (show o0.length = n0 by first | assumption | (simp only [llA, lrA]; first | done | assumption | omega) | omega) h1
  try simp only [go_sem, Nat.reduceAdd, la1, la2, la3, la4, la5, la6] at h1k
  obtain rfl := oiA hr
  refine (Lim_A is139 (nbA rfl) (e := .ret) (env := [(0, .ref g1.length v0 0 n0), (1, PI s1), (2, .ptr (g1.length + g2.length + 1) 0 0 0), (3, .fn 84 []), (8, PI x1.1)]) (h' := (g1 ++ (.row false v0 2 (rowP qb9 o0) :: (g2 ++ (.row false 0 1 [[PI x1.2]] :: g3))))) (vs := [PI x1.1]) ?_ (.inr rfl) rfl)
  rotate_left
  all_goals (simp +decide only [go_sem, Int.reduceToNat, Nat.reduceAdd, Nat.reduceLT, Nat.reduceMul, Nat.reducePow, reduceCtorEq, qg9, c139, *])
theorem qen9 {s1 : Int} {o0 : List Bind} {b2_0 : Int} {g1 : AHeap} {v0 : Nat} {n0 : Nat} {g2 : AHeap} {g3 : AHeap} (hln0 : o0.length = n0) {r : Int × Int} (hr : qbg9 s1 o0 b2_0 = some r) : callP C (Lim C) 139 [.ref g1.length v0 0 n0, PI s1, .ptr (g1.length + g2.length + 1) 0 0 0, .fn 84 []] (g1 ++ (.row false v0 2 (rowP qb9 o0) :: (g2 ++ (.row false 0 1 [[PI b2_0]] :: g3)))) = some (resOf [PI r.1], (g1 ++ (.row false v0 2 (rowP qb9 o0) :: (g2 ++ (.row false 0 1 [[PI r.2]] :: g3))))) := by
  have h1 := qiu9 hln0 hr (g1 := g1) (v0 := v0) (n0 := n0) (g2 := g2) (g3 := g3)
  exact qZ9 rfl rfl rfl h1
def c125 : ACode := .seq (.reg [] [] [.K 8 (.mv (cI 0)), .K 9 (.mv (cI 0))]) (.seq (.reg [] [] [.M 15 2, .M 16 1, .T 17 (.bin .sub (.tmp 15) (.tmp 16)), .N 10 17]) (.seq (.reg [] [] [.K 11 (.alloc [.d (.v (.int .i64 0))] 1)]) (.seq (.reg [] [] [.M 18 1, .M 19 10, .T 20 (.binM .quo (.tmp 19) (cI 4)), .T 21 (.bin .mul (.tmp 20) (cI 1)), .T 22 (.bin .add (.tmp 18) (.tmp 21)), .N 12 22]) (.seq (.reg [] [] [.M 23 1, .M 24 10, .T 25 (.binM .quo (.tmp 24) (cI 4)), .T 26 (.bin .mul (.tmp 25) (cI 2)), .T 27 (.bin .add (.tmp 23) (.tmp 26)), .N 13 27]) (.seq (.reg [] [] [.M 28 1, .M 29 10, .T 30 (.binM .quo (.tmp 29) (cI 4)), .T 31 (.bin .mul (.tmp 30) (cI 3)), .T 32 (.bin .add (.tmp 28) (.tmp 31)), .N 14 32]) (.seq (.seq (.reg [] [] [.M 33 10, .K 34 (.bin .geq (.tmp 33) (cI 8))]) (.cond (.tmp 34) (some 34) (.seq (.seq (.reg [] [] [.M 35 10, .K 36 (.bin .geq (.tmp 35) (cI 50))]) (.cond (.tmp 36) (some 36) (.seq (.reg [] [] [.M 37 0, .M 38 12, .M 39 3, .T 40 (.call 139 [.tmp 37, .tmp 38, .tmp 11, .tmp 39]), .N 12 40]) (.seq (.reg [] [] [.M 41 0, .M 42 13, .M 43 3, .T 44 (.call 139 [.tmp 41, .tmp 42, .tmp 11, .tmp 43]), .N 13 44]) (.reg [] [] [.M 45 0, .M 46 14, .M 47 3, .T 48 (.call 139 [.tmp 45, .tmp 46, .tmp 11, .tmp 47]), .N 14 48]))) (.skip))) (.reg [] [] [.M 49 0, .M 50 12, .M 51 13, .M 52 14, .M 53 3, .T 54 (.call 140 [.tmp 49, .tmp 50, .tmp 51, .tmp 52, .tmp 11, .tmp 53]), .N 13 54])) (.skip))) (.seq (.reg [] [] [.K 55 (.load none (.tmp 11))]) (.block 0 1297036692682702848 (.seq (.reg [] [] [.T 58 (.bin .eql (.tmp 55) (cI 0)), .N 57 58]) (.cond (.tmp 57) (some 57) (.seq (.reg [] [] [.M 59 13, .N 8 59, .K 9 (.mv (cI 1))]) (.ret)) (.seq (.reg [] [] [.T 61 (.bin .eql (.tmp 55) (cI 12)), .N 60 61]) (.cond (.tmp 60) (some 60) (.seq (.reg [] [] [.M 62 13, .N 8 62, .K 9 (.mv (cI 2))]) (.ret)) (.seq (.reg [] [] [.M 56 13, .N 8 56, .K 9 (.mv (cI 0))]) (.ret))))))))))))))
theorem is125 : IsF C 125 63 1333065575601045263 c125 [.tmp 8, .tmp 9] := ⟨⟨Tryd.f125, _, C_P ▸ Tryd.func125, rfl, rfl, rfl, by kernel_rfl, rfl⟩⟩
theorem qjt9 {s1 : Int} {s2 : Int} {o0 : List Bind} {g1 : AHeap} {v0 : Nat} {n0 : Nat} {g2 : AHeap} (hln0 : o0.length = n0) {r : Int × Int} (hr : qbT9 s1 s2 o0 = some r) : ∃ hz : AHeap, Lim C 125 [.ref g1.length v0 0 n0, PI s1, PI s2, .fn 84 []] (g1 ++ (.row false v0 2 (rowP qb9 o0) :: g2)) = some (resOf [PI r.1, PI r.2], (g1 ++ (.row false v0 2 (rowP qb9 o0) :: (g2 ++ hz)))) := by
  simp only [qbT9] at hr
  obtain ⟨x1, h1, hr⟩ := bsome hr
  rcases pcA (8 ≤ (w64 (s2 - s1))) with h2 | h2
  simp only [h2, if_true] at hr
  rcases pcA (50 ≤ (w64 (s2 - s1))) with h3 | h3
  simp only [h3, if_true] at hr
  obtain ⟨x2, h4, hr⟩ := bsome hr
  have h4k := qen9 (g1 := g1) (v0 := v0) (n0 := n0) (g2 := g2) (g3 := []) (show o0.length = n0 by first | assumption | (simp only [llA, lrA]; first | done | assumption | omega) | omega) h4
  try simp only [go_sem, Nat.reduceAdd, la1, la2, la3, la4, la5, la6] at h4k
  obtain ⟨x3, h5, hr⟩ := bsome hr
  have h5k := qen9 (g1 := g1) (v0 := v0) (n0 := n0) (g2 := g2) (g3 := []) (show o0.length = n0 by first | assumption | (simp only [llA, lrA]; first | done | assumption | omega) | omega) h5
  try simp only [go_sem, Nat.reduceAdd, la1, la2, la3, la4, la5, la6] at h5k
  obtain ⟨x4, h6, hr⟩ := bsome hr
  have h6k := qen9 (g1 := g1) (v0 := v0) (n0 := n0) (g2 := g2) (g3 := []) (show o0.length = n0 by first | assumption | (simp only [llA, lrA]; first | done | assumption | omega) | omega) h6
  try simp only [go_sem, Nat.reduceAdd, la1, la2, la3, la4, la5, la6] at h6k
  obtain ⟨x5, h7, hr⟩ := bsome hr
  have h7k := qgc9 (g1 := g1) (v0 := v0) (n0 := n0) (g2 := g2) (g3 := []) (show o0.length = n0 by first | assumption | (simp only [llA, lrA]; first | done | assumption | omega) | omega) h7
  try simp only [go_sem, Nat.reduceAdd, la1, la2, la3, la4, la5, la6] at h7k
  rcases pcA (x5.2 = 0) with h8 | h8
  simp only [h8, if_true] at hr
  obtain rfl := oiA hr
  refine ⟨(.row false 0 1 [[PI x5.2]] :: []), Lim_A is125 (nbA rfl) (e := .ret) (env := [(0, .ref g1.length v0 0 n0), (1, PI s1), (2, PI s2), (3, .fn 84 []), (8, PI x5.1), (9, PI 1), (10, PI (w64 (s2 - s1))), (11, .ptr (g1.length + g2.length + 1) 0 0 0), (12, PI x2.1), (13, PI x5.1), (14, PI x4.1), (55, PI x5.2)]) (h' := (g1 ++ (.row false v0 2 (rowP qb9 o0) :: (g2 ++ (.row false 0 1 [[PI x5.2]] :: []))))) (vs := [PI x5.1, PI 1]) ?_ (.inr rfl) rfl⟩
  rotate_left
  simp only [h8, if_false] at hr
  rcases pcA (x5.2 = 12) with h9 | h9
  simp only [h9, if_true] at hr
  obtain rfl := oiA hr
  refine ⟨(.row false 0 1 [[PI x5.2]] :: []), Lim_A is125 (nbA rfl) (e := .ret) (env := [(0, .ref g1.length v0 0 n0), (1, PI s1), (2, PI s2), (3, .fn 84 []), (8, PI x5.1), (9, PI 2), (10, PI (w64 (s2 - s1))), (11, .ptr (g1.length + g2.length + 1) 0 0 0), (12, PI x2.1), (13, PI x5.1), (14, PI x4.1), (55, PI x5.2)]) (h' := (g1 ++ (.row false v0 2 (rowP qb9 o0) :: (g2 ++ (.row false 0 1 [[PI x5.2]] :: []))))) (vs := [PI x5.1, PI 2]) ?_ (.inr rfl) rfl⟩
  rotate_left
  simp only [h9, if_false] at hr
  obtain rfl := oiA hr
  refine ⟨(.row false 0 1 [[PI x5.2]] :: []), Lim_A is125 (nbA rfl) (e := .ret) (env := [(0, .ref g1.length v0 0 n0), (1, PI s1), (2, PI s2), (3, .fn 84 []), (8, PI x5.1), (9, PI 0), (10, PI (w64 (s2 - s1))), (11, .ptr (g1.length + g2.length + 1) 0 0 0), (12, PI x2.1), (13, PI x5.1), (14, PI x4.1), (55, PI x5.2)]) (h' := (g1 ++ (.row false v0 2 (rowP qb9 o0) :: (g2 ++ (.row false 0 1 [[PI x5.2]] :: []))))) (vs := [PI x5.1, PI 0]) ?_ (.inr rfl) rfl⟩
  rotate_left
  simp only [h3, if_false] at hr
  obtain ⟨x6, h10, hr⟩ := bsome hr
  have h10k := qgc9 (g1 := g1) (v0 := v0) (n0 := n0) (g2 := g2) (g3 := []) (show o0.length = n0 by first | assumption | (simp only [llA, lrA]; first | done | assumption | omega) | omega) h10
  try simp only [go_sem, Nat.reduceAdd, la1, la2, la3, la4, la5, la6] at h10k
  rcases pcA (x6.2 = 0) with h11 | h11
  simp only [h11, if_true] at hr
  obtain rfl := oiA hr
  refine ⟨(.row false 0 1 [[PI x6.2]] :: []), Lim_A is125 (nbA rfl) (e := .ret) (env := [(0, .ref g1.length v0 0 n0), (1, PI s1), (2, PI s2), (3, .fn 84 []), (8, PI x6.1), (9, PI 1), (10, PI (w64 (s2 - s1))), (11, .ptr (g1.length + g2.length + 1) 0 0 0), (12, PI (w64 (s1 + (w64 (x1 * 1))))), (13, PI x6.1), (14, PI (w64 (s1 + (w64 (x1 * 3))))), (55, PI x6.2)]) (h' := (g1 ++ (.row false v0 2 (rowP qb9 o0) :: (g2 ++ (.row false 0 1 [[PI x6.2]] :: []))))) (vs := [PI x6.1, PI 1]) ?_ (.inr rfl) rfl⟩
  rotate_left
  simp only [h11, if_false] at hr
  rcases pcA (x6.2 = 12) with h12 | h12
  simp only [h12, if_true] at hr
  obtain rfl := oiA hr
  refine ⟨(.row false 0 1 [[PI x6.2]] :: []), Lim_A is125 (nbA rfl) (e := .ret) (env := [(0, .ref g1.length v0 0 n0), (1, PI s1), (2, PI s2), (3, .fn 84 []), (8, PI x6.1), (9, PI 2), (10, PI (w64 (s2 - s1))), (11, .ptr (g1.length + g2.length + 1) 0 0 0), (12, PI (w64 (s1 + (w64 (x1 * 1))))), (13, PI x6.1), (14, PI (w64 (s1 + (w64 (x1 * 3))))), (55, PI x6.2)]) (h' := (g1 ++ (.row false v0 2 (rowP qb9 o0) :: (g2 ++ (.row false 0 1 [[PI x6.2]] :: []))))) (vs := [PI x6.1, PI 2]) ?_ (.inr rfl) rfl⟩
  rotate_left
  simp only [h12, if_false] at hr
  obtain rfl := oiA hr
  refine ⟨(.row false 0 1 [[PI x6.2]] :: []), Lim_A is125 (nbA rfl) (e := .ret) (env := [(0, .ref g1.length v0 0 n0), (1, PI s1), (2, PI s2), (3, .fn 84 []), (8, PI x6.1), (9, PI 0), (10, PI (w64 (s2 - s1))), (11, .ptr (g1.length + g2.length + 1) 0 0 0), (12, PI (w64 (s1 + (w64 (x1 * 1))))), (13, PI x6.1), (14, PI (w64 (s1 + (w64 (x1 * 3))))), (55, PI x6.2)]) (h' := (g1 ++ (.row false v0 2 (rowP qb9 o0) :: (g2 ++ (.row false 0 1 [[PI x6.2]] :: []))))) (vs := [PI x6.1, PI 0]) ?_ (.inr rfl) rfl⟩
  rotate_left
  simp only [h2, if_false] at hr
  obtain rfl := oiA hr
  refine ⟨(.row false 0 1 [[PI 0]] :: []), Lim_A is125 (nbA rfl) (e := .ret) (env := [(0, .ref g1.length v0 0 n0), (1, PI s1), (2, PI s2), (3, .fn 84 []), (8, PI (w64 (s1 + (w64 (x1 * 2))))), (9, PI 1), (10, PI (w64 (s2 - s1))), (11, .ptr (g1.length + g2.length + 1) 0 0 0), (12, PI (w64 (s1 + (w64 (x1 * 1))))), (13, PI (w64 (s1 + (w64 (x1 * 2))))), (14, PI (w64 (s1 + (w64 (x1 * 3))))), (55, PI 0)]) (h' := (g1 ++ (.row false v0 2 (rowP qb9 o0) :: (g2 ++ (.row false 0 1 [[PI 0]] :: []))))) (vs := [PI (w64 (s1 + (w64 (x1 * 2)))), PI 1]) ?_ (.inr rfl) rfl⟩
  rotate_left
  all_goals (simp +decide only [go_sem, Int.reduceToNat, Nat.reduceAdd, Nat.reduceLT, Nat.reduceMul, Nat.reducePow, reduceCtorEq, qg9, c125, *])
theorem qgo9 {s1 : Int} {s2 : Int} {o0 : List Bind} {g1 : AHeap} {v0 : Nat} {n0 : Nat} {g2 : AHeap} (hln0 : o0.length = n0) {r : Int × Int} (hr : qbT9 s1 s2 o0 = some r) : ∃ hz : AHeap, callP C (Lim C) 125 [.ref g1.length v0 0 n0, PI s1, PI s2, .fn 84 []] (g1 ++ (.row false v0 2 (rowP qb9 o0) :: g2)) = some (resOf [PI r.1, PI r.2], (g1 ++ (.row false v0 2 (rowP qb9 o0) :: (g2 ++ hz)))) := by
  obtain ⟨hz, h1⟩ := qjt9 hln0 hr (g1 := g1) (v0 := v0) (n0 := n0) (g2 := g2)
  exact ⟨hz, qZ9 rfl rfl rfl h1⟩
def qlw9 : ACode := .seq (.seq (.reg [] [] [.M 13 8, .M 14 9, .K 15 (.bin .lss (.tmp 13) (.tmp 14))]) (.cond (.tmp 15) (some 15) (.skip) (.exit 0))) (.block 1 32768 (.seq (.reg [] [] [.M 16 0, .M 17 8, .M 18 0, .M 19 9, .M 20 0, .M 21 9, ⟨some (22, false), .ix 2 (.tmp 20) (.tmp 21), none, true, false⟩, ⟨some (23, false), .load (some 2) (.tmp 22), none, true, false⟩, .M 24 0, .M 25 8, ⟨some (26, false), .ix 2 (.tmp 24) (.tmp 25), none, true, false⟩, ⟨some (27, false), .load (some 2) (.tmp 26), none, true, false⟩, ⟨some (28, false), .ix 2 (.tmp 16) (.tmp 17), none, true, false⟩, ⟨none, .store 2 (.tmp 28) (.tmp 23), none, false, false⟩, ⟨some (29, false), .ix 2 (.tmp 18) (.tmp 19), none, true, false⟩, ⟨none, .store 2 (.tmp 29) (.tmp 27), none, false, false⟩]) (.seq (.reg [] [] [.M 30 8, .T 31 (.bin .add (.tmp 30) (cI 1)), .N 8 31]) (.reg [] [] [.M 32 9, .T 33 (.bin .sub (.tmp 32) (cI 1)), .N 9 33]))))
def c126 : ACode := .seq (.reg [] [] [.M 10 1, .N 8 10]) (.seq (.reg [] [] [.M 11 2, .T 12 (.bin .sub (.tmp 11) (cI 1)), .N 9 12]) (.block 0 32768 (.loop qlw9)))
theorem is126 : IsF C 126 34 33543 c126 [] := ⟨⟨Tryd.f126, _, C_P ▸ Tryd.func126, rfl, rfl, rfl, by kernel_rfl, rfl⟩⟩
def qbO9 (s1 : Int) (s2 : Int) (g1 : AHeap) (v0 : Nat) (n0 : Nat) (g2 : AHeap) : Int × Int × (List Bind) → Unit → St := fun (s8, s9, o0) _ => ⟨[(0, .ref g1.length v0 0 n0), (1, PI s1), (2, PI s2), (8, PI s8), (9, PI s9)], (g1 ++ (.row false v0 2 (rowP qb9 o0) :: g2))⟩
def qdk9 (s1 : Int) (s2 : Int) (g1 : AHeap) (v0 : Nat) (n0 : Nat) (g2 : AHeap) : Int × Int × (List Bind) → Prop := fun (s8, s9, o0) => o0.length = n0
def qes9 (s1 : Int) (s2 : Int) (g1 : AHeap) (v0 : Nat) (n0 : Nat) (g2 : AHeap) : (Int × Int × (List Bind)) → AExit × St → Prop := fun (s8, s9, o0) q => q = (.exit 0, ⟨[(0, .ref g1.length v0 0 n0), (1, PI s1), (2, PI s2), (8, PI s8), (9, PI s9)], (g1 ++ (.row false v0 2 (rowP qb9 o0) :: g2))⟩) ∧ o0.length = n0
theorem qiL9 (s1 : Int) (s2 : Int) (g1 : AHeap) (v0 : Nat) (n0 : Nat) (g2 : AHeap) : ∀ (s : Int × Int × (List Bind)) (g : Unit) r, qdk9 s1 s2 g1 v0 n0 g2 s → qX9 s1 s2 s = some r → Sum.elim (fun s' => (∃ g', semA C (Lim C) 33543 qlw9 (qbO9 s1 s2 g1 v0 n0 g2 s g) = some (.normal, qbO9 s1 s2 g1 v0 n0 g2 s' g')) ∧ qdk9 s1 s2 g1 v0 n0 g2 s') (fun x => ∃ q, semA C (Lim C) 33543 qlw9 (qbO9 s1 s2 g1 v0 n0 g2 s g) = some q ∧ q.1 ≠ .normal ∧ qes9 s1 s2 g1 v0 n0 g2 x q) r := by
  intro s g r hI hr
  obtain ⟨s8, s9, o0⟩ := s
  simp only [qdk9] at hI
  have hI0 := hI
  simp only [qX9] at hr
  rcases pcA (s8 < s9) with h1 | h1
  simp only [h1, if_true] at hr
  obtain ⟨x1, h2, hr⟩ := bsome hr
  have h2a := eq_true (qc9 h2).1
  have h2b : (s9 < (n0 : Int)) = True := eq_true (by have hb : s9 < (o0.length : Int) := (qc9 h2).2.1; omega)
  have h2c := (qc9 h2).2.2
  obtain ⟨x2, h3, hr⟩ := bsome hr
  have h3a := eq_true (qc9 h3).1
  have h3b : (s8 < (n0 : Int)) = True := eq_true (by have hb : s8 < (o0.length : Int) := (qc9 h3).2.1; omega)
  have h3c := (qc9 h3).2.2
  obtain ⟨x3, h4, hr⟩ := bsome hr
  have h4a := eq_true (qc9 h4).1
  have h4b : (s9 < (n0 : Int)) = True := eq_true (by have hb : s9 < ((o0.set (s8).toNat x1).length : Int) := (qc9 h4).2.1; simp only [llA, lrA] at hb; omega)
  have h4c := (qc9 h4).2.2
  obtain rfl := oiA hr
  refine ⟨⟨(), ?_⟩, (show ((o0.set (s8).toNat x1).set (s9).toNat x2).length = n0 by first | assumption | (simp only [llA, lrA]; first | done | assumption | omega) | omega)⟩
  rotate_left
  simp only [h1, if_false] at hr
  obtain rfl := oiA hr
  refine ⟨(.exit 0, ⟨[(0, .ref g1.length v0 0 n0), (1, PI s1), (2, PI s2), (8, PI s8), (9, PI s9)], (g1 ++ (.row false v0 2 (rowP qb9 o0) :: g2))⟩), ?_, nofun, rfl, (show o0.length = n0 by first | assumption | (simp only [llA, lrA]; first | done | assumption | omega) | omega)⟩
  rotate_left
  all_goals (simp +decide only [go_sem, Int.reduceToNat, Nat.reduceAdd, Nat.reduceLT, Nat.reduceMul, Nat.reducePow, reduceCtorEq, qbO9, qlw9, *])
theorem qiT9 {s1 : Int} {s2 : Int} {g1 : AHeap} {v0 : Nat} {n0 : Nat} {g2 : AHeap} {s : Int × Int × (List Bind)} {g : Unit} {x} (h : wh (qX9 s1 s2) s = some x) (hI : qdk9 s1 s2 g1 v0 n0 g2 s) : ∃ q, qp9 (semA C (Lim C) 33543 qlw9) (qbO9 s1 s2 g1 v0 n0 g2 s g) = some q ∧ qes9 s1 s2 g1 v0 n0 g2 x q := qcp9 (qiL9 s1 s2 g1 v0 n0 g2) hI h
theorem qjn9 {s1 : Int} {s2 : Int} {o0 : List Bind} {g1 : AHeap} {v0 : Nat} {n0 : Nat} {g2 : AHeap} (hln0 : o0.length = n0) {r : (List Bind)} (hr : qbo9 s1 s2 o0 = some r) : Lim C 126 [.ref g1.length v0 0 n0, PI s1, PI s2, .fn 84 []] (g1 ++ (.row false v0 2 (rowP qb9 o0) :: g2)) = some (resOf [], (g1 ++ (.row false v0 2 (rowP qb9 r) :: g2))) ∧ r.length = n0 := by
  simp only [qbo9] at hr
  obtain ⟨x4, h1, hr⟩ := bsome hr
  obtain ⟨q1, h1L, h1X⟩ := qiT9 (g1 := g1) (v0 := v0) (n0 := n0) (g2 := g2) (g := ()) h1 (show o0.length = n0 by first | assumption | (simp only [llA, lrA]; first | done | assumption | omega) | omega)
  obtain ⟨x5, x6, x7⟩ := x4
  simp only [qes9, qbO9] at h1X h1L
  obtain ⟨rfl, h1l0⟩ := h1X
  try simp only [go_sem, Nat.reduceAdd, la1, la2, la3, la4, la5, la6] at h1L
  try simp only [hln0] at h1L
  obtain rfl := oiA hr
  refine ⟨Lim_A is126 (nbA rfl) (e := .normal) (env := [(0, .ref g1.length v0 0 n0), (1, PI s1), (2, PI s2), (8, PI x5), (9, PI x6)]) (h' := (g1 ++ (.row false v0 2 (rowP qb9 x7) :: g2))) (vs := []) ?_ (.inl rfl) rfl, (show x7.length = n0 by first | assumption | (simp only [llA, lrA]; first | done | assumption | omega) | omega)⟩
  rotate_left
  all_goals (simp +decide only [go_sem, Int.reduceToNat, Nat.reduceAdd, Nat.reduceLT, Nat.reduceMul, Nat.reducePow, reduceCtorEq, qg9, c126, *])
theorem qfX9 {s1 : Int} {s2 : Int} {o0 : List Bind} {g1 : AHeap} {v0 : Nat} {n0 : Nat} {g2 : AHeap} (hln0 : o0.length = n0) {r : (List Bind)} (hr : qbo9 s1 s2 o0 = some r) : callP C (Lim C) 126 [.ref g1.length v0 0 n0, PI s1, PI s2, .fn 84 []] (g1 ++ (.row false v0 2 (rowP qb9 o0) :: g2)) = some (resOf [], (g1 ++ (.row false v0 2 (rowP qb9 r) :: g2))) ∧ r.length = n0 := by
  obtain ⟨h1, f0⟩ := qjn9 hln0 hr (g1 := g1) (v0 := v0) (n0 := n0) (g2 := g2)
  exact ⟨qZ9 rfl rfl rfl h1, f0⟩
def qkY9 : ACode := .seq (.seq (.reg [] [] [.M 107 12, .M 108 2, .K 109 (.bin .lss (.tmp 107) (.tmp 108))]) (.cond (.tmp 109) (some 109) (.skip) (.exit 6))) (.seq (.block 7 21268296969665970819914479276526665728 (.seq (.seq (.reg [] [] [.M 112 3, .M 113 0, .M 114 12, ⟨some (115, false), .ix 2 (.tmp 113) (.tmp 114), none, true, false⟩, ⟨some (116, false), .load (some 2) (.tmp 115), none, true, false⟩, .M 117 0, .M 118 12, .T 119 (.bin .sub (.tmp 118) (cI 1)), ⟨some (120, false), .ix 2 (.tmp 117) (.tmp 119), none, true, false⟩, ⟨some (121, false), .load (some 2) (.tmp 120), none, true, false⟩, ⟨some (122, false), .callV (.tmp 112) [.tmp 116, .tmp 121], none, true, false⟩, .T 123 (.bin .lss (.tmp 122) (cI 0)), .K 124 (.not (.tmp 123))]) (.cond (.tmp 124) (some 124) (.exit 6) (.skip))) (.reg [] [] [.M 125 0, .M 126 12, .M 127 0, .M 128 12, .T 129 (.bin .sub (.tmp 128) (cI 1)), .M 130 0, .M 131 12, .T 132 (.bin .sub (.tmp 131) (cI 1)), ⟨some (133, false), .ix 2 (.tmp 130) (.tmp 132), none, true, false⟩, ⟨some (134, false), .load (some 2) (.tmp 133), none, true, false⟩, .M 135 0, .M 136 12, ⟨some (137, false), .ix 2 (.tmp 135) (.tmp 136), none, true, false⟩, ⟨some (138, false), .load (some 2) (.tmp 137), none, true, false⟩, ⟨some (139, false), .ix 2 (.tmp 125) (.tmp 126), none, true, false⟩, ⟨none, .store 2 (.tmp 139) (.tmp 134), none, false, false⟩, ⟨some (140, false), .ix 2 (.tmp 127) (.tmp 129), none, true, false⟩, ⟨none, .store 2 (.tmp 140) (.tmp 138), none, false, false⟩]))) (.reg [] [] [.M 110 12, .T 111 (.bin .add (.tmp 110) (cI 1)), .N 12 111]))
def qkZ9 : ACode := .seq (.seq (.reg [] [] [.M 68 11, .K 69 (.bin .geq (.tmp 68) (cI 1))]) (.cond (.tmp 69) (some 69) (.skip) (.exit 4))) (.seq (.block 5 19343403409644425500950528 (.seq (.seq (.reg [] [] [.M 72 3, .M 73 0, .M 74 11, ⟨some (75, false), .ix 2 (.tmp 73) (.tmp 74), none, true, false⟩, ⟨some (76, false), .load (some 2) (.tmp 75), none, true, false⟩, .M 77 0, .M 78 11, .T 79 (.bin .sub (.tmp 78) (cI 1)), ⟨some (80, false), .ix 2 (.tmp 77) (.tmp 79), none, true, false⟩, ⟨some (81, false), .load (some 2) (.tmp 80), none, true, false⟩, ⟨some (82, false), .callV (.tmp 72) [.tmp 76, .tmp 81], none, true, false⟩, .T 83 (.bin .lss (.tmp 82) (cI 0)), .K 84 (.not (.tmp 83))]) (.cond (.tmp 84) (some 84) (.exit 4) (.skip))) (.reg [] [] [.M 85 0, .M 86 11, .M 87 0, .M 88 11, .T 89 (.bin .sub (.tmp 88) (cI 1)), .M 90 0, .M 91 11, .T 92 (.bin .sub (.tmp 91) (cI 1)), ⟨some (93, false), .ix 2 (.tmp 90) (.tmp 92), none, true, false⟩, ⟨some (94, false), .load (some 2) (.tmp 93), none, true, false⟩, .M 95 0, .M 96 11, ⟨some (97, false), .ix 2 (.tmp 95) (.tmp 96), none, true, false⟩, ⟨some (98, false), .load (some 2) (.tmp 97), none, true, false⟩, ⟨some (99, false), .ix 2 (.tmp 85) (.tmp 86), none, true, false⟩, ⟨none, .store 2 (.tmp 99) (.tmp 94), none, false, false⟩, ⟨some (100, false), .ix 2 (.tmp 87) (.tmp 89), none, true, false⟩, ⟨none, .store 2 (.tmp 100) (.tmp 98), none, false, false⟩]))) (.reg [] [] [.M 70 11, .T 71 (.bin .sub (.tmp 70) (cI 1)), .N 11 71]))
def qlO9 : ACode := .seq (.seq (.reg [] [] [.M 19 9, .M 20 2, .T 21 (.bin .lss (.tmp 19) (.tmp 20)), .M 22 21, .MG 23 22 true 3, .MG 24 22 true 0, .MG 25 22 true 9, ⟨some (26, false), .ix 2 (.tmp 24) (.tmp 25), some (22, true), true, false⟩, ⟨some (27, false), .load (some 2) (.tmp 26), some (22, true), true, false⟩, .MG 28 22 true 0, .MG 29 22 true 9, .TG 30 22 true (.bin .sub (.tmp 29) (cI 1)), ⟨some (31, false), .ix 2 (.tmp 28) (.tmp 30), some (22, true), true, false⟩, ⟨some (32, false), .load (some 2) (.tmp 31), some (22, true), true, false⟩, ⟨some (33, false), .callV (.tmp 23) [.tmp 27, .tmp 32], some (22, true), true, false⟩, .TG 34 22 true (.bin .lss (.tmp 33) (cI 0)), .TG 35 22 true (.not (.tmp 34)), .K 36 (.pick (.tmp 22) (.tmp 35) (.const (.bool false)))]) (.cond (.tmp 36) (some 36) (.skip) (.exit 2))) (.block 3 68719476736 (.reg [] [] [.M 37 9, .T 38 (.bin .add (.tmp 37) (cI 1)), .N 9 38]))
def qlM9 : ACode := .seq (.seq (.reg [] [] [.M 15 10, .K 16 (.bin .lss (.tmp 15) (cI 5))]) (.cond (.tmp 16) (some 16) (.skip) (.exit 0))) (.seq (.block 1 21268317252094917911888073248812898304 (.seq (.block 2 68719542272 (.loop qlO9)) (.seq (.seq (.reg [] [] [.M 39 9, .M 40 2, .K 41 (.bin .eql (.tmp 39) (.tmp 40))]) (.cond (.tmp 41) (some 41) (.seq (.reg [] [] [.K 8 (.mv (.const (.bool true)))]) (.ret)) (.skip))) (.seq (.seq (.reg [] [] [.M 42 2, .M 43 1, .T 44 (.bin .sub (.tmp 42) (.tmp 43)), .K 45 (.bin .lss (.tmp 44) (cI 50))]) (.cond (.tmp 45) (some 45) (.seq (.reg [] [] [.K 8 (.mv (.const (.bool false)))]) (.ret)) (.skip))) (.seq (.reg [] [] [.M 46 0, .M 47 9, .M 48 0, .M 49 9, .T 50 (.bin .sub (.tmp 49) (cI 1)), .M 51 0, .M 52 9, .T 53 (.bin .sub (.tmp 52) (cI 1)), ⟨some (54, false), .ix 2 (.tmp 51) (.tmp 53), none, true, false⟩, ⟨some (55, false), .load (some 2) (.tmp 54), none, true, false⟩, .M 56 0, .M 57 9, ⟨some (58, false), .ix 2 (.tmp 56) (.tmp 57), none, true, false⟩, ⟨some (59, false), .load (some 2) (.tmp 58), none, true, false⟩, ⟨some (60, false), .ix 2 (.tmp 46) (.tmp 47), none, true, false⟩, ⟨none, .store 2 (.tmp 60) (.tmp 55), none, false, false⟩, ⟨some (61, false), .ix 2 (.tmp 48) (.tmp 50), none, true, false⟩, ⟨none, .store 2 (.tmp 61) (.tmp 59), none, false, false⟩]) (.seq (.seq (.reg [] [] [.M 62 9, .M 63 1, .T 64 (.bin .sub (.tmp 62) (.tmp 63)), .K 65 (.bin .geq (.tmp 64) (cI 2))]) (.cond (.tmp 65) (some 65) (.seq (.reg [] [] [.M 66 9, .T 67 (.bin .sub (.tmp 66) (cI 1)), .N 11 67]) (.block 4 19343440303170025034942464 (.loop qkZ9))) (.skip))) (.seq (.reg [] [] [.M 101 2, .M 102 9, .T 103 (.bin .sub (.tmp 101) (.tmp 102)), .K 104 (.bin .geq (.tmp 103) (cI 2))]) (.cond (.tmp 104) (some 104) (.seq (.reg [] [] [.M 105 9, .T 106 (.bin .add (.tmp 105) (cI 1)), .N 12 106]) (.block 6 21268317252094917911888073248812898304 (.loop qkY9))) (.skip))))))))) (.reg [] [] [.M 17 10, .T 18 (.bin .add (.tmp 17) (cI 1)), .N 10 18]))
def c127 : ACode := .seq (.reg [] [] [.K 8 (.mv (.const (.bool false)))]) (.seq (.reg [] [] [.M 13 1, .T 14 (.bin .add (.tmp 13) (cI 1)), .N 9 14]) (.seq (.seq (.reg [] [] [.K 10 (.mv (cI 0))]) (.block 0 21268317252094917911888073248812898304 (.loop qlM9))) (.seq (.reg [] [] [.K 8 (.mv (.const (.bool false)))]) (.ret))))
theorem is127 : IsF C 127 141 21268317252094917911888073248812900111 c127 [.tmp 8] := ⟨⟨Tryd.f127, _, C_P ▸ Tryd.func127, rfl, rfl, rfl, by kernel_rfl, rfl⟩⟩
def qS9 (s1 : Int) (s2 : Int) (s9 : Int) (s10 : Int) (g1 : AHeap) (v0 : Nat) (n0 : Nat) (g2 : AHeap) : Int × (List Bind) → AHeap → St := fun (s12, o0) gt => ⟨[(0, .ref g1.length v0 0 n0), (1, PI s1), (2, PI s2), (3, .fn 84 []), (8, PB false), (9, PI s9), (10, PI s10), (12, PI s12)], (g1 ++ (.row false v0 2 (rowP qb9 o0) :: (g2 ++ gt)))⟩
def qcc9 (s1 : Int) (s2 : Int) (s9 : Int) (s10 : Int) (g1 : AHeap) (v0 : Nat) (n0 : Nat) (g2 : AHeap) : Int × (List Bind) → Prop := fun (s12, o0) => o0.length = n0
def qbZ9 (s1 : Int) (s2 : Int) (s9 : Int) (s10 : Int) (g1 : AHeap) (v0 : Nat) (n0 : Nat) (g2 : AHeap) : ((List Bind)) → AExit × St → Prop := fun o0 q => ∃ d12 : PV, ∃ h1 : AHeap, q = (.exit 6, ⟨[(0, .ref g1.length v0 0 n0), (1, PI s1), (2, PI s2), (3, .fn 84 []), (8, PB false), (9, PI s9), (10, PI s10), (12, d12)], (g1 ++ (.row false v0 2 (rowP qb9 o0) :: (g2 ++ h1)))⟩) ∧ o0.length = n0
theorem qgz9 (s1 : Int) (s2 : Int) (s9 : Int) (s10 : Int) (g1 : AHeap) (v0 : Nat) (n0 : Nat) (g2 : AHeap) : ∀ (s : Int × (List Bind)) (g : AHeap) r, qcc9 s1 s2 s9 s10 g1 v0 n0 g2 s → qw9 s1 s2 s9 s10 s = some r → Sum.elim (fun s' => (∃ g', semA C (Lim C) 21268317252094917911888073248812900111 qkY9 (qS9 s1 s2 s9 s10 g1 v0 n0 g2 s g) = some (.normal, qS9 s1 s2 s9 s10 g1 v0 n0 g2 s' g')) ∧ qcc9 s1 s2 s9 s10 g1 v0 n0 g2 s') (fun x => ∃ q, semA C (Lim C) 21268317252094917911888073248812900111 qkY9 (qS9 s1 s2 s9 s10 g1 v0 n0 g2 s g) = some q ∧ q.1 ≠ .normal ∧ qbZ9 s1 s2 s9 s10 g1 v0 n0 g2 x q) r := by
  intro s g r hI hr
  obtain ⟨s12, o0⟩ := s
  have ⟨gt, hg0⟩ : ∃ y, y = g := ⟨_, rfl⟩
  subst hg0
  simp only [qcc9] at hI
  have hI0 := hI
  simp only [qw9] at hr
  rcases pcA (s12 < s2) with h1 | h1
  simp only [h1, if_true] at hr
  obtain ⟨x26, h2, hr⟩ := bsome hr
  have h2a := eq_true (qc9 h2).1
  have h2b : (s12 < (n0 : Int)) = True := eq_true (by have hb : s12 < (o0.length : Int) := (qc9 h2).2.1; omega)
  have h2c := (qc9 h2).2.2
  obtain ⟨x27, h3, hr⟩ := bsome hr
  have h3a := eq_true (qc9 h3).1
  have h3b : ((w64 (s12 - 1)) < (n0 : Int)) = True := eq_true (by have hb : (w64 (s12 - 1)) < (o0.length : Int) := (qc9 h3).2.1; omega)
  have h3c := (qc9 h3).2.2
  obtain ⟨x28, h4, hr⟩ := bsome hr
  have h4k := fun h => qv9 (h := h) (args := [.ag [PI x26.Var, .d (.rd (x26.T.map intD))], .ag [PI x27.Var, .d (.rd (x27.T.map intD))]]) h4 rfl
  try simp only [go_sem] at h4k
  rcases pcA (x28 < 0) with h5 | h5
  simp only [h5, if_true] at hr
  obtain ⟨x29, h6, hr⟩ := bsome hr
  have h6a := eq_true (qc9 h6).1
  have h6b : ((w64 (s12 - 1)) < (n0 : Int)) = True := eq_true (by have hb : (w64 (s12 - 1)) < ((o0.set (s12).toNat x27).length : Int) := (qc9 h6).2.1; simp only [llA, lrA] at hb; omega)
  have h6c := (qc9 h6).2.2
  obtain rfl := oiA hr
  refine ⟨⟨gt, ?_⟩, (show ((o0.set (s12).toNat x27).set (w64 (s12 - 1)).toNat x26).length = n0 by first | assumption | (simp only [llA, lrA]; first | done | assumption | omega) | omega)⟩
  rotate_left
  simp only [h5, if_false] at hr
  obtain rfl := oiA hr
  refine ⟨(.exit 6, ⟨[(0, .ref g1.length v0 0 n0), (1, PI s1), (2, PI s2), (3, .fn 84 []), (8, PB false), (9, PI s9), (10, PI s10), (12, (PI s12))], (g1 ++ (.row false v0 2 (rowP qb9 o0) :: (g2 ++ gt)))⟩), ?_, nofun, PI s12, gt, rfl, (show o0.length = n0 by first | assumption | (simp only [llA, lrA]; first | done | assumption | omega) | omega)⟩
  rotate_left
  simp only [h1, if_false] at hr
  obtain rfl := oiA hr
  refine ⟨(.exit 6, ⟨[(0, .ref g1.length v0 0 n0), (1, PI s1), (2, PI s2), (3, .fn 84 []), (8, PB false), (9, PI s9), (10, PI s10), (12, (PI s12))], (g1 ++ (.row false v0 2 (rowP qb9 o0) :: (g2 ++ gt)))⟩), ?_, nofun, PI s12, gt, rfl, (show o0.length = n0 by first | assumption | (simp only [llA, lrA]; first | done | assumption | omega) | omega)⟩
  rotate_left
  all_goals (simp +decide only [go_sem, Int.reduceToNat, Nat.reduceAdd, Nat.reduceLT, Nat.reduceMul, Nat.reducePow, reduceCtorEq, qS9, qkY9, *])
theorem qew9 {s1 : Int} {s2 : Int} {s9 : Int} {s10 : Int} {g1 : AHeap} {v0 : Nat} {n0 : Nat} {g2 : AHeap} {s : Int × (List Bind)} {g : AHeap} {x} (h : wh (qw9 s1 s2 s9 s10) s = some x) (hI : qcc9 s1 s2 s9 s10 g1 v0 n0 g2 s) : ∃ q, qp9 (semA C (Lim C) 21268317252094917911888073248812900111 qkY9) (qS9 s1 s2 s9 s10 g1 v0 n0 g2 s g) = some q ∧ qbZ9 s1 s2 s9 s10 g1 v0 n0 g2 x q := qcp9 (qgz9 s1 s2 s9 s10 g1 v0 n0 g2) hI h
def qbd9 (s1 : Int) (s2 : Int) (s9 : Int) (s10 : Int) (g1 : AHeap) (v0 : Nat) (n0 : Nat) (g2 : AHeap) : Int × (List Bind) → AHeap → St := fun (s11, o0) gt => ⟨[(0, .ref g1.length v0 0 n0), (1, PI s1), (2, PI s2), (3, .fn 84 []), (8, PB false), (9, PI s9), (10, PI s10), (11, PI s11)], (g1 ++ (.row false v0 2 (rowP qb9 o0) :: (g2 ++ gt)))⟩
def qbV9 (s1 : Int) (s2 : Int) (s9 : Int) (s10 : Int) (g1 : AHeap) (v0 : Nat) (n0 : Nat) (g2 : AHeap) : Int × (List Bind) → Prop := fun (s11, o0) => o0.length = n0
def qcO9 (s1 : Int) (s2 : Int) (s9 : Int) (s10 : Int) (g1 : AHeap) (v0 : Nat) (n0 : Nat) (g2 : AHeap) : ((List Bind)) → AExit × St → Prop := fun o0 q => ∃ d11 : PV, ∃ h1 : AHeap, q = (.exit 4, ⟨[(0, .ref g1.length v0 0 n0), (1, PI s1), (2, PI s2), (3, .fn 84 []), (8, PB false), (9, PI s9), (10, PI s10), (11, d11)], (g1 ++ (.row false v0 2 (rowP qb9 o0) :: (g2 ++ h1)))⟩) ∧ o0.length = n0
theorem qgD9 (s1 : Int) (s2 : Int) (s9 : Int) (s10 : Int) (g1 : AHeap) (v0 : Nat) (n0 : Nat) (g2 : AHeap) : ∀ (s : Int × (List Bind)) (g : AHeap) r, qbV9 s1 s2 s9 s10 g1 v0 n0 g2 s → qJ9 s1 s2 s9 s10 s = some r → Sum.elim (fun s' => (∃ g', semA C (Lim C) 21268317252094917911888073248812900111 qkZ9 (qbd9 s1 s2 s9 s10 g1 v0 n0 g2 s g) = some (.normal, qbd9 s1 s2 s9 s10 g1 v0 n0 g2 s' g')) ∧ qbV9 s1 s2 s9 s10 g1 v0 n0 g2 s') (fun x => ∃ q, semA C (Lim C) 21268317252094917911888073248812900111 qkZ9 (qbd9 s1 s2 s9 s10 g1 v0 n0 g2 s g) = some q ∧ q.1 ≠ .normal ∧ qcO9 s1 s2 s9 s10 g1 v0 n0 g2 x q) r := by
  intro s g r hI hr
  obtain ⟨s11, o0⟩ := s
  have ⟨gt, hg0⟩ : ∃ y, y = g := ⟨_, rfl⟩
  subst hg0
  simp only [qbV9] at hI
  have hI0 := hI
  simp only [qJ9] at hr
  rcases pcA (1 ≤ s11) with h1 | h1
  simp only [h1, if_true] at hr
  obtain ⟨x10, h2, hr⟩ := bsome hr
  have h2a := eq_true (qc9 h2).1
  have h2b : (s11 < (n0 : Int)) = True := eq_true (by have hb : s11 < (o0.length : Int) := (qc9 h2).2.1; omega)
  have h2c := (qc9 h2).2.2
  obtain ⟨x11, h3, hr⟩ := bsome hr
  have h3a := eq_true (qc9 h3).1
  have h3b : ((w64 (s11 - 1)) < (n0 : Int)) = True := eq_true (by have hb : (w64 (s11 - 1)) < (o0.length : Int) := (qc9 h3).2.1; omega)
  have h3c := (qc9 h3).2.2
  obtain ⟨x12, h4, hr⟩ := bsome hr
  have h4k := fun h => qv9 (h := h) (args := [.ag [PI x10.Var, .d (.rd (x10.T.map intD))], .ag [PI x11.Var, .d (.rd (x11.T.map intD))]]) h4 rfl
  try simp only [go_sem] at h4k
  rcases pcA (x12 < 0) with h5 | h5
  simp only [h5, if_true] at hr
  obtain ⟨x13, h6, hr⟩ := bsome hr
  have h6a := eq_true (qc9 h6).1
  have h6b : ((w64 (s11 - 1)) < (n0 : Int)) = True := eq_true (by have hb : (w64 (s11 - 1)) < ((o0.set (s11).toNat x11).length : Int) := (qc9 h6).2.1; simp only [llA, lrA] at hb; omega)
  have h6c := (qc9 h6).2.2
  obtain rfl := oiA hr
  refine ⟨⟨gt, ?_⟩, (show ((o0.set (s11).toNat x11).set (w64 (s11 - 1)).toNat x10).length = n0 by first | assumption | (simp only [llA, lrA]; first | done | assumption | omega) | omega)⟩
  rotate_left
  simp only [h5, if_false] at hr
  obtain rfl := oiA hr
  refine ⟨(.exit 4, ⟨[(0, .ref g1.length v0 0 n0), (1, PI s1), (2, PI s2), (3, .fn 84 []), (8, PB false), (9, PI s9), (10, PI s10), (11, (PI s11))], (g1 ++ (.row false v0 2 (rowP qb9 o0) :: (g2 ++ gt)))⟩), ?_, nofun, PI s11, gt, rfl, (show o0.length = n0 by first | assumption | (simp only [llA, lrA]; first | done | assumption | omega) | omega)⟩
  rotate_left
  simp only [h1, if_false] at hr
  obtain rfl := oiA hr
  refine ⟨(.exit 4, ⟨[(0, .ref g1.length v0 0 n0), (1, PI s1), (2, PI s2), (3, .fn 84 []), (8, PB false), (9, PI s9), (10, PI s10), (11, (PI s11))], (g1 ++ (.row false v0 2 (rowP qb9 o0) :: (g2 ++ gt)))⟩), ?_, nofun, PI s11, gt, rfl, (show o0.length = n0 by first | assumption | (simp only [llA, lrA]; first | done | assumption | omega) | omega)⟩
  rotate_left
  all_goals (simp +decide only [go_sem, Int.reduceToNat, Nat.reduceAdd, Nat.reduceLT, Nat.reduceMul, Nat.reducePow, reduceCtorEq, qbd9, qkZ9, *])
theorem qgw9 {s1 : Int} {s2 : Int} {s9 : Int} {s10 : Int} {g1 : AHeap} {v0 : Nat} {n0 : Nat} {g2 : AHeap} {s : Int × (List Bind)} {g : AHeap} {x} (h : wh (qJ9 s1 s2 s9 s10) s = some x) (hI : qbV9 s1 s2 s9 s10 g1 v0 n0 g2 s) : ∃ q, qp9 (semA C (Lim C) 21268317252094917911888073248812900111 qkZ9) (qbd9 s1 s2 s9 s10 g1 v0 n0 g2 s g) = some q ∧ qcO9 s1 s2 s9 s10 g1 v0 n0 g2 x q := qcp9 (qgD9 s1 s2 s9 s10 g1 v0 n0 g2) hI h
def qbc9 (s1 : Int) (s2 : Int) (s10 : Int) (o0 : List Bind) (g1 : AHeap) (v0 : Nat) (n0 : Nat) (g2 : AHeap) : Int → AHeap → St := fun s9 gt => ⟨[(0, .ref g1.length v0 0 n0), (1, PI s1), (2, PI s2), (3, .fn 84 []), (8, PB false), (9, PI s9), (10, PI s10)], (g1 ++ (.row false v0 2 (rowP qb9 o0) :: (g2 ++ gt)))⟩
def qbY9 (s1 : Int) (s2 : Int) (s10 : Int) (o0 : List Bind) (g1 : AHeap) (v0 : Nat) (n0 : Nat) (g2 : AHeap) : Int → Prop := fun s9 => o0.length = n0
def qcR9 (s1 : Int) (s2 : Int) (s10 : Int) (o0 : List Bind) (g1 : AHeap) (v0 : Nat) (n0 : Nat) (g2 : AHeap) : Int → AExit × St → Prop := fun s9 q => ∃ h1 : AHeap, q = (.exit 2, ⟨[(0, .ref g1.length v0 0 n0), (1, PI s1), (2, PI s2), (3, .fn 84 []), (8, PB false), (9, PI s9), (10, PI s10)], (g1 ++ (.row false v0 2 (rowP qb9 o0) :: (g2 ++ h1)))⟩)
theorem qgx9 (s1 : Int) (s2 : Int) (s10 : Int) (o0 : List Bind) (g1 : AHeap) (v0 : Nat) (n0 : Nat) (g2 : AHeap) : ∀ (s : Int) (g : AHeap) r, qbY9 s1 s2 s10 o0 g1 v0 n0 g2 s → qC9 s1 s2 s10 o0 s = some r → Sum.elim (fun s' => (∃ g', semA C (Lim C) 21268317252094917911888073248812900111 qlO9 (qbc9 s1 s2 s10 o0 g1 v0 n0 g2 s g) = some (.normal, qbc9 s1 s2 s10 o0 g1 v0 n0 g2 s' g')) ∧ qbY9 s1 s2 s10 o0 g1 v0 n0 g2 s') (fun x => ∃ q, semA C (Lim C) 21268317252094917911888073248812900111 qlO9 (qbc9 s1 s2 s10 o0 g1 v0 n0 g2 s g) = some q ∧ q.1 ≠ .normal ∧ qcR9 s1 s2 s10 o0 g1 v0 n0 g2 x q) r := by
  intro s g r hI hr
  have ⟨s9, hs0⟩ : ∃ y, y = s := ⟨_, rfl⟩
  subst hs0
  have ⟨gt, hg0⟩ : ∃ y, y = g := ⟨_, rfl⟩
  subst hg0
  simp only [qbY9] at hI
  have hI0 := hI
  simp only [qC9] at hr
  rcases pcA (s9 < s2) with h1 | h1
  simp only [h1, if_true] at hr
  obtain ⟨x1, h2, hr⟩ := bsome hr
  have h2a := eq_true (qc9 h2).1
  have h2b : (s9 < (n0 : Int)) = True := eq_true (by have hb : s9 < (o0.length : Int) := (qc9 h2).2.1; omega)
  have h2c := (qc9 h2).2.2
  obtain ⟨x2, h3, hr⟩ := bsome hr
  have h3a := eq_true (qc9 h3).1
  have h3b : ((w64 (s9 - 1)) < (n0 : Int)) = True := eq_true (by have hb : (w64 (s9 - 1)) < (o0.length : Int) := (qc9 h3).2.1; omega)
  have h3c := (qc9 h3).2.2
  obtain ⟨x3, h4, hr⟩ := bsome hr
  have h4k := fun h => qv9 (h := h) (args := [.ag [PI x1.Var, .d (.rd (x1.T.map intD))], .ag [PI x2.Var, .d (.rd (x2.T.map intD))]]) h4 rfl
  try simp only [go_sem] at h4k
  rcases pcA (x3 < 0) with h5 | h5
  simp only [h5, if_true] at hr
  obtain rfl := oiA hr
  refine ⟨(.exit 2, ⟨[(0, .ref g1.length v0 0 n0), (1, PI s1), (2, PI s2), (3, .fn 84 []), (8, PB false), (9, PI s9), (10, PI s10)], (g1 ++ (.row false v0 2 (rowP qb9 o0) :: (g2 ++ gt)))⟩), ?_, nofun, gt, rfl⟩
  rotate_left
  simp only [h5, if_false] at hr
  obtain rfl := oiA hr
  refine ⟨⟨gt, ?_⟩, (show o0.length = n0 by first | assumption | (simp only [llA, lrA]; first | done | assumption | omega) | omega)⟩
  rotate_left
  simp only [h1, if_false] at hr
  obtain rfl := oiA hr
  refine ⟨(.exit 2, ⟨[(0, .ref g1.length v0 0 n0), (1, PI s1), (2, PI s2), (3, .fn 84 []), (8, PB false), (9, PI s9), (10, PI s10)], (g1 ++ (.row false v0 2 (rowP qb9 o0) :: (g2 ++ gt)))⟩), ?_, nofun, gt, rfl⟩
  rotate_left
  all_goals (simp +decide only [go_sem, Int.reduceToNat, Nat.reduceAdd, Nat.reduceLT, Nat.reduceMul, Nat.reducePow, reduceCtorEq, qbc9, qlO9, *])
theorem qgp9 {s1 : Int} {s2 : Int} {s10 : Int} {o0 : List Bind} {g1 : AHeap} {v0 : Nat} {n0 : Nat} {g2 : AHeap} {s : Int} {g : AHeap} {x} (h : wh (qC9 s1 s2 s10 o0) s = some x) (hI : qbY9 s1 s2 s10 o0 g1 v0 n0 g2 s) : ∃ q, qp9 (semA C (Lim C) 21268317252094917911888073248812900111 qlO9) (qbc9 s1 s2 s10 o0 g1 v0 n0 g2 s g) = some q ∧ qcR9 s1 s2 s10 o0 g1 v0 n0 g2 x q := qcp9 (qgx9 s1 s2 s10 o0 g1 v0 n0 g2) hI h
def qT9 (s1 : Int) (s2 : Int) (g1 : AHeap) (v0 : Nat) (n0 : Nat) (g2 : AHeap) : Int × Int × (List Bind) → AHeap → St := fun (s9, s10, o0) gt => ⟨[(0, .ref g1.length v0 0 n0), (1, PI s1), (2, PI s2), (3, .fn 84 []), (8, PB false), (9, PI s9), (10, PI s10)], (g1 ++ (.row false v0 2 (rowP qb9 o0) :: (g2 ++ gt)))⟩
def qbX9 (s1 : Int) (s2 : Int) (g1 : AHeap) (v0 : Nat) (n0 : Nat) (g2 : AHeap) : Int × Int × (List Bind) → Prop := fun (s9, s10, o0) => o0.length = n0
def qca9 (s1 : Int) (s2 : Int) (g1 : AHeap) (v0 : Nat) (n0 : Nat) (g2 : AHeap) : ((Bool × (List Bind)) ⊕ (Int × Int × (List Bind))) → AExit × St → Prop
  | .inl r, q => q.1 = .ret ∧ ∃ hz : AHeap, mapO (resP C.P q.2) [.tmp 8] = some [PB r.1] ∧ q.2.h = (g1 ++ (.row false v0 2 (rowP qb9 r.2) :: (g2 ++ hz))) ∧ r.2.length = n0
  | .inr (s9, s10, o0), q => ∃ h1 : AHeap, q = (.exit 0, ⟨[(0, .ref g1.length v0 0 n0), (1, PI s1), (2, PI s2), (3, .fn 84 []), (8, PB false), (9, PI s9), (10, PI s10)], (g1 ++ (.row false v0 2 (rowP qb9 o0) :: (g2 ++ h1)))⟩) ∧ o0.length = n0
theorem qgq9 (s1 : Int) (s2 : Int) (g1 : AHeap) (v0 : Nat) (n0 : Nat) (g2 : AHeap) : ∀ (s : Int × Int × (List Bind)) (g : AHeap) r, qbX9 s1 s2 g1 v0 n0 g2 s → qI9 s1 s2 s = some r → Sum.elim (fun s' => (∃ g', semA C (Lim C) 21268317252094917911888073248812900111 qlM9 (qT9 s1 s2 g1 v0 n0 g2 s g) = some (.normal, qT9 s1 s2 g1 v0 n0 g2 s' g')) ∧ qbX9 s1 s2 g1 v0 n0 g2 s') (fun x => ∃ q, semA C (Lim C) 21268317252094917911888073248812900111 qlM9 (qT9 s1 s2 g1 v0 n0 g2 s g) = some q ∧ q.1 ≠ .normal ∧ qca9 s1 s2 g1 v0 n0 g2 x q) r := by
  intro s g r hI hr
  obtain ⟨s9, s10, o0⟩ := s
  have ⟨gt, hg0⟩ : ∃ y, y = g := ⟨_, rfl⟩
  subst hg0
  simp only [qbX9] at hI
  have hI0 := hI
  simp only [qI9] at hr
  rcases pcA (s10 < 5) with h1 | h1
  simp only [h1, if_true] at hr
  obtain ⟨x4, h2, hr⟩ := bsome hr
  obtain ⟨q2, h2L, h2X⟩ := qgp9 (g1 := g1) (v0 := v0) (n0 := n0) (g2 := (g2 ++ gt)) (g := []) h2 (show o0.length = n0 by first | assumption | (simp only [llA, lrA]; first | done | assumption | omega) | omega)
  have ⟨x5, hq2⟩ : ∃ y, y = x4 := ⟨_, rfl⟩
  subst hq2
  simp only [qcR9, qbc9] at h2X h2L
  obtain ⟨z6, rfl⟩ := h2X
  try simp only [go_sem, Nat.reduceAdd, la1, la2, la3, la4, la5, la6] at h2L
  try simp only [hI0] at h2L
  rcases pcA (x5 = s2) with h3 | h3
  simp only [h3, if_true] at hr
  obtain rfl := oiA hr
  refine ⟨(.ret, ⟨[(0, .ref g1.length v0 0 n0), (1, PI s1), (2, PI s2), (3, .fn 84 []), (8, PB true), (9, PI x5), (10, PI s10)], (g1 ++ (.row false v0 2 (rowP qb9 o0) :: (g2 ++ (gt ++ z6))))⟩), ?_, nofun, rfl, (gt ++ z6), rfl, rfl, (show o0.length = n0 by first | assumption | (simp only [llA, lrA]; first | done | assumption | omega) | omega)⟩
  rotate_left
  simp only [h3, if_false] at hr
  rcases pcA ((w64 (s2 - s1)) < 50) with h4 | h4
  simp only [h4, if_true] at hr
  obtain rfl := oiA hr
  refine ⟨(.ret, ⟨[(0, .ref g1.length v0 0 n0), (1, PI s1), (2, PI s2), (3, .fn 84 []), (8, PB false), (9, PI x5), (10, PI s10)], (g1 ++ (.row false v0 2 (rowP qb9 o0) :: (g2 ++ (gt ++ z6))))⟩), ?_, nofun, rfl, (gt ++ z6), rfl, rfl, (show o0.length = n0 by first | assumption | (simp only [llA, lrA]; first | done | assumption | omega) | omega)⟩
  rotate_left
  simp only [h4, if_false] at hr
  obtain ⟨x7, h5, hr⟩ := bsome hr
  have h5a := eq_true (qc9 h5).1
  have h5b : ((w64 (x5 - 1)) < (n0 : Int)) = True := eq_true (by have hb : (w64 (x5 - 1)) < (o0.length : Int) := (qc9 h5).2.1; omega)
  have h5c := (qc9 h5).2.2
  obtain ⟨x8, h6, hr⟩ := bsome hr
  have h6a := eq_true (qc9 h6).1
  have h6b : (x5 < (n0 : Int)) = True := eq_true (by have hb : x5 < (o0.length : Int) := (qc9 h6).2.1; omega)
  have h6c := (qc9 h6).2.2
  obtain ⟨x9, h7, hr⟩ := bsome hr
  have h7a := eq_true (qc9 h7).1
  have h7b : ((w64 (x5 - 1)) < (n0 : Int)) = True := eq_true (by have hb : (w64 (x5 - 1)) < ((o0.set (x5).toNat x7).length : Int) := (qc9 h7).2.1; simp only [llA, lrA] at hb; omega)
  have h7c := (qc9 h7).2.2
  rcases pcA (2 ≤ (w64 (x5 - s1))) with h8 | h8
  simp only [h8, if_true] at hr
  obtain ⟨x14, h9, hr⟩ := bsome hr
  obtain ⟨q9, h9L, h9X⟩ := qgw9 (g1 := g1) (v0 := v0) (n0 := n0) (g2 := (g2 ++ (gt ++ z6))) (g := []) h9 (show ((o0.set (x5).toNat x7).set (w64 (x5 - 1)).toNat x8).length = n0 by first | assumption | (simp only [llA, lrA]; first | done | assumption | omega) | omega)
  have ⟨x15, hq9⟩ : ∃ y, y = x14 := ⟨_, rfl⟩
  subst hq9
  simp only [qcO9, qbd9] at h9X h9L
  obtain ⟨z16, z17, rfl, h9l0⟩ := h9X
  try simp only [go_sem, Nat.reduceAdd, la1, la2, la3, la4, la5, la6] at h9L
  try simp only [hI0] at h9L
  rcases pcA (2 ≤ (w64 (s2 - x5))) with h10 | h10
  simp only [h10, if_true] at hr
  obtain ⟨x22, h11, hr⟩ := bsome hr
  obtain ⟨q11, h11L, h11X⟩ := qew9 (g1 := g1) (v0 := v0) (n0 := n0) (g2 := (g2 ++ (gt ++ (z6 ++ z17)))) (g := []) h11 (show x15.length = n0 by first | assumption | (simp only [llA, lrA]; first | done | assumption | omega) | omega)
  have ⟨x23, hq11⟩ : ∃ y, y = x22 := ⟨_, rfl⟩
  subst hq11
  simp only [qbZ9, qS9] at h11X h11L
  obtain ⟨z24, z25, rfl, h11l0⟩ := h11X
  try simp only [go_sem, Nat.reduceAdd, la1, la2, la3, la4, la5, la6] at h11L
  try simp only [hI0] at h11L
  obtain rfl := oiA hr
  refine ⟨⟨(gt ++ (z6 ++ (z17 ++ z25))), ?_⟩, (show x23.length = n0 by first | assumption | (simp only [llA, lrA]; first | done | assumption | omega) | omega)⟩
  rotate_left
  simp only [h10, if_false] at hr
  obtain rfl := oiA hr
  refine ⟨⟨(gt ++ (z6 ++ z17)), ?_⟩, (show x15.length = n0 by first | assumption | (simp only [llA, lrA]; first | done | assumption | omega) | omega)⟩
  rotate_left
  simp only [h8, if_false] at hr
  rcases pcA (2 ≤ (w64 (s2 - x5))) with h12 | h12
  simp only [h12, if_true] at hr
  obtain ⟨x30, h13, hr⟩ := bsome hr
  obtain ⟨q13, h13L, h13X⟩ := qew9 (g1 := g1) (v0 := v0) (n0 := n0) (g2 := (g2 ++ (gt ++ z6))) (g := []) h13 (show ((o0.set (x5).toNat x7).set (w64 (x5 - 1)).toNat x8).length = n0 by first | assumption | (simp only [llA, lrA]; first | done | assumption | omega) | omega)
  have ⟨x31, hq13⟩ : ∃ y, y = x30 := ⟨_, rfl⟩
  subst hq13
  simp only [qbZ9, qS9] at h13X h13L
  obtain ⟨z32, z33, rfl, h13l0⟩ := h13X
  try simp only [go_sem, Nat.reduceAdd, la1, la2, la3, la4, la5, la6] at h13L
  try simp only [hI0] at h13L
  obtain rfl := oiA hr
  refine ⟨⟨(gt ++ (z6 ++ z33)), ?_⟩, (show x31.length = n0 by first | assumption | (simp only [llA, lrA]; first | done | assumption | omega) | omega)⟩
  rotate_left
  simp only [h12, if_false] at hr
  obtain rfl := oiA hr
  refine ⟨⟨(gt ++ z6), ?_⟩, (show ((o0.set (x5).toNat x7).set (w64 (x5 - 1)).toNat x8).length = n0 by first | assumption | (simp only [llA, lrA]; first | done | assumption | omega) | omega)⟩
  rotate_left
  simp only [h1, if_false] at hr
  obtain rfl := oiA hr
  refine ⟨(.exit 0, ⟨[(0, .ref g1.length v0 0 n0), (1, PI s1), (2, PI s2), (3, .fn 84 []), (8, PB false), (9, PI s9), (10, PI s10)], (g1 ++ (.row false v0 2 (rowP qb9 o0) :: (g2 ++ gt)))⟩), ?_, nofun, gt, rfl, (show o0.length = n0 by first | assumption | (simp only [llA, lrA]; first | done | assumption | omega) | omega)⟩
  rotate_left
  all_goals (simp +decide only [go_sem, Int.reduceToNat, Nat.reduceAdd, Nat.reduceLT, Nat.reduceMul, Nat.reducePow, reduceCtorEq, qT9, qlM9, *])
theorem qgr9 {s1 : Int} {s2 : Int} {g1 : AHeap} {v0 : Nat} {n0 : Nat} {g2 : AHeap} {s : Int × Int × (List Bind)} {g : AHeap} {x} (h : wh (qI9 s1 s2) s = some x) (hI : qbX9 s1 s2 g1 v0 n0 g2 s) : ∃ q, qp9 (semA C (Lim C) 21268317252094917911888073248812900111 qlM9) (qT9 s1 s2 g1 v0 n0 g2 s g) = some q ∧ qca9 s1 s2 g1 v0 n0 g2 x q := qcp9 (qgq9 s1 s2 g1 v0 n0 g2) hI h
theorem qgN9 {s1 : Int} {s2 : Int} {o0 : List Bind} {g1 : AHeap} {v0 : Nat} {n0 : Nat} {g2 : AHeap} (hln0 : o0.length = n0) {r : Bool × (List Bind)} (hr : qO9 s1 s2 o0 = some r) : ∃ hz : AHeap, Lim C 127 [.ref g1.length v0 0 n0, PI s1, PI s2, .fn 84 []] (g1 ++ (.row false v0 2 (rowP qb9 o0) :: g2)) = some (resOf [PB r.1], (g1 ++ (.row false v0 2 (rowP qb9 r.2) :: (g2 ++ hz)))) ∧ r.2.length = n0 := by
  simp only [qO9] at hr
  obtain ⟨x34, h1, hr⟩ := bsome hr
  obtain ⟨q1, h1L, h1X⟩ := qgr9 (g1 := g1) (v0 := v0) (n0 := n0) (g2 := g2) (g := []) h1 (show o0.length = n0 by first | assumption | (simp only [llA, lrA]; first | done | assumption | omega) | omega)
  rcases x34 with x35 | ⟨x36, x37, x38⟩
  simp only [qca9, qT9] at h1X h1L
  obtain ⟨e1, st1⟩ := q1
  obtain ⟨rfl, h1R⟩ := h1X
  obtain ⟨env1, hp1⟩ := st1
  obtain ⟨y2, h1v, h1h, h1f0⟩ := h1R
  replace h1h : hp1 = _ := h1h
  subst h1h
  try simp only [go_sem, Nat.reduceAdd, la1, la2, la3, la4, la5, la6] at h1L
  try simp only [hln0] at h1L
  obtain rfl := oiA hr
  refine ⟨y2, Lim_A is127 (nbA rfl) (e := .ret) (env := env1) ?_ (.inr rfl) h1v, h1f0⟩
  rotate_left
  simp only [qca9, qT9] at h1X h1L
  obtain ⟨z39, rfl, h1l0⟩ := h1X
  try simp only [go_sem, Nat.reduceAdd, la1, la2, la3, la4, la5, la6] at h1L
  try simp only [hln0] at h1L
  obtain rfl := oiA hr
  refine ⟨z39, Lim_A is127 (nbA rfl) (e := .ret) (env := [(0, .ref g1.length v0 0 n0), (1, PI s1), (2, PI s2), (3, .fn 84 []), (8, PB false), (9, PI x36), (10, PI x37)]) (h' := (g1 ++ (.row false v0 2 (rowP qb9 x38) :: (g2 ++ z39)))) (vs := [PB false]) ?_ (.inr rfl) rfl, (show x38.length = n0 by first | assumption | (simp only [llA, lrA]; first | done | assumption | omega) | omega)⟩
  rotate_left
  all_goals (simp +decide only [go_sem, Int.reduceToNat, Nat.reduceAdd, Nat.reduceLT, Nat.reduceMul, Nat.reducePow, reduceCtorEq, qg9, c127, *])
theorem qeG9 {s1 : Int} {s2 : Int} {o0 : List Bind} {g1 : AHeap} {v0 : Nat} {n0 : Nat} {g2 : AHeap} (hln0 : o0.length = n0) {r : Bool × (List Bind)} (hr : qO9 s1 s2 o0 = some r) : ∃ hz : AHeap, callP C (Lim C) 127 [.ref g1.length v0 0 n0, PI s1, PI s2, .fn 84 []] (g1 ++ (.row false v0 2 (rowP qb9 o0) :: g2)) = some (resOf [PB r.1], (g1 ++ (.row false v0 2 (rowP qb9 r.2) :: (g2 ++ hz)))) ∧ r.2.length = n0 := by
  obtain ⟨hz, h1, f0⟩ := qgN9 hln0 hr (g1 := g1) (v0 := v0) (n0 := n0) (g2 := g2)
  exact ⟨hz, qZ9 rfl rfl rfl h1, f0⟩
def qlz9 : ACode := .seq (.seq (.reg [] [] [.M 123 12, .M 124 13, .T 125 (.bin .leq (.tmp 123) (.tmp 124)), .M 126 125, .MG 127 126 true 4, .MG 128 126 true 0, .MG 129 126 true 13, ⟨some (130, false), .ix 2 (.tmp 128) (.tmp 129), some (126, true), true, false⟩, ⟨some (131, false), .load (some 2) (.tmp 130), some (126, true), true, false⟩, .MG 132 126 true 0, .MG 133 126 true 1, ⟨some (134, false), .ix 2 (.tmp 132) (.tmp 133), some (126, true), true, false⟩, ⟨some (135, false), .load (some 2) (.tmp 134), some (126, true), true, false⟩, ⟨some (136, false), .callV (.tmp 127) [.tmp 131, .tmp 135], some (126, true), true, false⟩, .TG 137 126 true (.bin .lss (.tmp 136) (cI 0)), .TG 138 126 true (.not (.tmp 137)), .K 139 (.pick (.tmp 126) (.tmp 138) (.const (.bool false)))]) (.cond (.tmp 139) (some 139) (.skip) (.exit 8))) (.block 9 696898287454081973172991196020261297061888 (.reg [] [] [.M 140 13, .T 141 (.bin .sub (.tmp 140) (cI 1)), .N 13 141]))
def qlb9 : ACode := .seq (.seq (.reg [] [] [.M 105 12, .M 106 13, .T 107 (.bin .leq (.tmp 105) (.tmp 106)), .M 108 107, .MG 109 108 true 4, .MG 110 108 true 0, .MG 111 108 true 12, ⟨some (112, false), .ix 2 (.tmp 110) (.tmp 111), some (108, true), true, false⟩, ⟨some (113, false), .load (some 2) (.tmp 112), some (108, true), true, false⟩, .MG 114 108 true 0, .MG 115 108 true 1, ⟨some (116, false), .ix 2 (.tmp 114) (.tmp 115), some (108, true), true, false⟩, ⟨some (117, false), .load (some 2) (.tmp 116), some (108, true), true, false⟩, ⟨some (118, false), .callV (.tmp 109) [.tmp 113, .tmp 117], some (108, true), true, false⟩, .TG 119 108 true (.bin .lss (.tmp 118) (cI 0)), .K 120 (.pick (.tmp 108) (.tmp 119) (.const (.bool false)))]) (.cond (.tmp 120) (some 120) (.skip) (.exit 6))) (.block 7 1329227995784915872903807060280344576 (.reg [] [] [.M 121 12, .T 122 (.bin .add (.tmp 121) (cI 1)), .N 12 122]))
def qlA9 : ACode := .block 5 22997644815212700899624582372475683083386880 (.seq (.block 6 1329227995784915872903807060280344576 (.loop qlb9)) (.seq (.block 8 696899616682077758088864099827321577406464 (.loop qlz9)) (.seq (.seq (.reg [] [] [.M 142 12, .M 143 13, .K 144 (.bin .gtr (.tmp 142) (.tmp 143))]) (.cond (.tmp 144) (some 144) (.exit 4) (.skip))) (.seq (.reg [] [] [.M 145 0, .M 146 12, .M 147 0, .M 148 13, .M 149 0, .M 150 13, ⟨some (151, false), .ix 2 (.tmp 149) (.tmp 150), none, true, false⟩, ⟨some (152, false), .load (some 2) (.tmp 151), none, true, false⟩, .M 153 0, .M 154 12, ⟨some (155, false), .ix 2 (.tmp 153) (.tmp 154), none, true, false⟩, ⟨some (156, false), .load (some 2) (.tmp 155), none, true, false⟩, ⟨some (157, false), .ix 2 (.tmp 145) (.tmp 146), none, true, false⟩, ⟨none, .store 2 (.tmp 157) (.tmp 152), none, false, false⟩, ⟨some (158, false), .ix 2 (.tmp 147) (.tmp 148), none, true, false⟩, ⟨none, .store 2 (.tmp 158) (.tmp 156), none, false, false⟩]) (.seq (.reg [] [] [.M 159 12, .T 160 (.bin .add (.tmp 159) (cI 1)), .N 12 160]) (.reg [] [] [.M 161 13, .T 162 (.bin .sub (.tmp 161) (cI 1)), .N 13 162]))))))
def qle9 : ACode := .seq (.seq (.reg [] [] [.M 50 12, .M 51 13, .T 52 (.bin .leq (.tmp 50) (.tmp 51)), .M 53 52, .MG 54 53 true 4, .MG 55 53 true 0, .MG 56 53 true 13, ⟨some (57, false), .ix 2 (.tmp 55) (.tmp 56), some (53, true), true, false⟩, ⟨some (58, false), .load (some 2) (.tmp 57), some (53, true), true, false⟩, .MG 59 53 true 0, .MG 60 53 true 1, ⟨some (61, false), .ix 2 (.tmp 59) (.tmp 60), some (53, true), true, false⟩, ⟨some (62, false), .load (some 2) (.tmp 61), some (53, true), true, false⟩, ⟨some (63, false), .callV (.tmp 54) [.tmp 58, .tmp 62], some (53, true), true, false⟩, .TG 64 53 true (.bin .lss (.tmp 63) (cI 0)), .TG 65 53 true (.not (.tmp 64)), .K 66 (.pick (.tmp 53) (.tmp 65) (.const (.bool false)))]) (.cond (.tmp 66) (some 66) (.skip) (.exit 2))) (.block 3 73786976294838206464 (.reg [] [] [.M 67 13, .T 68 (.bin .sub (.tmp 67) (cI 1)), .N 13 68]))
def qli9 : ACode := .seq (.seq (.reg [] [] [.M 32 12, .M 33 13, .T 34 (.bin .leq (.tmp 32) (.tmp 33)), .M 35 34, .MG 36 35 true 4, .MG 37 35 true 0, .MG 38 35 true 12, ⟨some (39, false), .ix 2 (.tmp 37) (.tmp 38), some (35, true), true, false⟩, ⟨some (40, false), .load (some 2) (.tmp 39), some (35, true), true, false⟩, .MG 41 35 true 0, .MG 42 35 true 1, ⟨some (43, false), .ix 2 (.tmp 41) (.tmp 42), some (35, true), true, false⟩, ⟨some (44, false), .load (some 2) (.tmp 43), some (35, true), true, false⟩, ⟨some (45, false), .callV (.tmp 36) [.tmp 40, .tmp 44], some (35, true), true, false⟩, .TG 46 35 true (.bin .lss (.tmp 45) (cI 0)), .K 47 (.pick (.tmp 35) (.tmp 46) (.const (.bool false)))]) (.cond (.tmp 47) (some 47) (.skip) (.exit 0))) (.block 1 140737488355328 (.reg [] [] [.M 48 12, .T 49 (.bin .add (.tmp 48) (cI 1)), .N 12 49]))
def c129 : ACode := .seq (.reg [] [] [.K 10 (.mv (cI 0)), .K 11 (.mv (.const (.bool false)))]) (.seq (.reg [] [] [.M 14 0, .M 15 1, .M 16 0, .M 17 3, .M 18 0, .M 19 3, ⟨some (20, false), .ix 2 (.tmp 18) (.tmp 19), none, true, false⟩, ⟨some (21, false), .load (some 2) (.tmp 20), none, true, false⟩, .M 22 0, .M 23 1, ⟨some (24, false), .ix 2 (.tmp 22) (.tmp 23), none, true, false⟩, ⟨some (25, false), .load (some 2) (.tmp 24), none, true, false⟩, ⟨some (26, false), .ix 2 (.tmp 14) (.tmp 15), none, true, false⟩, ⟨none, .store 2 (.tmp 26) (.tmp 21), none, false, false⟩, ⟨some (27, false), .ix 2 (.tmp 16) (.tmp 17), none, true, false⟩, ⟨none, .store 2 (.tmp 27) (.tmp 25), none, false, false⟩]) (.seq (.reg [] [] [.M 28 1, .T 29 (.bin .add (.tmp 28) (cI 1)), .M 30 2, .T 31 (.bin .sub (.tmp 30) (cI 1)), .N 12 29, .N 13 31]) (.seq (.block 0 140737488355328 (.loop qli9)) (.seq (.block 2 73786976294838206464 (.loop qle9)) (.seq (.seq (.reg [] [] [.M 69 12, .M 70 13, .K 71 (.bin .gtr (.tmp 69) (.tmp 70))]) (.cond (.tmp 71) (some 71) (.seq (.reg [] [] [.M 72 0, .M 73 13, .M 74 0, .M 75 1, .M 76 0, .M 77 1, ⟨some (78, false), .ix 2 (.tmp 76) (.tmp 77), none, true, false⟩, ⟨some (79, false), .load (some 2) (.tmp 78), none, true, false⟩, .M 80 0, .M 81 13, ⟨some (82, false), .ix 2 (.tmp 80) (.tmp 81), none, true, false⟩, ⟨some (83, false), .load (some 2) (.tmp 82), none, true, false⟩, ⟨some (84, false), .ix 2 (.tmp 72) (.tmp 73), none, true, false⟩, ⟨none, .store 2 (.tmp 84) (.tmp 79), none, false, false⟩, ⟨some (85, false), .ix 2 (.tmp 74) (.tmp 75), none, true, false⟩, ⟨none, .store 2 (.tmp 85) (.tmp 83), none, false, false⟩]) (.seq (.reg [] [] [.M 86 13, .N 10 86, .K 11 (.mv (.const (.bool true)))]) (.ret))) (.skip))) (.seq (.reg [] [] [.M 87 0, .M 88 12, .M 89 0, .M 90 13, .M 91 0, .M 92 13, ⟨some (93, false), .ix 2 (.tmp 91) (.tmp 92), none, true, false⟩, ⟨some (94, false), .load (some 2) (.tmp 93), none, true, false⟩, .M 95 0, .M 96 12, ⟨some (97, false), .ix 2 (.tmp 95) (.tmp 96), none, true, false⟩, ⟨some (98, false), .load (some 2) (.tmp 97), none, true, false⟩, ⟨some (99, false), .ix 2 (.tmp 87) (.tmp 88), none, true, false⟩, ⟨none, .store 2 (.tmp 99) (.tmp 94), none, false, false⟩, ⟨some (100, false), .ix 2 (.tmp 89) (.tmp 90), none, true, false⟩, ⟨none, .store 2 (.tmp 100) (.tmp 98), none, false, false⟩]) (.seq (.reg [] [] [.M 101 12, .T 102 (.bin .add (.tmp 101) (cI 1)), .N 12 102]) (.seq (.reg [] [] [.M 103 13, .T 104 (.bin .sub (.tmp 103) (cI 1)), .N 13 104]) (.seq (.block 4 22997644815212700899624582372475683083386880 (.loop qlA9)) (.seq (.reg [] [] [.M 163 0, .M 164 13, .M 165 0, .M 166 1, .M 167 0, .M 168 1, ⟨some (169, false), .ix 2 (.tmp 167) (.tmp 168), none, true, false⟩, ⟨some (170, false), .load (some 2) (.tmp 169), none, true, false⟩, .M 171 0, .M 172 13, ⟨some (173, false), .ix 2 (.tmp 171) (.tmp 172), none, true, false⟩, ⟨some (174, false), .load (some 2) (.tmp 173), none, true, false⟩, ⟨some (175, false), .ix 2 (.tmp 163) (.tmp 164), none, true, false⟩, ⟨none, .store 2 (.tmp 175) (.tmp 170), none, false, false⟩, ⟨some (176, false), .ix 2 (.tmp 165) (.tmp 166), none, true, false⟩, ⟨none, .store 2 (.tmp 176) (.tmp 174), none, false, false⟩]) (.seq (.reg [] [] [.M 177 13, .N 10 177, .K 11 (.mv (.const (.bool false)))]) (.ret))))))))))))
theorem is129 : IsF C 129 178 22997644815212700899627017342834150232570911 c129 [.tmp 10, .tmp 11] := ⟨⟨Tryd.f129, _, C_P ▸ Tryd.func129, rfl, rfl, rfl, by kernel_rfl, rfl⟩⟩
def qcq9 (s1 : Int) (s2 : Int) (s3 : Int) (s12 : Int) (o0 : List Bind) (g1 : AHeap) (v0 : Nat) (n0 : Nat) (g2 : AHeap) : Int → AHeap → St := fun s13 gt => ⟨[(0, .ref g1.length v0 0 n0), (1, PI s1), (2, PI s2), (3, PI s3), (4, .fn 84 []), (10, PI 0), (11, PB false), (12, PI s12), (13, PI s13)], (g1 ++ (.row false v0 2 (rowP qb9 o0) :: (g2 ++ gt)))⟩
def qdF9 (s1 : Int) (s2 : Int) (s3 : Int) (s12 : Int) (o0 : List Bind) (g1 : AHeap) (v0 : Nat) (n0 : Nat) (g2 : AHeap) : Int → Prop := fun s13 => o0.length = n0
def qfb9 (s1 : Int) (s2 : Int) (s3 : Int) (s12 : Int) (o0 : List Bind) (g1 : AHeap) (v0 : Nat) (n0 : Nat) (g2 : AHeap) : Int → AExit × St → Prop := fun s13 q => ∃ h1 : AHeap, q = (.exit 8, ⟨[(0, .ref g1.length v0 0 n0), (1, PI s1), (2, PI s2), (3, PI s3), (4, .fn 84 []), (10, PI 0), (11, PB false), (12, PI s12), (13, PI s13)], (g1 ++ (.row false v0 2 (rowP qb9 o0) :: (g2 ++ h1)))⟩)
theorem qjL9 (s1 : Int) (s2 : Int) (s3 : Int) (s12 : Int) (o0 : List Bind) (g1 : AHeap) (v0 : Nat) (n0 : Nat) (g2 : AHeap) : ∀ (s : Int) (g : AHeap) r, qdF9 s1 s2 s3 s12 o0 g1 v0 n0 g2 s → qcv9 s1 s2 s3 s12 o0 s = some r → Sum.elim (fun s' => (∃ g', semA C (Lim C) 22997644815212700899627017342834150232570911 qlz9 (qcq9 s1 s2 s3 s12 o0 g1 v0 n0 g2 s g) = some (.normal, qcq9 s1 s2 s3 s12 o0 g1 v0 n0 g2 s' g')) ∧ qdF9 s1 s2 s3 s12 o0 g1 v0 n0 g2 s') (fun x => ∃ q, semA C (Lim C) 22997644815212700899627017342834150232570911 qlz9 (qcq9 s1 s2 s3 s12 o0 g1 v0 n0 g2 s g) = some q ∧ q.1 ≠ .normal ∧ qfb9 s1 s2 s3 s12 o0 g1 v0 n0 g2 x q) r := by
  intro s g r hI hr
  have ⟨s13, hs0⟩ : ∃ y, y = s := ⟨_, rfl⟩
  subst hs0
  have ⟨gt, hg0⟩ : ∃ y, y = g := ⟨_, rfl⟩
  subst hg0
  simp only [qdF9] at hI
  have hI0 := hI
  simp only [qcv9] at hr
  rcases pcA (s12 ≤ s13) with h1 | h1
  simp only [h1, if_true] at hr
  obtain ⟨x28, h2, hr⟩ := bsome hr
  have h2a := eq_true (qc9 h2).1
  have h2b : (s13 < (n0 : Int)) = True := eq_true (by have hb : s13 < (o0.length : Int) := (qc9 h2).2.1; omega)
  have h2c := (qc9 h2).2.2
  obtain ⟨x29, h3, hr⟩ := bsome hr
  have h3a := eq_true (qc9 h3).1
  have h3b : (s1 < (n0 : Int)) = True := eq_true (by have hb : s1 < (o0.length : Int) := (qc9 h3).2.1; omega)
  have h3c := (qc9 h3).2.2
  obtain ⟨x30, h4, hr⟩ := bsome hr
  have h4k := fun h => qv9 (h := h) (args := [.ag [PI x28.Var, .d (.rd (x28.T.map intD))], .ag [PI x29.Var, .d (.rd (x29.T.map intD))]]) h4 rfl
  try simp only [go_sem] at h4k
  rcases pcA (x30 < 0) with h5 | h5
  simp only [h5, if_true] at hr
  obtain rfl := oiA hr
  refine ⟨(.exit 8, ⟨[(0, .ref g1.length v0 0 n0), (1, PI s1), (2, PI s2), (3, PI s3), (4, .fn 84 []), (10, PI 0), (11, PB false), (12, PI s12), (13, PI s13)], (g1 ++ (.row false v0 2 (rowP qb9 o0) :: (g2 ++ gt)))⟩), ?_, nofun, gt, rfl⟩
  rotate_left
  simp only [h5, if_false] at hr
  obtain rfl := oiA hr
  refine ⟨⟨gt, ?_⟩, (show o0.length = n0 by first | assumption | (simp only [llA, lrA]; first | done | assumption | omega) | omega)⟩
  rotate_left
  simp only [h1, if_false] at hr
  obtain rfl := oiA hr
  refine ⟨(.exit 8, ⟨[(0, .ref g1.length v0 0 n0), (1, PI s1), (2, PI s2), (3, PI s3), (4, .fn 84 []), (10, PI 0), (11, PB false), (12, PI s12), (13, PI s13)], (g1 ++ (.row false v0 2 (rowP qb9 o0) :: (g2 ++ gt)))⟩), ?_, nofun, gt, rfl⟩
  rotate_left
  all_goals (simp +decide only [go_sem, Int.reduceToNat, Nat.reduceAdd, Nat.reduceLT, Nat.reduceMul, Nat.reducePow, reduceCtorEq, qcq9, qlz9, *])
theorem qjP9 {s1 : Int} {s2 : Int} {s3 : Int} {s12 : Int} {o0 : List Bind} {g1 : AHeap} {v0 : Nat} {n0 : Nat} {g2 : AHeap} {s : Int} {g : AHeap} {x} (h : wh (qcv9 s1 s2 s3 s12 o0) s = some x) (hI : qdF9 s1 s2 s3 s12 o0 g1 v0 n0 g2 s) : ∃ q, qp9 (semA C (Lim C) 22997644815212700899627017342834150232570911 qlz9) (qcq9 s1 s2 s3 s12 o0 g1 v0 n0 g2 s g) = some q ∧ qfb9 s1 s2 s3 s12 o0 g1 v0 n0 g2 x q := qcp9 (qjL9 s1 s2 s3 s12 o0 g1 v0 n0 g2) hI h
def qcr9 (s1 : Int) (s2 : Int) (s3 : Int) (s13 : Int) (o0 : List Bind) (g1 : AHeap) (v0 : Nat) (n0 : Nat) (g2 : AHeap) : Int → AHeap → St := fun s12 gt => ⟨[(0, .ref g1.length v0 0 n0), (1, PI s1), (2, PI s2), (3, PI s3), (4, .fn 84 []), (10, PI 0), (11, PB false), (12, PI s12), (13, PI s13)], (g1 ++ (.row false v0 2 (rowP qb9 o0) :: (g2 ++ gt)))⟩
def qdG9 (s1 : Int) (s2 : Int) (s3 : Int) (s13 : Int) (o0 : List Bind) (g1 : AHeap) (v0 : Nat) (n0 : Nat) (g2 : AHeap) : Int → Prop := fun s12 => o0.length = n0
def qeZ9 (s1 : Int) (s2 : Int) (s3 : Int) (s13 : Int) (o0 : List Bind) (g1 : AHeap) (v0 : Nat) (n0 : Nat) (g2 : AHeap) : Int → AExit × St → Prop := fun s12 q => ∃ h1 : AHeap, q = (.exit 6, ⟨[(0, .ref g1.length v0 0 n0), (1, PI s1), (2, PI s2), (3, PI s3), (4, .fn 84 []), (10, PI 0), (11, PB false), (12, PI s12), (13, PI s13)], (g1 ++ (.row false v0 2 (rowP qb9 o0) :: (g2 ++ h1)))⟩)
theorem qjD9 (s1 : Int) (s2 : Int) (s3 : Int) (s13 : Int) (o0 : List Bind) (g1 : AHeap) (v0 : Nat) (n0 : Nat) (g2 : AHeap) : ∀ (s : Int) (g : AHeap) r, qdG9 s1 s2 s3 s13 o0 g1 v0 n0 g2 s → qct9 s1 s2 s3 s13 o0 s = some r → Sum.elim (fun s' => (∃ g', semA C (Lim C) 22997644815212700899627017342834150232570911 qlb9 (qcr9 s1 s2 s3 s13 o0 g1 v0 n0 g2 s g) = some (.normal, qcr9 s1 s2 s3 s13 o0 g1 v0 n0 g2 s' g')) ∧ qdG9 s1 s2 s3 s13 o0 g1 v0 n0 g2 s') (fun x => ∃ q, semA C (Lim C) 22997644815212700899627017342834150232570911 qlb9 (qcr9 s1 s2 s3 s13 o0 g1 v0 n0 g2 s g) = some q ∧ q.1 ≠ .normal ∧ qeZ9 s1 s2 s3 s13 o0 g1 v0 n0 g2 x q) r := by
  intro s g r hI hr
  have ⟨s12, hs0⟩ : ∃ y, y = s := ⟨_, rfl⟩
  subst hs0
  have ⟨gt, hg0⟩ : ∃ y, y = g := ⟨_, rfl⟩
  subst hg0
  simp only [qdG9] at hI
  have hI0 := hI
  simp only [qct9] at hr
  rcases pcA (s12 ≤ s13) with h1 | h1
  simp only [h1, if_true] at hr
  obtain ⟨x22, h2, hr⟩ := bsome hr
  have h2a := eq_true (qc9 h2).1
  have h2b : (s12 < (n0 : Int)) = True := eq_true (by have hb : s12 < (o0.length : Int) := (qc9 h2).2.1; omega)
  have h2c := (qc9 h2).2.2
  obtain ⟨x23, h3, hr⟩ := bsome hr
  have h3a := eq_true (qc9 h3).1
  have h3b : (s1 < (n0 : Int)) = True := eq_true (by have hb : s1 < (o0.length : Int) := (qc9 h3).2.1; omega)
  have h3c := (qc9 h3).2.2
  obtain ⟨x24, h4, hr⟩ := bsome hr
  have h4k := fun h => qv9 (h := h) (args := [.ag [PI x22.Var, .d (.rd (x22.T.map intD))], .ag [PI x23.Var, .d (.rd (x23.T.map intD))]]) h4 rfl
  try simp only [go_sem] at h4k
  rcases pcA (x24 < 0) with h5 | h5
  simp only [h5, if_true] at hr
  obtain rfl := oiA hr
  refine ⟨⟨gt, ?_⟩, (show o0.length = n0 by first | assumption | (simp only [llA, lrA]; first | done | assumption | omega) | omega)⟩
  rotate_left
  simp only [h5, if_false] at hr
  obtain rfl := oiA hr
  refine ⟨(.exit 6, ⟨[(0, .ref g1.length v0 0 n0), (1, PI s1), (2, PI s2), (3, PI s3), (4, .fn 84 []), (10, PI 0), (11, PB false), (12, PI s12), (13, PI s13)], (g1 ++ (.row false v0 2 (rowP qb9 o0) :: (g2 ++ gt)))⟩), ?_, nofun, gt, rfl⟩
  rotate_left
  simp only [h1, if_false] at hr
  obtain rfl := oiA hr
  refine ⟨(.exit 6, ⟨[(0, .ref g1.length v0 0 n0), (1, PI s1), (2, PI s2), (3, PI s3), (4, .fn 84 []), (10, PI 0), (11, PB false), (12, PI s12), (13, PI s13)], (g1 ++ (.row false v0 2 (rowP qb9 o0) :: (g2 ++ gt)))⟩), ?_, nofun, gt, rfl⟩
  rotate_left
  all_goals (simp +decide only [go_sem, Int.reduceToNat, Nat.reduceAdd, Nat.reduceLT, Nat.reduceMul, Nat.reducePow, reduceCtorEq, qcr9, qlb9, *])
theorem qjH9 {s1 : Int} {s2 : Int} {s3 : Int} {s13 : Int} {o0 : List Bind} {g1 : AHeap} {v0 : Nat} {n0 : Nat} {g2 : AHeap} {s : Int} {g : AHeap} {x} (h : wh (qct9 s1 s2 s3 s13 o0) s = some x) (hI : qdG9 s1 s2 s3 s13 o0 g1 v0 n0 g2 s) : ∃ q, qp9 (semA C (Lim C) 22997644815212700899627017342834150232570911 qlb9) (qcr9 s1 s2 s3 s13 o0 g1 v0 n0 g2 s g) = some q ∧ qeZ9 s1 s2 s3 s13 o0 g1 v0 n0 g2 x q := qcp9 (qjD9 s1 s2 s3 s13 o0 g1 v0 n0 g2) hI h
def qck9 (s1 : Int) (s2 : Int) (s3 : Int) (g1 : AHeap) (v0 : Nat) (n0 : Nat) (g2 : AHeap) : Int × Int × (List Bind) → AHeap → St := fun (s12, s13, o0) gt => ⟨[(0, .ref g1.length v0 0 n0), (1, PI s1), (2, PI s2), (3, PI s3), (4, .fn 84 []), (10, PI 0), (11, PB false), (12, PI s12), (13, PI s13)], (g1 ++ (.row false v0 2 (rowP qb9 o0) :: (g2 ++ gt)))⟩
def qdJ9 (s1 : Int) (s2 : Int) (s3 : Int) (g1 : AHeap) (v0 : Nat) (n0 : Nat) (g2 : AHeap) : Int × Int × (List Bind) → Prop := fun (s12, s13, o0) => o0.length = n0
def qeW9 (s1 : Int) (s2 : Int) (s3 : Int) (g1 : AHeap) (v0 : Nat) (n0 : Nat) (g2 : AHeap) : (Int × Int × (List Bind)) → AExit × St → Prop := fun (s12, s13, o0) q => ∃ h1 : AHeap, q = (.exit 4, ⟨[(0, .ref g1.length v0 0 n0), (1, PI s1), (2, PI s2), (3, PI s3), (4, .fn 84 []), (10, PI 0), (11, PB false), (12, PI s12), (13, PI s13)], (g1 ++ (.row false v0 2 (rowP qb9 o0) :: (g2 ++ h1)))⟩) ∧ o0.length = n0
theorem qjQ9 (s1 : Int) (s2 : Int) (s3 : Int) (g1 : AHeap) (v0 : Nat) (n0 : Nat) (g2 : AHeap) : ∀ (s : Int × Int × (List Bind)) (g : AHeap) r, qdJ9 s1 s2 s3 g1 v0 n0 g2 s → qbf9 s1 s2 s3 s = some r → Sum.elim (fun s' => (∃ g', semA C (Lim C) 22997644815212700899627017342834150232570911 qlA9 (qck9 s1 s2 s3 g1 v0 n0 g2 s g) = some (.normal, qck9 s1 s2 s3 g1 v0 n0 g2 s' g')) ∧ qdJ9 s1 s2 s3 g1 v0 n0 g2 s') (fun x => ∃ q, semA C (Lim C) 22997644815212700899627017342834150232570911 qlA9 (qck9 s1 s2 s3 g1 v0 n0 g2 s g) = some q ∧ q.1 ≠ .normal ∧ qeW9 s1 s2 s3 g1 v0 n0 g2 x q) r := by
  intro s g r hI hr
  obtain ⟨s12, s13, o0⟩ := s
  have ⟨gt, hg0⟩ : ∃ y, y = g := ⟨_, rfl⟩
  subst hg0
  simp only [qdJ9] at hI
  have hI0 := hI
  simp only [qbf9] at hr
  obtain ⟨x25, h1, hr⟩ := bsome hr
  obtain ⟨q1, h1L, h1X⟩ := qjH9 (g1 := g1) (v0 := v0) (n0 := n0) (g2 := (g2 ++ gt)) (g := []) h1 (show o0.length = n0 by first | assumption | (simp only [llA, lrA]; first | done | assumption | omega) | omega)
  have ⟨x26, hq1⟩ : ∃ y, y = x25 := ⟨_, rfl⟩
  subst hq1
  simp only [qeZ9, qcr9] at h1X h1L
  obtain ⟨z27, rfl⟩ := h1X
  try simp only [go_sem, Nat.reduceAdd, la1, la2, la3, la4, la5, la6] at h1L
  try simp only [hI0] at h1L
  obtain ⟨x31, h2, hr⟩ := bsome hr
  obtain ⟨q2, h2L, h2X⟩ := qjP9 (g1 := g1) (v0 := v0) (n0 := n0) (g2 := (g2 ++ (gt ++ z27))) (g := []) h2 (show o0.length = n0 by first | assumption | (simp only [llA, lrA]; first | done | assumption | omega) | omega)
  have ⟨x32, hq2⟩ : ∃ y, y = x31 := ⟨_, rfl⟩
  subst hq2
  simp only [qfb9, qcq9] at h2X h2L
  obtain ⟨z33, rfl⟩ := h2X
  try simp only [go_sem, Nat.reduceAdd, la1, la2, la3, la4, la5, la6] at h2L
  try simp only [hI0] at h2L
  rcases pcA (x32 < x26) with h3 | h3
  simp only [h3, if_true] at hr
  obtain rfl := oiA hr
  refine ⟨(.exit 4, ⟨[(0, .ref g1.length v0 0 n0), (1, PI s1), (2, PI s2), (3, PI s3), (4, .fn 84 []), (10, PI 0), (11, PB false), (12, PI x26), (13, PI x32)], (g1 ++ (.row false v0 2 (rowP qb9 o0) :: (g2 ++ (gt ++ (z27 ++ z33)))))⟩), ?_, nofun, (gt ++ (z27 ++ z33)), rfl, (show o0.length = n0 by first | assumption | (simp only [llA, lrA]; first | done | assumption | omega) | omega)⟩
  rotate_left
  simp only [h3, if_false] at hr
  obtain ⟨x34, h4, hr⟩ := bsome hr
  have h4a := eq_true (qc9 h4).1
  have h4b : (x32 < (n0 : Int)) = True := eq_true (by have hb : x32 < (o0.length : Int) := (qc9 h4).2.1; omega)
  have h4c := (qc9 h4).2.2
  obtain ⟨x35, h5, hr⟩ := bsome hr
  have h5a := eq_true (qc9 h5).1
  have h5b : (x26 < (n0 : Int)) = True := eq_true (by have hb : x26 < (o0.length : Int) := (qc9 h5).2.1; omega)
  have h5c := (qc9 h5).2.2
  obtain ⟨x36, h6, hr⟩ := bsome hr
  have h6a := eq_true (qc9 h6).1
  have h6b : (x32 < (n0 : Int)) = True := eq_true (by have hb : x32 < ((o0.set (x26).toNat x34).length : Int) := (qc9 h6).2.1; simp only [llA, lrA] at hb; omega)
  have h6c := (qc9 h6).2.2
  obtain rfl := oiA hr
  refine ⟨⟨(gt ++ (z27 ++ z33)), ?_⟩, (show ((o0.set (x26).toNat x34).set (x32).toNat x35).length = n0 by first | assumption | (simp only [llA, lrA]; first | done | assumption | omega) | omega)⟩
  rotate_left
  all_goals (simp +decide only [go_sem, Int.reduceToNat, Nat.reduceAdd, Nat.reduceLT, Nat.reduceMul, Nat.reducePow, reduceCtorEq, qck9, qlA9, *])
theorem qjJ9 {s1 : Int} {s2 : Int} {s3 : Int} {g1 : AHeap} {v0 : Nat} {n0 : Nat} {g2 : AHeap} {s : Int × Int × (List Bind)} {g : AHeap} {x} (h : wh (qbf9 s1 s2 s3) s = some x) (hI : qdJ9 s1 s2 s3 g1 v0 n0 g2 s) : ∃ q, qp9 (semA C (Lim C) 22997644815212700899627017342834150232570911 qlA9) (qck9 s1 s2 s3 g1 v0 n0 g2 s g) = some q ∧ qeW9 s1 s2 s3 g1 v0 n0 g2 x q := qcp9 (qjQ9 s1 s2 s3 g1 v0 n0 g2) hI h
def qcl9 (s1 : Int) (s2 : Int) (s3 : Int) (s12 : Int) (o0 : List Bind) (g1 : AHeap) (v0 : Nat) (n0 : Nat) (g2 : AHeap) : Int → AHeap → St := fun s13 gt => ⟨[(0, .ref g1.length v0 0 n0), (1, PI s1), (2, PI s2), (3, PI s3), (4, .fn 84 []), (10, PI 0), (11, PB false), (12, PI s12), (13, PI s13)], (g1 ++ (.row false v0 2 (rowP qb9 o0) :: (g2 ++ gt)))⟩
def qdI9 (s1 : Int) (s2 : Int) (s3 : Int) (s12 : Int) (o0 : List Bind) (g1 : AHeap) (v0 : Nat) (n0 : Nat) (g2 : AHeap) : Int → Prop := fun s13 => o0.length = n0
def qeV9 (s1 : Int) (s2 : Int) (s3 : Int) (s12 : Int) (o0 : List Bind) (g1 : AHeap) (v0 : Nat) (n0 : Nat) (g2 : AHeap) : Int → AExit × St → Prop := fun s13 q => ∃ h1 : AHeap, q = (.exit 2, ⟨[(0, .ref g1.length v0 0 n0), (1, PI s1), (2, PI s2), (3, PI s3), (4, .fn 84 []), (10, PI 0), (11, PB false), (12, PI s12), (13, PI s13)], (g1 ++ (.row false v0 2 (rowP qb9 o0) :: (g2 ++ h1)))⟩)
theorem qjT9 (s1 : Int) (s2 : Int) (s3 : Int) (s12 : Int) (o0 : List Bind) (g1 : AHeap) (v0 : Nat) (n0 : Nat) (g2 : AHeap) : ∀ (s : Int) (g : AHeap) r, qdI9 s1 s2 s3 s12 o0 g1 v0 n0 g2 s → qco9 s1 s2 s3 s12 o0 s = some r → Sum.elim (fun s' => (∃ g', semA C (Lim C) 22997644815212700899627017342834150232570911 qle9 (qcl9 s1 s2 s3 s12 o0 g1 v0 n0 g2 s g) = some (.normal, qcl9 s1 s2 s3 s12 o0 g1 v0 n0 g2 s' g')) ∧ qdI9 s1 s2 s3 s12 o0 g1 v0 n0 g2 s') (fun x => ∃ q, semA C (Lim C) 22997644815212700899627017342834150232570911 qle9 (qcl9 s1 s2 s3 s12 o0 g1 v0 n0 g2 s g) = some q ∧ q.1 ≠ .normal ∧ qeV9 s1 s2 s3 s12 o0 g1 v0 n0 g2 x q) r := by
  intro s g r hI hr
  have ⟨s13, hs0⟩ : ∃ y, y = s := ⟨_, rfl⟩
  subst hs0
  have ⟨gt, hg0⟩ : ∃ y, y = g := ⟨_, rfl⟩
  subst hg0
  simp only [qdI9] at hI
  have hI0 := hI
  simp only [qco9] at hr
  rcases pcA (s12 ≤ s13) with h1 | h1
  simp only [h1, if_true] at hr
  obtain ⟨x10, h2, hr⟩ := bsome hr
  have h2a := eq_true (qc9 h2).1
  have h2b : (s13 < (n0 : Int)) = True := eq_true (by have hb : s13 < (o0.length : Int) := (qc9 h2).2.1; omega)
  have h2c := (qc9 h2).2.2
  obtain ⟨x11, h3, hr⟩ := bsome hr
  have h3a := eq_true (qc9 h3).1
  have h3b : (s1 < (n0 : Int)) = True := eq_true (by have hb : s1 < (o0.length : Int) := (qc9 h3).2.1; omega)
  have h3c := (qc9 h3).2.2
  obtain ⟨x12, h4, hr⟩ := bsome hr
  have h4k := fun h => qv9 (h := h) (args := [.ag [PI x10.Var, .d (.rd (x10.T.map intD))], .ag [PI x11.Var, .d (.rd (x11.T.map intD))]]) h4 rfl
  try simp only [go_sem] at h4k
  rcases pcA (x12 < 0) with h5 | h5
  simp only [h5, if_true] at hr
  obtain rfl := oiA hr
  refine ⟨(.exit 2, ⟨[(0, .ref g1.length v0 0 n0), (1, PI s1), (2, PI s2), (3, PI s3), (4, .fn 84 []), (10, PI 0), (11, PB false), (12, PI s12), (13, PI s13)], (g1 ++ (.row false v0 2 (rowP qb9 o0) :: (g2 ++ gt)))⟩), ?_, nofun, gt, rfl⟩
  rotate_left
  simp only [h5, if_false] at hr
  obtain rfl := oiA hr
  refine ⟨⟨gt, ?_⟩, (show o0.length = n0 by first | assumption | (simp only [llA, lrA]; first | done | assumption | omega) | omega)⟩
  rotate_left
  simp only [h1, if_false] at hr
  obtain rfl := oiA hr
  refine ⟨(.exit 2, ⟨[(0, .ref g1.length v0 0 n0), (1, PI s1), (2, PI s2), (3, PI s3), (4, .fn 84 []), (10, PI 0), (11, PB false), (12, PI s12), (13, PI s13)], (g1 ++ (.row false v0 2 (rowP qb9 o0) :: (g2 ++ gt)))⟩), ?_, nofun, gt, rfl⟩
  rotate_left
  all_goals (simp +decide only [go_sem, Int.reduceToNat, Nat.reduceAdd, Nat.reduceLT, Nat.reduceMul, Nat.reducePow, reduceCtorEq, qcl9, qle9, *])
theorem qjU9 {s1 : Int} {s2 : Int} {s3 : Int} {s12 : Int} {o0 : List Bind} {g1 : AHeap} {v0 : Nat} {n0 : Nat} {g2 : AHeap} {s : Int} {g : AHeap} {x} (h : wh (qco9 s1 s2 s3 s12 o0) s = some x) (hI : qdI9 s1 s2 s3 s12 o0 g1 v0 n0 g2 s) : ∃ q, qp9 (semA C (Lim C) 22997644815212700899627017342834150232570911 qle9) (qcl9 s1 s2 s3 s12 o0 g1 v0 n0 g2 s g) = some q ∧ qeV9 s1 s2 s3 s12 o0 g1 v0 n0 g2 x q := qcp9 (qjT9 s1 s2 s3 s12 o0 g1 v0 n0 g2) hI h
def qcn9 (s1 : Int) (s2 : Int) (s3 : Int) (s13 : Int) (o0 : List Bind) (g1 : AHeap) (v0 : Nat) (n0 : Nat) (g2 : AHeap) : Int → AHeap → St := fun s12 gt => ⟨[(0, .ref g1.length v0 0 n0), (1, PI s1), (2, PI s2), (3, PI s3), (4, .fn 84 []), (10, PI 0), (11, PB false), (12, PI s12), (13, PI s13)], (g1 ++ (.row false v0 2 (rowP qb9 o0) :: (g2 ++ gt)))⟩
def qdH9 (s1 : Int) (s2 : Int) (s3 : Int) (s13 : Int) (o0 : List Bind) (g1 : AHeap) (v0 : Nat) (n0 : Nat) (g2 : AHeap) : Int → Prop := fun s12 => o0.length = n0
def qfa9 (s1 : Int) (s2 : Int) (s3 : Int) (s13 : Int) (o0 : List Bind) (g1 : AHeap) (v0 : Nat) (n0 : Nat) (g2 : AHeap) : Int → AExit × St → Prop := fun s12 q => ∃ h1 : AHeap, q = (.exit 0, ⟨[(0, .ref g1.length v0 0 n0), (1, PI s1), (2, PI s2), (3, PI s3), (4, .fn 84 []), (10, PI 0), (11, PB false), (12, PI s12), (13, PI s13)], (g1 ++ (.row false v0 2 (rowP qb9 o0) :: (g2 ++ h1)))⟩)
theorem qjO9 (s1 : Int) (s2 : Int) (s3 : Int) (s13 : Int) (o0 : List Bind) (g1 : AHeap) (v0 : Nat) (n0 : Nat) (g2 : AHeap) : ∀ (s : Int) (g : AHeap) r, qdH9 s1 s2 s3 s13 o0 g1 v0 n0 g2 s → qcs9 s1 s2 s3 s13 o0 s = some r → Sum.elim (fun s' => (∃ g', semA C (Lim C) 22997644815212700899627017342834150232570911 qli9 (qcn9 s1 s2 s3 s13 o0 g1 v0 n0 g2 s g) = some (.normal, qcn9 s1 s2 s3 s13 o0 g1 v0 n0 g2 s' g')) ∧ qdH9 s1 s2 s3 s13 o0 g1 v0 n0 g2 s') (fun x => ∃ q, semA C (Lim C) 22997644815212700899627017342834150232570911 qli9 (qcn9 s1 s2 s3 s13 o0 g1 v0 n0 g2 s g) = some q ∧ q.1 ≠ .normal ∧ qfa9 s1 s2 s3 s13 o0 g1 v0 n0 g2 x q) r := by
  intro s g r hI hr
  have ⟨s12, hs0⟩ : ∃ y, y = s := ⟨_, rfl⟩
  subst hs0
  have ⟨gt, hg0⟩ : ∃ y, y = g := ⟨_, rfl⟩
  subst hg0
  simp only [qdH9] at hI
  have hI0 := hI
  simp only [qcs9] at hr
  rcases pcA (s12 ≤ s13) with h1 | h1
  simp only [h1, if_true] at hr
  obtain ⟨x4, h2, hr⟩ := bsome hr
  have h2a := eq_true (qc9 h2).1
  have h2b : (s12 < (n0 : Int)) = True := eq_true (by have hb : s12 < (o0.length : Int) := (qc9 h2).2.1; omega)
  have h2c := (qc9 h2).2.2
  obtain ⟨x5, h3, hr⟩ := bsome hr
  have h3a := eq_true (qc9 h3).1
  have h3b : (s1 < (n0 : Int)) = True := eq_true (by have hb : s1 < (o0.length : Int) := (qc9 h3).2.1; omega)
  have h3c := (qc9 h3).2.2
  obtain ⟨x6, h4, hr⟩ := bsome hr
  have h4k := fun h => qv9 (h := h) (args := [.ag [PI x4.Var, .d (.rd (x4.T.map intD))], .ag [PI x5.Var, .d (.rd (x5.T.map intD))]]) h4 rfl
  try simp only [go_sem] at h4k
  rcases pcA (x6 < 0) with h5 | h5
  simp only [h5, if_true] at hr
  obtain rfl := oiA hr
  refine ⟨⟨gt, ?_⟩, (show o0.length = n0 by first | assumption | (simp only [llA, lrA]; first | done | assumption | omega) | omega)⟩
  rotate_left
  simp only [h5, if_false] at hr
  obtain rfl := oiA hr
  refine ⟨(.exit 0, ⟨[(0, .ref g1.length v0 0 n0), (1, PI s1), (2, PI s2), (3, PI s3), (4, .fn 84 []), (10, PI 0), (11, PB false), (12, PI s12), (13, PI s13)], (g1 ++ (.row false v0 2 (rowP qb9 o0) :: (g2 ++ gt)))⟩), ?_, nofun, gt, rfl⟩
  rotate_left
  simp only [h1, if_false] at hr
  obtain rfl := oiA hr
  refine ⟨(.exit 0, ⟨[(0, .ref g1.length v0 0 n0), (1, PI s1), (2, PI s2), (3, PI s3), (4, .fn 84 []), (10, PI 0), (11, PB false), (12, PI s12), (13, PI s13)], (g1 ++ (.row false v0 2 (rowP qb9 o0) :: (g2 ++ gt)))⟩), ?_, nofun, gt, rfl⟩
  rotate_left
  all_goals (simp +decide only [go_sem, Int.reduceToNat, Nat.reduceAdd, Nat.reduceLT, Nat.reduceMul, Nat.reducePow, reduceCtorEq, qcn9, qli9, *])
theorem qjR9 {s1 : Int} {s2 : Int} {s3 : Int} {s13 : Int} {o0 : List Bind} {g1 : AHeap} {v0 : Nat} {n0 : Nat} {g2 : AHeap} {s : Int} {g : AHeap} {x} (h : wh (qcs9 s1 s2 s3 s13 o0) s = some x) (hI : qdH9 s1 s2 s3 s13 o0 g1 v0 n0 g2 s) : ∃ q, qp9 (semA C (Lim C) 22997644815212700899627017342834150232570911 qli9) (qcn9 s1 s2 s3 s13 o0 g1 v0 n0 g2 s g) = some q ∧ qfa9 s1 s2 s3 s13 o0 g1 v0 n0 g2 x q := qcp9 (qjO9 s1 s2 s3 s13 o0 g1 v0 n0 g2) hI h
theorem qkf9 {s1 : Int} {s2 : Int} {s3 : Int} {o0 : List Bind} {g1 : AHeap} {v0 : Nat} {n0 : Nat} {g2 : AHeap} (hln0 : o0.length = n0) {r : Int × Bool × (List Bind)} (hr : qt9 s1 s2 s3 o0 = some r) : ∃ hz : AHeap, Lim C 129 [.ref g1.length v0 0 n0, PI s1, PI s2, PI s3, .fn 84 []] (g1 ++ (.row false v0 2 (rowP qb9 o0) :: g2)) = some (resOf [PI r.1, PB r.2.1], (g1 ++ (.row false v0 2 (rowP qb9 r.2.2) :: (g2 ++ hz)))) ∧ r.2.2.length = n0 := by
  simp only [qt9] at hr
  obtain ⟨x1, h1, hr⟩ := bsome hr
  have h1a := eq_true (qc9 h1).1
  have h1b : (s3 < (n0 : Int)) = True := eq_true (by have hb : s3 < (o0.length : Int) := (qc9 h1).2.1; omega)
  have h1c := (qc9 h1).2.2
  obtain ⟨x2, h2, hr⟩ := bsome hr
  have h2a := eq_true (qc9 h2).1
  have h2b : (s1 < (n0 : Int)) = True := eq_true (by have hb : s1 < (o0.length : Int) := (qc9 h2).2.1; omega)
  have h2c := (qc9 h2).2.2
  obtain ⟨x3, h3, hr⟩ := bsome hr
  have h3a := eq_true (qc9 h3).1
  have h3b : (s3 < (n0 : Int)) = True := eq_true (by have hb : s3 < ((o0.set (s1).toNat x1).length : Int) := (qc9 h3).2.1; simp only [llA, lrA] at hb; omega)
  have h3c := (qc9 h3).2.2
  obtain ⟨x7, h4, hr⟩ := bsome hr
  obtain ⟨q4, h4L, h4X⟩ := qjR9 (g1 := g1) (v0 := v0) (n0 := n0) (g2 := g2) (g := []) h4 (show ((o0.set (s1).toNat x1).set (s3).toNat x2).length = n0 by first | assumption | (simp only [llA, lrA]; first | done | assumption | omega) | omega)
  have ⟨x8, hq4⟩ : ∃ y, y = x7 := ⟨_, rfl⟩
  subst hq4
  simp only [qfa9, qcn9] at h4X h4L
  obtain ⟨z9, rfl⟩ := h4X
  try simp only [go_sem, Nat.reduceAdd, la1, la2, la3, la4, la5, la6] at h4L
  try simp only [hln0] at h4L
  obtain ⟨x13, h5, hr⟩ := bsome hr
  obtain ⟨q5, h5L, h5X⟩ := qjU9 (g1 := g1) (v0 := v0) (n0 := n0) (g2 := (g2 ++ z9)) (g := []) h5 (show ((o0.set (s1).toNat x1).set (s3).toNat x2).length = n0 by first | assumption | (simp only [llA, lrA]; first | done | assumption | omega) | omega)
  have ⟨x14, hq5⟩ : ∃ y, y = x13 := ⟨_, rfl⟩
  subst hq5
  simp only [qeV9, qcl9] at h5X h5L
  obtain ⟨z15, rfl⟩ := h5X
  try simp only [go_sem, Nat.reduceAdd, la1, la2, la3, la4, la5, la6] at h5L
  try simp only [hln0] at h5L
  rcases pcA (x14 < x8) with h6 | h6
  simp only [h6, if_true] at hr
  obtain ⟨x16, h7, hr⟩ := bsome hr
  have h7a := eq_true (qc9 h7).1
  have h7b : (s1 < (n0 : Int)) = True := eq_true (by have hb : s1 < (((o0.set (s1).toNat x1).set (s3).toNat x2).length : Int) := (qc9 h7).2.1; simp only [llA, lrA] at hb; omega)
  have h7c := (qc9 h7).2.2
  obtain ⟨x17, h8, hr⟩ := bsome hr
  have h8a := eq_true (qc9 h8).1
  have h8b : (x14 < (n0 : Int)) = True := eq_true (by have hb : x14 < (((o0.set (s1).toNat x1).set (s3).toNat x2).length : Int) := (qc9 h8).2.1; simp only [llA, lrA] at hb; omega)
  have h8c := (qc9 h8).2.2
  obtain ⟨x18, h9, hr⟩ := bsome hr
  have h9a := eq_true (qc9 h9).1
  have h9b : (s1 < (n0 : Int)) = True := eq_true (by have hb : s1 < ((((o0.set (s1).toNat x1).set (s3).toNat x2).set (x14).toNat x16).length : Int) := (qc9 h9).2.1; simp only [llA, lrA] at hb; omega)
  have h9c := (qc9 h9).2.2
  obtain rfl := oiA hr
  refine ⟨(z9 ++ z15), Lim_A is129 (nbA rfl) (e := .ret) (env := [(0, .ref g1.length v0 0 n0), (1, PI s1), (2, PI s2), (3, PI s3), (4, .fn 84 []), (10, PI x14), (11, PB true), (12, PI x8), (13, PI x14)]) (h' := (g1 ++ (.row false v0 2 (rowP qb9 ((((o0.set (s1).toNat x1).set (s3).toNat x2).set (x14).toNat x16).set (s1).toNat x17)) :: (g2 ++ (z9 ++ z15))))) (vs := [PI x14, PB true]) ?_ (.inr rfl) rfl, (show ((((o0.set (s1).toNat x1).set (s3).toNat x2).set (x14).toNat x16).set (s1).toNat x17).length = n0 by first | assumption | (simp only [llA, lrA]; first | done | assumption | omega) | omega)⟩
  rotate_left
  simp only [h6, if_false] at hr
  obtain ⟨x19, h10, hr⟩ := bsome hr
  have h10a := eq_true (qc9 h10).1
  have h10b : (x14 < (n0 : Int)) = True := eq_true (by have hb : x14 < (((o0.set (s1).toNat x1).set (s3).toNat x2).length : Int) := (qc9 h10).2.1; simp only [llA, lrA] at hb; omega)
  have h10c := (qc9 h10).2.2
  obtain ⟨x20, h11, hr⟩ := bsome hr
  have h11a := eq_true (qc9 h11).1
  have h11b : (x8 < (n0 : Int)) = True := eq_true (by have hb : x8 < (((o0.set (s1).toNat x1).set (s3).toNat x2).length : Int) := (qc9 h11).2.1; simp only [llA, lrA] at hb; omega)
  have h11c := (qc9 h11).2.2
  obtain ⟨x21, h12, hr⟩ := bsome hr
  have h12a := eq_true (qc9 h12).1
  have h12b : (x14 < (n0 : Int)) = True := eq_true (by have hb : x14 < ((((o0.set (s1).toNat x1).set (s3).toNat x2).set (x8).toNat x19).length : Int) := (qc9 h12).2.1; simp only [llA, lrA] at hb; omega)
  have h12c := (qc9 h12).2.2
  obtain ⟨x37, h13, hr⟩ := bsome hr
  obtain ⟨q13, h13L, h13X⟩ := qjJ9 (g1 := g1) (v0 := v0) (n0 := n0) (g2 := (g2 ++ (z9 ++ z15))) (g := []) h13 (show ((((o0.set (s1).toNat x1).set (s3).toNat x2).set (x8).toNat x19).set (x14).toNat x20).length = n0 by first | assumption | (simp only [llA, lrA]; first | done | assumption | omega) | omega)
  obtain ⟨x38, x39, x40⟩ := x37
  simp only [qeW9, qck9] at h13X h13L
  obtain ⟨z41, rfl, h13l0⟩ := h13X
  try simp only [go_sem, Nat.reduceAdd, la1, la2, la3, la4, la5, la6] at h13L
  try simp only [hln0] at h13L
  obtain ⟨x42, h14, hr⟩ := bsome hr
  have h14a := eq_true (qc9 h14).1
  have h14b : (s1 < (n0 : Int)) = True := eq_true (by have hb : s1 < (x40.length : Int) := (qc9 h14).2.1; omega)
  have h14c := (qc9 h14).2.2
  obtain ⟨x43, h15, hr⟩ := bsome hr
  have h15a := eq_true (qc9 h15).1
  have h15b : (x39 < (n0 : Int)) = True := eq_true (by have hb : x39 < (x40.length : Int) := (qc9 h15).2.1; omega)
  have h15c := (qc9 h15).2.2
  obtain ⟨x44, h16, hr⟩ := bsome hr
  have h16a := eq_true (qc9 h16).1
  have h16b : (s1 < (n0 : Int)) = True := eq_true (by have hb : s1 < ((x40.set (x39).toNat x42).length : Int) := (qc9 h16).2.1; simp only [llA, lrA] at hb; omega)
  have h16c := (qc9 h16).2.2
  obtain rfl := oiA hr
  refine ⟨(z9 ++ (z15 ++ z41)), Lim_A is129 (nbA rfl) (e := .ret) (env := [(0, .ref g1.length v0 0 n0), (1, PI s1), (2, PI s2), (3, PI s3), (4, .fn 84 []), (10, PI x39), (11, PB false), (12, PI x38), (13, PI x39)]) (h' := (g1 ++ (.row false v0 2 (rowP qb9 ((x40.set (x39).toNat x42).set (s1).toNat x43)) :: (g2 ++ (z9 ++ (z15 ++ z41)))))) (vs := [PI x39, PB false]) ?_ (.inr rfl) rfl, (show ((x40.set (x39).toNat x42).set (s1).toNat x43).length = n0 by first | assumption | (simp only [llA, lrA]; first | done | assumption | omega) | omega)⟩
  rotate_left
  all_goals (simp +decide only [go_sem, Int.reduceToNat, Nat.reduceAdd, Nat.reduceLT, Nat.reduceMul, Nat.reducePow, reduceCtorEq, qg9, c129, *])
theorem qE9 {s1 : Int} {s2 : Int} {s3 : Int} {o0 : List Bind} {g1 : AHeap} {v0 : Nat} {n0 : Nat} {g2 : AHeap} (hln0 : o0.length = n0) {r : Int × Bool × (List Bind)} (hr : qt9 s1 s2 s3 o0 = some r) : ∃ hz : AHeap, callP C (Lim C) 129 [.ref g1.length v0 0 n0, PI s1, PI s2, PI s3, .fn 84 []] (g1 ++ (.row false v0 2 (rowP qb9 o0) :: g2)) = some (resOf [PI r.1, PB r.2.1], (g1 ++ (.row false v0 2 (rowP qb9 r.2.2) :: (g2 ++ hz)))) ∧ r.2.2.length = n0 := by
  obtain ⟨hz, h1, f0⟩ := qkf9 hln0 hr (g1 := g1) (v0 := v0) (n0 := n0) (g2 := g2)
  exact ⟨hz, qZ9 rfl rfl rfl h1, f0⟩
end Ld

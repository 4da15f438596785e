import Derived.Test.YtfjgfcnhklopdaaDoorWNC
set_option maxHeartbeats 4000000
set_option linter.unusedVariables false
set_option linter.unusedSimpArgs false
namespace Ld
open Go Go.Proofs Go.Abs
set_option maxRecDepth 8000
theorem qip9 {a0 r : Int} (hr : qdH9 a0 = some r) {h : AHeap} : callP C (Lim C) 106 [.d (.v (.int .u64 a0))] h = some (.d (.v (.int .i64 r)), h) := by
  have e : C.prim 106 = some qcQ9 := rfl
  obtain ⟨h1, h2⟩ := gsome hr
  simp only [callP, e, qcQ9]
  rw [if_pos (of_eq_true h1)]
  rw [← oiA h2]

def c107 : ACode := .seq (.reg [] [] [.K 2 (.mv (.const (.bool false)))]) (.seq (.reg [] [] [.M 3 0, .M 4 0, .T 5 (.bin .neq (.tmp 3) (.tmp 4)), .N 2 5]) (.ret))
theorem is107 : IsF C 107 6 5 c107 [.tmp 2] := ⟨⟨Tryd.f107, _, C_P ▸ Tryd.func107, rfl, rfl, rfl, by kernel_rfl, rfl⟩⟩
theorem qit9 {a0 : Int} {r : Bool} (hr : qdG9 a0 = some r) : Res C 107 [.v (.int .i64 a0)] (PB r) := by
  simp only [qdG9] at hr
  obtain rfl := oiA hr
  refine run_V is107 (nbA rfl) ?_
  rotate_left
  all_goals (simp +decide only [go_sem, c107, *])
def c85 : ACode := .seq (.reg [] [] [.K 4 (.mv (cI 0))]) (.seq (.reg [] [] [.M 7 0, .T 8 (.call 107 [.tmp 7]), .N 5 8]) (.seq (.reg [] [] [.M 9 1, .T 10 (.call 107 [.tmp 9]), .N 6 10]) (.seq (.seq (.reg [] [] [.N 11 5]) (.cond (.tmp 11) (some 11) (.seq (.seq (.reg [] [] [.N 12 6]) (.cond (.tmp 12) (some 12) (.seq (.reg [] [] [.K 4 (.mv (cI 0))]) (.ret)) (.skip))) (.seq (.reg [] [] [.K 4 (.mv (cI (-1)))]) (.ret))) (.skip))) (.seq (.seq (.reg [] [] [.N 13 6]) (.cond (.tmp 13) (some 13) (.seq (.reg [] [] [.K 4 (.mv (cI 1))]) (.ret)) (.skip))) (.seq (.seq (.reg [] [] [.M 14 0, .M 15 1, .K 16 (.bin .lss (.tmp 14) (.tmp 15))]) (.cond (.tmp 16) (some 16) (.seq (.reg [] [] [.K 4 (.mv (cI (-1)))]) (.ret)) (.skip))) (.seq (.seq (.reg [] [] [.M 17 0, .M 18 1, .K 19 (.bin .gtr (.tmp 17) (.tmp 18))]) (.cond (.tmp 19) (some 19) (.seq (.reg [] [] [.K 4 (.mv (cI 1))]) (.ret)) (.skip))) (.seq (.reg [] [] [.K 4 (.mv (cI 0))]) (.ret))))))))
theorem is85 : IsF C 85 20 604275 c85 [.tmp 4] := ⟨⟨Tryd.f85, _, C_P ▸ Tryd.func85, rfl, rfl, rfl, by kernel_rfl, rfl⟩⟩
theorem qkA9 {a0 : Int} {a1 : Int} {r : Int} (hr : qeE9 a0 a1 = some r) : Res C 85 [.v (.int .i64 a0), .v (.int .i64 a1)] (PI r) := by
  simp only [qeE9] at hr
  obtain ⟨x1, h1, x2, h2, hr⟩ := bs2 hr
  have h1k := (qit9 h1).k rfl rfl rfl
  try simp only [go_sem] at h1k
  have h2k := (qit9 h2).k rfl rfl rfl
  try simp only [go_sem] at h2k
  rcases iteB hr with ⟨h3, hr⟩ | ⟨h3, hr⟩
  rcases iteB hr with ⟨h4, hr⟩ | ⟨h4, hr⟩
  obtain rfl := oiA hr
  refine run_V is85 (nbA rfl) ?_
  rotate_left
  obtain rfl := oiA hr
  refine run_V is85 (nbA rfl) ?_
  rotate_left
  rcases iteB hr with ⟨h5, hr⟩ | ⟨h5, hr⟩
  obtain rfl := oiA hr
  refine run_V is85 (nbA rfl) ?_
  rotate_left
  rcases iteP hr with ⟨h6, hr⟩ | ⟨h6, hr⟩
  obtain rfl := oiA hr
  refine run_V is85 (nbA rfl) ?_
  rotate_left
  rcases iteP hr with ⟨h7, hr⟩ | ⟨h7, hr⟩
  obtain rfl := oiA hr
  refine run_V is85 (nbA rfl) ?_
  rotate_left
  obtain rfl := oiA hr
  refine run_V is85 (nbA rfl) ?_
  rotate_left
  all_goals (simp +decide only [go_sem, c85, *])
def c84 : ACode := .seq (.reg [] [] [.K 2 (.box (.tmp 0)), .K 3 (.box (.tmp 1)), .K 4 (.mv (cI 0))]) (.seq (.reg [] [] [.T 5 (.fa 0 (.tmp 2)), .T 6 (.load none (.tmp 5)), .T 7 (.fa 0 (.tmp 3)), .T 8 (.load none (.tmp 7)), .T 9 (.call 85 [.tmp 6, .tmp 8]), .N 4 9]) (.ret))
theorem is84 : IsF C 84 10 31 c84 [.tmp 4] := ⟨⟨Tryd.f84, _, C_P ▸ Tryd.func84, rfl, rfl, rfl, by kernel_rfl, rfl⟩⟩
theorem qu9 {a0 : Bind} {a1 : Bind} {r : Int} (hr : qi9 a0 a1 = some r) : Res C 84 [.ag (qc9 a0), .ag (qc9 a1)] (PI r) := by
  simp only [qi9] at hr
  obtain ⟨x1, h1, hr⟩ := bsome hr
  have h1k := (qkA9 h1).k rfl rfl rfl
  try simp only [go_sem] at h1k
  obtain rfl := oiA hr
  refine run_V is84 (nbA rfl) ?_
  rotate_left
  all_goals (simp +decide only [go_sem, c84, *])
def qmt9 : ACode := .seq (.seq (.reg [] [] [.M 18 9, .M 19 1, .T 20 (.bin .gtr (.tmp 18) (.tmp 19)), .M 21 20, .MG 22 21 true 3, .MG 23 21 true 0, .MG 24 21 true 9, ⟨some (25, false), .ix 2 (.tmp 23) (.tmp 24), some (21, true), true, false⟩, ⟨some (26, false), .load (some 2) (.tmp 25), some (21, true), true, false⟩, .MG 27 21 true 0, .MG 28 21 true 9, .TG 29 21 true (.bin .sub (.tmp 28) (cI 1)), ⟨some (30, false), .ix 2 (.tmp 27) (.tmp 29), some (21, true), true, false⟩, ⟨some (31, false), .load (some 2) (.tmp 30), some (21, true), true, false⟩, ⟨some (32, false), .callV (.tmp 22) [.tmp 26, .tmp 31], some (21, true), true, false⟩, .TG 33 21 true (.bin .lss (.tmp 32) (cI 0)), .K 34 (.pick (.tmp 21) (.tmp 33) (.const (.bool false)))]) (.cond (.tmp 34) (some 34) (.skip) (.exit 2))) (.seq (.block 3 17179869184 (.reg [] [] [.M 37 0, .M 38 9, .M 39 0, .M 40 9, .T 41 (.bin .sub (.tmp 40) (cI 1)), .M 42 0, .M 43 9, .T 44 (.bin .sub (.tmp 43) (cI 1)), ⟨some (45, false), .ix 2 (.tmp 42) (.tmp 44), none, true, false⟩, ⟨some (46, false), .load (some 2) (.tmp 45), none, true, false⟩, .M 47 0, .M 48 9, ⟨some (49, false), .ix 2 (.tmp 47) (.tmp 48), none, true, false⟩, ⟨some (50, false), .load (some 2) (.tmp 49), none, true, false⟩, ⟨some (51, false), .ix 2 (.tmp 37) (.tmp 38), none, true, false⟩, ⟨none, .store 2 (.tmp 51) (.tmp 46), none, false, false⟩, ⟨some (52, false), .ix 2 (.tmp 39) (.tmp 41), none, true, false⟩, ⟨none, .store 2 (.tmp 52) (.tmp 50), none, false, false⟩])) (.reg [] [] [.M 35 9, .T 36 (.bin .sub (.tmp 35) (cI 1)), .N 9 36]))
def qmN9 : ACode := .seq (.seq (.reg [] [] [.M 12 8, .M 13 2, .K 14 (.bin .lss (.tmp 12) (.tmp 13))]) (.cond (.tmp 14) (some 14) (.skip) (.exit 0))) (.seq (.block 1 17179886080 (.seq (.reg [] [] [.M 17 8, .N 9 17]) (.block 2 17179886080 (.loop qmt9)))) (.reg [] [] [.M 15 8, .T 16 (.bin .add (.tmp 15) (cI 1)), .N 8 16]))
def c122 : ACode := .seq (.reg [] [] [.M 10 1, .T 11 (.bin .add (.tmp 10) (cI 1)), .N 8 11]) (.block 0 17179886080 (.loop qmN9))
theorem is122 : IsF C 122 53 17179886351 c122 [] := ⟨⟨Tryd.f122, _, C_P ▸ Tryd.func122, rfl, rfl, rfl, by kernel_rfl, rfl⟩⟩
def qde9 (s1 : Int) (s2 : Int) (s8 : Int) (g1 : AHeap) (v0 : Nat) (n0 : Nat) (g2 : AHeap) : Int × (List Bind) → AHeap → St := fun (s9, o0) gt => ⟨[(0, .ref g1.length v0 0 n0), (1, PI s1), (2, PI s2), (3, .fn 84 []), (8, PI s8), (9, PI s9)], (g1 ++ (.row false v0 2 (rowP qc9 o0) :: (g2 ++ gt)))⟩
def qeu9 (s1 : Int) (s2 : Int) (s8 : Int) (g1 : AHeap) (v0 : Nat) (n0 : Nat) (g2 : AHeap) : Int × (List Bind) → Prop := fun (s9, o0) => o0.length = n0
def qhv9 (s1 : Int) (s2 : Int) (s8 : Int) (g1 : AHeap) (v0 : Nat) (n0 : Nat) (g2 : AHeap) : ((List Bind)) → AExit × St → Prop := fun o0 q => ∃ d9 : PV, ∃ h1 : AHeap, q = (.exit 2, ⟨[(0, .ref g1.length v0 0 n0), (1, PI s1), (2, PI s2), (3, .fn 84 []), (8, PI s8), (9, d9)], (g1 ++ (.row false v0 2 (rowP qc9 o0) :: (g2 ++ h1)))⟩) ∧ o0.length = n0
theorem qhB9 {s1 : Int} {s2 : Int} {s8 : Int} {g1 : AHeap} {v0 : Nat} {n0 : Nat} {g2 : AHeap} : SimI C 17179886351 qmt9 (qeu9 s1 s2 s8 g1 v0 n0 g2) (qU9 s1 s2 s8) (qde9 s1 s2 s8 g1 v0 n0 g2) (qhv9 s1 s2 s8 g1 v0 n0 g2) := by
  intro s g r hI hr
  obtain ⟨s9, o0⟩ := s
  have ⟨gt, hg0⟩ : ∃ y, y = g := ⟨_, rfl⟩
  subst hg0
  simp only [qeu9] at hI
  have hI0 := hI
  simp only [qU9] at hr
  rcases iteP hr with ⟨h1, hr⟩ | ⟨h1, hr⟩
  obtain ⟨x1, h2, x2, h3, x3, h4, hr⟩ := bs3 hr
  have h2a := eq_true (qa9 h2).1
  have h2b : (s9 < (n0 : Int)) = True := eq_true (by have hb : s9 < (o0.length : Int) := (qa9 h2).2.1; omega)
  have h2c := (qa9 h2).2.2
  have h3a := eq_true (qa9 h3).1
  have h3b : ((w64 (s9 - 1)) < (n0 : Int)) = True := eq_true (by have hb : (w64 (s9 - 1)) < (o0.length : Int) := (qa9 h3).2.1; omega)
  have h3c := (qa9 h3).2.2
  have h4k := fun h => (qu9 h4).o rfl rfl rfl (h := h) (args := [.ag [PI x1.Var, .d (.rd (x1.T.map intD))], .ag [PI x2.Var, .d (.rd (x2.T.map intD))]]) rfl
  try simp only [go_sem] at h4k
  rcases iteP hr with ⟨h5, hr⟩ | ⟨h5, hr⟩
  obtain ⟨x4, h6, hr⟩ := bsome hr
  have h6a := eq_true (qa9 h6).1
  have h6b : ((w64 (s9 - 1)) < (n0 : Int)) = True := eq_true (by have hb : (w64 (s9 - 1)) < ((o0.set (s9).toNat x2).length : Int) := (qa9 h6).2.1; simp only [llA, lrA] at hb; omega)
  have h6c := (qa9 h6).2.2
  obtain rfl := oiA hr
  refine ⟨⟨gt, ?_⟩, (show ((o0.set (s9).toNat x2).set (w64 (s9 - 1)).toNat x1).length = n0 by first | assumption | (simp only [llA, lrA]; first | done | assumption | omega) | omega)⟩
  rotate_left
  obtain rfl := oiA hr
  refine xe_of ⟨PI s9, gt, rfl, (show o0.length = n0 by first | assumption | (simp only [llA, lrA]; first | done | assumption | omega) | omega)⟩ ?_
  rotate_left
  obtain rfl := oiA hr
  refine xe_of ⟨PI s9, gt, rfl, (show o0.length = n0 by first | assumption | (simp only [llA, lrA]; first | done | assumption | omega) | omega)⟩ ?_
  rotate_left
  all_goals (simp +decide only [go_sem, qde9, qmt9, *])
def qcf9 (s1 : Int) (s2 : Int) (g1 : AHeap) (v0 : Nat) (n0 : Nat) (g2 : AHeap) : Int × (List Bind) → AHeap → St := fun (s8, o0) gt => ⟨[(0, .ref g1.length v0 0 n0), (1, PI s1), (2, PI s2), (3, .fn 84 []), (8, PI s8)], (g1 ++ (.row false v0 2 (rowP qc9 o0) :: (g2 ++ gt)))⟩
def qev9 (s1 : Int) (s2 : Int) (g1 : AHeap) (v0 : Nat) (n0 : Nat) (g2 : AHeap) : Int × (List Bind) → Prop := fun (s8, o0) => o0.length = n0
def qhD9 (s1 : Int) (s2 : Int) (g1 : AHeap) (v0 : Nat) (n0 : Nat) (g2 : AHeap) : (Int × (List Bind)) → AExit × St → Prop := fun (s8, o0) q => ∃ g, q = (.exit 0, qcf9 s1 s2 g1 v0 n0 g2 (s8, o0) g) ∧ o0.length = n0
theorem qhx9 {s1 : Int} {s2 : Int} {g1 : AHeap} {v0 : Nat} {n0 : Nat} {g2 : AHeap} : SimI C 17179886351 qmN9 (qev9 s1 s2 g1 v0 n0 g2) (qO9 s1 s2) (qcf9 s1 s2 g1 v0 n0 g2) (qhD9 s1 s2 g1 v0 n0 g2) := by
  intro s g r hI hr
  obtain ⟨s8, o0⟩ := s
  have ⟨gt, hg0⟩ : ∃ y, y = g := ⟨_, rfl⟩
  subst hg0
  simp only [qev9] at hI
  have hI0 := hI
  simp only [qO9] at hr
  rcases iteP hr with ⟨h1, hr⟩ | ⟨h1, hr⟩
  obtain ⟨x5, h2, hr⟩ := bsome hr
  obtain ⟨q2, h2L, h2X⟩ := (qhB9 (g1 := g1) (v0 := v0) (n0 := n0) (g2 := (g2 ++ gt))).L (g := []) h2 (show o0.length = n0 by first | assumption | (simp only [llA, lrA]; first | done | assumption | omega) | omega)
  have ⟨x6, hq2⟩ : ∃ y, y = x5 := ⟨_, rfl⟩
  subst hq2
  try dsimp only at hr
  obtain ⟨z7, z8, rfl, h2l0⟩ := h2X
  simp only [qde9, go_sem] at h2L
  try simp only [hI0] at h2L
  obtain rfl := oiA hr
  refine ⟨⟨(gt ++ z8), ?_⟩, (show x6.length = n0 by first | assumption | (simp only [llA, lrA]; first | done | assumption | omega) | omega)⟩
  rotate_left
  obtain rfl := oiA hr
  refine xe_of ⟨gt, rfl, (show o0.length = n0 by first | assumption | (simp only [llA, lrA]; first | done | assumption | omega) | omega)⟩ ?_
  rotate_left
  all_goals (simp +decide only [go_sem, qcf9, qmN9, *])
theorem qhI9 {s1 : Int} {s2 : Int} {o0 : List Bind} {g1 : AHeap} {v0 : Nat} {n0 : Nat} {g2 : AHeap} (hln0 : o0.length = n0) {r : (List Bind)} (hr : qbP9 s1 s2 o0 = some r) : ∃ hz : AHeap, Lim C 122 [.ref g1.length v0 0 n0, PI s1, PI s2, .fn 84 []] (g1 ++ (.row false v0 2 (rowP qc9 o0) :: g2)) = some (resOf [], (g1 ++ (.row false v0 2 (rowP qc9 r) :: (g2 ++ hz)))) ∧ r.length = n0 := by
  simp only [qbP9] at hr
  obtain ⟨x9, h1, hr⟩ := bsome hr
  obtain ⟨q1, h1L, h1X⟩ := (qhx9 (g1 := g1) (v0 := v0) (n0 := n0) (g2 := g2)).L (g := []) h1 (show o0.length = n0 by first | assumption | (simp only [llA, lrA]; first | done | assumption | omega) | omega)
  obtain ⟨x10, x11⟩ := x9
  try dsimp only at hr
  obtain ⟨z12, rfl, h1l0⟩ := h1X
  simp only [qcf9, go_sem] at h1L
  try simp only [hln0] at h1L
  obtain rfl := oiA hr
  refine ⟨z12, run_L is122 (nbA rfl) ?_, (show x11.length = n0 by first | assumption | (simp only [llA, lrA]; first | done | assumption | omega) | omega)⟩
  rotate_left
  all_goals (simp +decide only [go_sem, c122, *])
def qmj9 : ACode := .block 1 288231475663603712 (.seq (.reg [] [] [.M 13 10, .T 14 (.bin .mul (cI 2) (.tmp 13)), .T 15 (.bin .add (.tmp 14) (cI 1)), .N 11 15]) (.seq (.seq (.reg [] [] [.M 16 11, .M 17 2, .K 18 (.bin .geq (.tmp 16) (.tmp 17))]) (.cond (.tmp 18) (some 18) (.exit 0) (.skip))) (.seq (.seq (.reg [] [] [.M 19 11, .T 20 (.bin .add (.tmp 19) (cI 1)), .M 21 2, .T 22 (.bin .lss (.tmp 20) (.tmp 21)), .M 23 22, .MG 24 23 true 4, .MG 25 23 true 0, .MG 26 23 true 3, .MG 27 23 true 11, .TG 28 23 true (.bin .add (.tmp 26) (.tmp 27)), ⟨some (29, false), .ix 2 (.tmp 25) (.tmp 28), some (23, true), true, false⟩, ⟨some (30, false), .load (some 2) (.tmp 29), some (23, true), true, false⟩, .MG 31 23 true 0, .MG 32 23 true 3, .MG 33 23 true 11, .TG 34 23 true (.bin .add (.tmp 32) (.tmp 33)), .TG 35 23 true (.bin .add (.tmp 34) (cI 1)), ⟨some (36, false), .ix 2 (.tmp 31) (.tmp 35), some (23, true), true, false⟩, ⟨some (37, false), .load (some 2) (.tmp 36), some (23, true), true, false⟩, ⟨some (38, false), .callV (.tmp 24) [.tmp 30, .tmp 37], some (23, true), true, false⟩, .TG 39 23 true (.bin .lss (.tmp 38) (cI 0)), .K 40 (.pick (.tmp 23) (.tmp 39) (.const (.bool false)))]) (.cond (.tmp 40) (some 40) (.reg [] [] [.M 41 11, .T 42 (.bin .add (.tmp 41) (cI 1)), .N 11 42]) (.skip))) (.seq (.seq (.reg [] [] [.M 43 4, .M 44 0, .M 45 3, .M 46 10, .T 47 (.bin .add (.tmp 45) (.tmp 46)), ⟨some (48, false), .ix 2 (.tmp 44) (.tmp 47), none, true, false⟩, ⟨some (49, false), .load (some 2) (.tmp 48), none, true, false⟩, .M 50 0, .M 51 3, .M 52 11, .T 53 (.bin .add (.tmp 51) (.tmp 52)), ⟨some (54, false), .ix 2 (.tmp 50) (.tmp 53), none, true, false⟩, ⟨some (55, false), .load (some 2) (.tmp 54), none, true, false⟩, ⟨some (56, false), .callV (.tmp 43) [.tmp 49, .tmp 55], none, true, false⟩, .T 57 (.bin .lss (.tmp 56) (cI 0)), .K 58 (.not (.tmp 57))]) (.cond (.tmp 58) (some 58) (.ret) (.skip))) (.seq (.reg [] [] [.M 59 0, .M 60 3, .M 61 10, .T 62 (.bin .add (.tmp 60) (.tmp 61)), .M 63 0, .M 64 3, .M 65 11, .T 66 (.bin .add (.tmp 64) (.tmp 65)), .M 67 0, .M 68 3, .M 69 11, .T 70 (.bin .add (.tmp 68) (.tmp 69)), ⟨some (71, false), .ix 2 (.tmp 67) (.tmp 70), none, true, false⟩, ⟨some (72, false), .load (some 2) (.tmp 71), none, true, false⟩, .M 73 0, .M 74 3, .M 75 10, .T 76 (.bin .add (.tmp 74) (.tmp 75)), ⟨some (77, false), .ix 2 (.tmp 73) (.tmp 76), none, true, false⟩, ⟨some (78, false), .load (some 2) (.tmp 77), none, true, false⟩, ⟨some (79, false), .ix 2 (.tmp 59) (.tmp 62), none, true, false⟩, ⟨none, .store 2 (.tmp 79) (.tmp 72), none, false, false⟩, ⟨some (80, false), .ix 2 (.tmp 63) (.tmp 66), none, true, false⟩, ⟨none, .store 2 (.tmp 80) (.tmp 78), none, false, false⟩]) (.reg [] [] [.M 81 11, .N 10 81]))))))
def c136 : ACode := .seq (.reg [] [] [.M 12 1, .N 10 12]) (.block 0 288231475663603712 (.loop qmj9))
theorem is136 : IsF C 136 82 288231475663604767 c136 [] := ⟨⟨Tryd.f136, _, C_P ▸ Tryd.func136, rfl, rfl, rfl, by kernel_rfl, rfl⟩⟩
def qcV9 (s1 : Int) (s2 : Int) (s3 : Int) (g1 : AHeap) (v0 : Nat) (n0 : Nat) (g2 : AHeap) : Int × (List Bind) → AHeap → St := fun (s10, o0) gt => ⟨[(0, .ref g1.length v0 0 n0), (1, PI s1), (2, PI s2), (3, PI s3), (4, .fn 84 []), (10, PI s10)], (g1 ++ (.row false v0 2 (rowP qc9 o0) :: (g2 ++ gt)))⟩
def qgb9 (s1 : Int) (s2 : Int) (s3 : Int) (g1 : AHeap) (v0 : Nat) (n0 : Nat) (g2 : AHeap) : Int × (List Bind) → Prop := fun (s10, o0) => o0.length = n0
def qiN9 (s1 : Int) (s2 : Int) (s3 : Int) (g1 : AHeap) (v0 : Nat) (n0 : Nat) (g2 : AHeap) : ((Int × (List Bind)) ⊕ ((List Bind))) → AExit × St → Prop
  | .inl (s10, o0), q => ∃ d11 : PV, ∃ h1 : AHeap, q = (.exit 0, ⟨[(0, .ref g1.length v0 0 n0), (1, PI s1), (2, PI s2), (3, PI s3), (4, .fn 84 []), (10, PI s10), (11, d11)], (g1 ++ (.row false v0 2 (rowP qc9 o0) :: (g2 ++ h1)))⟩) ∧ o0.length = n0
  | .inr r, q => XL C [] (fun vs hp => ∃ hz : AHeap, vs = [] ∧ hp = (g1 ++ (.row false v0 2 (rowP qc9 r) :: (g2 ++ hz))) ∧ r.length = n0) q
theorem qiR9 {s1 : Int} {s2 : Int} {s3 : Int} {g1 : AHeap} {v0 : Nat} {n0 : Nat} {g2 : AHeap} : SimI C 288231475663604767 qmj9 (qgb9 s1 s2 s3 g1 v0 n0 g2) (qG9 s1 s2 s3) (qcV9 s1 s2 s3 g1 v0 n0 g2) (qiN9 s1 s2 s3 g1 v0 n0 g2) := by
  intro s g r hI hr
  obtain ⟨s10, o0⟩ := s
  have ⟨gt, hg0⟩ : ∃ y, y = g := ⟨_, rfl⟩
  subst hg0
  simp only [qgb9] at hI
  have hI0 := hI
  simp only [qG9] at hr
  rcases iteP hr with ⟨h1, hr⟩ | ⟨h1, hr⟩
  obtain rfl := oiA hr
  refine xe_of ⟨PI (w64 ((w64 (2 * s10)) + 1)), gt, rfl, (show o0.length = n0 by first | assumption | (simp only [llA, lrA]; first | done | assumption | omega) | omega)⟩ ?_
  rotate_left
  rcases iteP hr with ⟨h2, hr⟩ | ⟨h2, hr⟩
  obtain ⟨x1, h3, x2, h4, x3, h5, hr⟩ := bs3 hr
  have h3a := eq_true (qa9 h3).1
  have h3b : ((w64 (s3 + (w64 ((w64 (2 * s10)) + 1)))) < (n0 : Int)) = True := eq_true (by have hb : (w64 (s3 + (w64 ((w64 (2 * s10)) + 1)))) < (o0.length : Int) := (qa9 h3).2.1; omega)
  have h3c := (qa9 h3).2.2
  have h4a := eq_true (qa9 h4).1
  have h4b : ((w64 ((w64 (s3 + (w64 ((w64 (2 * s10)) + 1)))) + 1)) < (n0 : Int)) = True := eq_true (by have hb : (w64 ((w64 (s3 + (w64 ((w64 (2 * s10)) + 1)))) + 1)) < (o0.length : Int) := (qa9 h4).2.1; omega)
  have h4c := (qa9 h4).2.2
  have h5k := fun h => (qu9 h5).o rfl rfl rfl (h := h) (args := [.ag [PI x1.Var, .d (.rd (x1.T.map intD))], .ag [PI x2.Var, .d (.rd (x2.T.map intD))]]) rfl
  try simp only [go_sem] at h5k
  rcases iteP hr with ⟨h6, hr⟩ | ⟨h6, hr⟩
  obtain ⟨x4, h7, x5, h8, x6, h9, hr⟩ := bs3 hr
  have h7a := eq_true (qa9 h7).1
  have h7b : ((w64 (s3 + s10)) < (n0 : Int)) = True := eq_true (by have hb : (w64 (s3 + s10)) < (o0.length : Int) := (qa9 h7).2.1; omega)
  have h7c := (qa9 h7).2.2
  have h8a := eq_true (qa9 h8).1
  have h8b : ((w64 (s3 + (w64 ((w64 ((w64 (2 * s10)) + 1)) + 1)))) < (n0 : Int)) = True := eq_true (by have hb : (w64 (s3 + (w64 ((w64 ((w64 (2 * s10)) + 1)) + 1)))) < (o0.length : Int) := (qa9 h8).2.1; omega)
  have h8c := (qa9 h8).2.2
  have h9k := fun h => (qu9 h9).o rfl rfl rfl (h := h) (args := [.ag [PI x4.Var, .d (.rd (x4.T.map intD))], .ag [PI x5.Var, .d (.rd (x5.T.map intD))]]) rfl
  try simp only [go_sem] at h9k
  rcases iteP hr with ⟨h10, hr⟩ | ⟨h10, hr⟩
  obtain ⟨x7, h11, hr⟩ := bsome hr
  have h11a := eq_true (qa9 h11).1
  have h11b : ((w64 (s3 + (w64 ((w64 ((w64 (2 * s10)) + 1)) + 1)))) < (n0 : Int)) = True := eq_true (by have hb : (w64 (s3 + (w64 ((w64 ((w64 (2 * s10)) + 1)) + 1)))) < ((o0.set (w64 (s3 + s10)).toNat x5).length : Int) := (qa9 h11).2.1; simp only [llA, lrA] at hb; omega)
  have h11c := (qa9 h11).2.2
  obtain rfl := oiA hr
  refine ⟨⟨gt, ?_⟩, (show ((o0.set (w64 (s3 + s10)).toNat x5).set (w64 (s3 + (w64 ((w64 ((w64 (2 * s10)) + 1)) + 1)))).toNat x4).length = n0 by first | assumption | (simp only [llA, lrA]; first | done | assumption | omega) | omega)⟩
  rotate_left
  obtain rfl := oiA hr
  refine xl_of ⟨gt, rfl, rfl, (show o0.length = n0 by first | assumption | (simp only [llA, lrA]; first | done | assumption | omega) | omega)⟩ ?_
  rotate_left
  obtain ⟨x8, h12, x9, h13, hr⟩ := bs2 hr
  have h12a := eq_true (qa9 h12).1
  have h12b : ((w64 (s3 + s10)) < (n0 : Int)) = True := eq_true (by have hb : (w64 (s3 + s10)) < (o0.length : Int) := (qa9 h12).2.1; omega)
  have h12c := (qa9 h12).2.2
  have h13k := fun h => (qu9 h13).o rfl rfl rfl (h := h) (args := [.ag [PI x8.Var, .d (.rd (x8.T.map intD))], .ag [PI x1.Var, .d (.rd (x1.T.map intD))]]) rfl
  try simp only [go_sem] at h13k
  rcases iteP hr with ⟨h14, hr⟩ | ⟨h14, hr⟩
  obtain ⟨x10, h15, hr⟩ := bsome hr
  have h15a := eq_true (qa9 h15).1
  have h15b : ((w64 (s3 + (w64 ((w64 (2 * s10)) + 1)))) < (n0 : Int)) = True := eq_true (by have hb : (w64 (s3 + (w64 ((w64 (2 * s10)) + 1)))) < ((o0.set (w64 (s3 + s10)).toNat x1).length : Int) := (qa9 h15).2.1; simp only [llA, lrA] at hb; omega)
  have h15c := (qa9 h15).2.2
  obtain rfl := oiA hr
  refine ⟨⟨gt, ?_⟩, (show ((o0.set (w64 (s3 + s10)).toNat x1).set (w64 (s3 + (w64 ((w64 (2 * s10)) + 1)))).toNat x8).length = n0 by first | assumption | (simp only [llA, lrA]; first | done | assumption | omega) | omega)⟩
  rotate_left
  obtain rfl := oiA hr
  refine xl_of ⟨gt, rfl, rfl, (show o0.length = n0 by first | assumption | (simp only [llA, lrA]; first | done | assumption | omega) | omega)⟩ ?_
  rotate_left
  obtain ⟨x11, h16, x12, h17, x13, h18, hr⟩ := bs3 hr
  have h16a := eq_true (qa9 h16).1
  have h16b : ((w64 (s3 + s10)) < (n0 : Int)) = True := eq_true (by have hb : (w64 (s3 + s10)) < (o0.length : Int) := (qa9 h16).2.1; omega)
  have h16c := (qa9 h16).2.2
  have h17a := eq_true (qa9 h17).1
  have h17b : ((w64 (s3 + (w64 ((w64 (2 * s10)) + 1)))) < (n0 : Int)) = True := eq_true (by have hb : (w64 (s3 + (w64 ((w64 (2 * s10)) + 1)))) < (o0.length : Int) := (qa9 h17).2.1; omega)
  have h17c := (qa9 h17).2.2
  have h18k := fun h => (qu9 h18).o rfl rfl rfl (h := h) (args := [.ag [PI x11.Var, .d (.rd (x11.T.map intD))], .ag [PI x12.Var, .d (.rd (x12.T.map intD))]]) rfl
  try simp only [go_sem] at h18k
  rcases iteP hr with ⟨h19, hr⟩ | ⟨h19, hr⟩
  obtain ⟨x14, h20, hr⟩ := bsome hr
  have h20a := eq_true (qa9 h20).1
  have h20b : ((w64 (s3 + (w64 ((w64 (2 * s10)) + 1)))) < (n0 : Int)) = True := eq_true (by have hb : (w64 (s3 + (w64 ((w64 (2 * s10)) + 1)))) < ((o0.set (w64 (s3 + s10)).toNat x12).length : Int) := (qa9 h20).2.1; simp only [llA, lrA] at hb; omega)
  have h20c := (qa9 h20).2.2
  obtain rfl := oiA hr
  refine ⟨⟨gt, ?_⟩, (show ((o0.set (w64 (s3 + s10)).toNat x12).set (w64 (s3 + (w64 ((w64 (2 * s10)) + 1)))).toNat x11).length = n0 by first | assumption | (simp only [llA, lrA]; first | done | assumption | omega) | omega)⟩
  rotate_left
  obtain rfl := oiA hr
  refine xl_of ⟨gt, rfl, rfl, (show o0.length = n0 by first | assumption | (simp only [llA, lrA]; first | done | assumption | omega) | omega)⟩ ?_
  rotate_left
  all_goals (simp +decide only [go_sem, qcV9, qmj9, *])
theorem qgh9 {s1 : Int} {s2 : Int} {s3 : Int} {o0 : List Bind} {g1 : AHeap} {v0 : Nat} {n0 : Nat} {g2 : AHeap} (hln0 : o0.length = n0) {r : (List Bind)} (hr : qbJ9 s1 s2 s3 o0 = some r) : ∃ hz : AHeap, Lim C 136 [.ref g1.length v0 0 n0, PI s1, PI s2, PI s3, .fn 84 []] (g1 ++ (.row false v0 2 (rowP qc9 o0) :: g2)) = some (resOf [], (g1 ++ (.row false v0 2 (rowP qc9 r) :: (g2 ++ hz)))) ∧ r.length = n0 := by
  simp only [qbJ9] at hr
  obtain ⟨x15, h1, hr⟩ := bsome hr
  obtain ⟨q1, h1L, h1X⟩ := (qiR9 (g1 := g1) (v0 := v0) (n0 := n0) (g2 := g2)).L (g := []) h1 (show o0.length = n0 by first | assumption | (simp only [llA, lrA]; first | done | assumption | omega) | omega)
  rcases x15 with ⟨x16, x17⟩ | x20
  try dsimp only at hr
  obtain ⟨z18, z19, rfl, h1l0⟩ := h1X
  simp only [qcV9, go_sem] at h1L
  try simp only [hln0] at h1L
  obtain rfl := oiA hr
  refine ⟨z19, run_L is136 (nbA rfl) ?_, (show x17.length = n0 by first | assumption | (simp only [llA, lrA]; first | done | assumption | omega) | omega)⟩
  rotate_left
  try dsimp only at hr
  obtain ⟨st1, _, _, rfl, h1R, y1, rfl, rfl, h1f0⟩ := h1X
  simp only [qcV9, go_sem] at h1L
  try simp only [hln0] at h1L
  obtain rfl := oiA hr
  refine ⟨y1, run_L is136 (nbA rfl) ?_, h1f0⟩
  rotate_left
  all_goals (simp +decide only [go_sem, c136, *])
def qmO9 : ACode := .seq (.seq (.reg [] [] [.M 32 12, .K 33 (.bin .geq (.tmp 32) (cI 0))]) (.cond (.tmp 33) (some 33) (.skip) (.exit 2))) (.seq (.block 3 8589934592 (.seq (.reg [] [] [.M 36 0, .M 37 8, .M 38 0, .M 39 8, .M 40 12, .T 41 (.bin .add (.tmp 39) (.tmp 40)), .M 42 0, .M 43 8, .M 44 12, .T 45 (.bin .add (.tmp 43) (.tmp 44)), ⟨some (46, false), .ix 2 (.tmp 42) (.tmp 45), none, true, false⟩, ⟨some (47, false), .load (some 2) (.tmp 46), none, true, false⟩, .M 48 0, .M 49 8, ⟨some (50, false), .ix 2 (.tmp 48) (.tmp 49), none, true, false⟩, ⟨some (51, false), .load (some 2) (.tmp 50), none, true, false⟩, ⟨some (52, false), .ix 2 (.tmp 36) (.tmp 37), none, true, false⟩, ⟨none, .store 2 (.tmp 52) (.tmp 47), none, false, false⟩, ⟨some (53, false), .ix 2 (.tmp 38) (.tmp 41), none, true, false⟩, ⟨none, .store 2 (.tmp 53) (.tmp 51), none, false, false⟩]) (.reg [] [] [.M 54 0, .M 55 9, .M 56 12, .M 57 8, .M 58 3, .T 59 (.call 136 [.tmp 54, .tmp 55, .tmp 56, .tmp 57, .tmp 58])]))) (.reg [] [] [.M 34 12, .T 35 (.bin .sub (.tmp 34) (cI 1)), .N 12 35]))
def qmG9 : ACode := .seq (.seq (.reg [] [] [.M 20 11, .K 21 (.bin .geq (.tmp 20) (cI 0))]) (.cond (.tmp 21) (some 21) (.skip) (.exit 0))) (.seq (.block 1 2097152 (.reg [] [] [.M 24 0, .M 25 11, .M 26 10, .M 27 8, .M 28 3, .T 29 (.call 136 [.tmp 24, .tmp 25, .tmp 26, .tmp 27, .tmp 28])])) (.reg [] [] [.M 22 11, .T 23 (.bin .sub (.tmp 22) (cI 1)), .N 11 23]))
def c123 : ACode := .seq (.reg [] [] [.M 13 1, .N 8 13]) (.seq (.reg [] [] [.K 9 (.mv (cI 0))]) (.seq (.reg [] [] [.M 14 2, .M 15 1, .T 16 (.bin .sub (.tmp 14) (.tmp 15)), .N 10 16]) (.seq (.seq (.reg [] [] [.M 17 10, .T 18 (.bin .sub (.tmp 17) (cI 1)), .T 19 (.binM .quo (.tmp 18) (cI 2)), .N 11 19]) (.block 0 2097152 (.loop qmG9))) (.seq (.reg [] [] [.M 30 10, .T 31 (.bin .sub (.tmp 30) (cI 1)), .N 12 31]) (.block 2 8589934592 (.loop qmO9))))))
theorem is123 : IsF C 123 60 8592039695 c123 [] := ⟨⟨Tryd.f123, _, C_P ▸ Tryd.func123, rfl, rfl, rfl, by kernel_rfl, rfl⟩⟩
def qcY9 (s1 : Int) (s2 : Int) (s8 : Int) (s10 : Int) (s11 : Int) (g1 : AHeap) (v0 : Nat) (n0 : Nat) (g2 : AHeap) : Int × (List Bind) → AHeap → St := fun (s12, o0) gt => ⟨[(0, .ref g1.length v0 0 n0), (1, PI s1), (2, PI s2), (3, .fn 84 []), (8, PI s8), (9, PI 0), (10, PI s10), (11, PI s11), (12, PI s12)], (g1 ++ (.row false v0 2 (rowP qc9 o0) :: (g2 ++ gt)))⟩
def qga9 (s1 : Int) (s2 : Int) (s8 : Int) (s10 : Int) (s11 : Int) (g1 : AHeap) (v0 : Nat) (n0 : Nat) (g2 : AHeap) : Int × (List Bind) → Prop := fun (s12, o0) => o0.length = n0
def qiT9 (s1 : Int) (s2 : Int) (s8 : Int) (s10 : Int) (s11 : Int) (g1 : AHeap) (v0 : Nat) (n0 : Nat) (g2 : AHeap) : (Int × (List Bind)) → AExit × St → Prop := fun (s12, o0) q => ∃ g, q = (.exit 2, qcY9 s1 s2 s8 s10 s11 g1 v0 n0 g2 (s12, o0) g) ∧ o0.length = n0
theorem qiP9 {s1 : Int} {s2 : Int} {s8 : Int} {s10 : Int} {s11 : Int} {g1 : AHeap} {v0 : Nat} {n0 : Nat} {g2 : AHeap} : SimI C 8592039695 qmO9 (qga9 s1 s2 s8 s10 s11 g1 v0 n0 g2) (qbn9 s1 s2 s8 s10 s11) (qcY9 s1 s2 s8 s10 s11 g1 v0 n0 g2) (qiT9 s1 s2 s8 s10 s11 g1 v0 n0 g2) := by
  intro s g r hI hr
  obtain ⟨s12, o0⟩ := s
  have ⟨gt, hg0⟩ : ∃ y, y = g := ⟨_, rfl⟩
  subst hg0
  simp only [qga9] at hI
  have hI0 := hI
  simp only [qbn9] at hr
  rcases iteP hr with ⟨h1, hr⟩ | ⟨h1, hr⟩
  obtain ⟨x8, h2, x9, h3, x10, h4, x11, h5, hr⟩ := bs4 hr
  have h2a := eq_true (qa9 h2).1
  have h2b : ((w64 (s8 + s12)) < (n0 : Int)) = True := eq_true (by have hb : (w64 (s8 + s12)) < (o0.length : Int) := (qa9 h2).2.1; omega)
  have h2c := (qa9 h2).2.2
  have h3a := eq_true (qa9 h3).1
  have h3b : (s8 < (n0 : Int)) = True := eq_true (by have hb : s8 < (o0.length : Int) := (qa9 h3).2.1; omega)
  have h3c := (qa9 h3).2.2
  have h4a := eq_true (qa9 h4).1
  have h4b : ((w64 (s8 + s12)) < (n0 : Int)) = True := eq_true (by have hb : (w64 (s8 + s12)) < ((o0.set (s8).toNat x8).length : Int) := (qa9 h4).2.1; simp only [llA, lrA] at hb; omega)
  have h4c := (qa9 h4).2.2
  obtain ⟨z12, h5k, h5l0⟩ := qgh9 (g1 := g1) (v0 := v0) (n0 := n0) (g2 := (g2 ++ gt)) (show ((o0.set (s8).toNat x8).set (w64 (s8 + s12)).toNat x9).length = n0 by first | assumption | (simp only [llA, lrA]; first | done | assumption | omega) | omega) h5
  replace h5k := qh9 rfl rfl rfl h5k
  try simp only [go_sem] at h5k
  obtain rfl := oiA hr
  refine ⟨⟨(gt ++ z12), ?_⟩, (show x11.length = n0 by first | assumption | (simp only [llA, lrA]; first | done | assumption | omega) | omega)⟩
  rotate_left
  obtain rfl := oiA hr
  refine xe_of ⟨gt, rfl, (show o0.length = n0 by first | assumption | (simp only [llA, lrA]; first | done | assumption | omega) | omega)⟩ ?_
  rotate_left
  all_goals (simp +decide only [go_sem, qcY9, qmO9, *])
def qcW9 (s1 : Int) (s2 : Int) (s8 : Int) (s10 : Int) (g1 : AHeap) (v0 : Nat) (n0 : Nat) (g2 : AHeap) : Int × (List Bind) → AHeap → St := fun (s11, o0) gt => ⟨[(0, .ref g1.length v0 0 n0), (1, PI s1), (2, PI s2), (3, .fn 84 []), (8, PI s8), (9, PI 0), (10, PI s10), (11, PI s11)], (g1 ++ (.row false v0 2 (rowP qc9 o0) :: (g2 ++ gt)))⟩
def qfX9 (s1 : Int) (s2 : Int) (s8 : Int) (s10 : Int) (g1 : AHeap) (v0 : Nat) (n0 : Nat) (g2 : AHeap) : Int × (List Bind) → Prop := fun (s11, o0) => o0.length = n0
def qje9 (s1 : Int) (s2 : Int) (s8 : Int) (s10 : Int) (g1 : AHeap) (v0 : Nat) (n0 : Nat) (g2 : AHeap) : (Int × (List Bind)) → AExit × St → Prop := fun (s11, o0) q => ∃ g, q = (.exit 0, qcW9 s1 s2 s8 s10 g1 v0 n0 g2 (s11, o0) g) ∧ o0.length = n0
theorem qjd9 {s1 : Int} {s2 : Int} {s8 : Int} {s10 : Int} {g1 : AHeap} {v0 : Nat} {n0 : Nat} {g2 : AHeap} : SimI C 8592039695 qmG9 (qfX9 s1 s2 s8 s10 g1 v0 n0 g2) (qbp9 s1 s2 s8 s10) (qcW9 s1 s2 s8 s10 g1 v0 n0 g2) (qje9 s1 s2 s8 s10 g1 v0 n0 g2) := by
  intro s g r hI hr
  obtain ⟨s11, o0⟩ := s
  have ⟨gt, hg0⟩ : ∃ y, y = g := ⟨_, rfl⟩
  subst hg0
  simp only [qfX9] at hI
  have hI0 := hI
  simp only [qbp9] at hr
  rcases iteP hr with ⟨h1, hr⟩ | ⟨h1, hr⟩
  obtain ⟨x2, h2, hr⟩ := bsome hr
  obtain ⟨z3, h2k, h2l0⟩ := qgh9 (g1 := g1) (v0 := v0) (n0 := n0) (g2 := (g2 ++ gt)) (show o0.length = n0 by first | assumption | (simp only [llA, lrA]; first | done | assumption | omega) | omega) h2
  replace h2k := qh9 rfl rfl rfl h2k
  try simp only [go_sem] at h2k
  obtain rfl := oiA hr
  refine ⟨⟨(gt ++ z3), ?_⟩, (show x2.length = n0 by first | assumption | (simp only [llA, lrA]; first | done | assumption | omega) | omega)⟩
  rotate_left
  obtain rfl := oiA hr
  refine xe_of ⟨gt, rfl, (show o0.length = n0 by first | assumption | (simp only [llA, lrA]; first | done | assumption | omega) | omega)⟩ ?_
  rotate_left
  all_goals (simp +decide only [go_sem, qcW9, qmG9, *])
theorem qjA9 {s1 : Int} {s2 : Int} {o0 : List Bind} {g1 : AHeap} {v0 : Nat} {n0 : Nat} {g2 : AHeap} (hln0 : o0.length = n0) {r : (List Bind)} (hr : qcM9 s1 s2 o0 = some r) : ∃ hz : AHeap, Lim C 123 [.ref g1.length v0 0 n0, PI s1, PI s2, .fn 84 []] (g1 ++ (.row false v0 2 (rowP qc9 o0) :: g2)) = some (resOf [], (g1 ++ (.row false v0 2 (rowP qc9 r) :: (g2 ++ hz)))) ∧ r.length = n0 := by
  simp only [qcM9] at hr
  obtain ⟨x1, h1, hr⟩ := bsome hr
  obtain ⟨x4, h2, hr⟩ := bsome hr
  obtain ⟨q2, h2L, h2X⟩ := (qjd9 (g1 := g1) (v0 := v0) (n0 := n0) (g2 := g2)).L (g := []) h2 (show o0.length = n0 by first | assumption | (simp only [llA, lrA]; first | done | assumption | omega) | omega)
  obtain ⟨x5, x6⟩ := x4
  try dsimp only at hr
  obtain ⟨z7, rfl, h2l0⟩ := h2X
  simp only [qcW9, go_sem] at h2L
  try simp only [hln0] at h2L
  obtain ⟨x13, h3, hr⟩ := bsome hr
  obtain ⟨q3, h3L, h3X⟩ := (qiP9 (g1 := g1) (v0 := v0) (n0 := n0) (g2 := (g2 ++ z7))).L (g := []) h3 (show x6.length = n0 by first | assumption | (simp only [llA, lrA]; first | done | assumption | omega) | omega)
  obtain ⟨x14, x15⟩ := x13
  try dsimp only at hr
  obtain ⟨z16, rfl, h3l0⟩ := h3X
  simp only [qcY9, go_sem] at h3L
  try simp only [hln0] at h3L
  obtain rfl := oiA hr
  refine ⟨(z7 ++ z16), run_L is123 (nbA rfl) ?_, (show x15.length = n0 by first | assumption | (simp only [llA, lrA]; first | done | assumption | omega) | omega)⟩
  rotate_left
  all_goals (simp +decide only [go_sem, c123, *])
def c141 : ACode := .seq (.reg [] [] [.K 10 (.mv (cI 0)), .K 11 (.mv (cI 0))]) (.seq (.seq (.reg [] [] [.M 12 4, .M 13 0, .M 14 2, ⟨some (15, false), .ix 2 (.tmp 13) (.tmp 14), none, true, false⟩, ⟨some (16, false), .load (some 2) (.tmp 15), none, true, false⟩, .M 17 0, .M 18 1, ⟨some (19, false), .ix 2 (.tmp 17) (.tmp 18), none, true, false⟩, ⟨some (20, false), .load (some 2) (.tmp 19), none, true, false⟩, ⟨some (21, false), .callV (.tmp 12) [.tmp 16, .tmp 20], none, true, false⟩, .K 22 (.bin .lss (.tmp 21) (cI 0))]) (.cond (.tmp 22) (some 22) (.seq (.reg [] [] [.M 23 3, .T 24 (.nilC (.tmp 23)), .T 25 (.load none (.tmp 24)), .T 26 (.bin .add (.tmp 25) (cI 1)), .T 27 (.nilC (.tmp 23)), ⟨none, .store 1 (.tmp 27) (.tmp 26), none, false, false⟩]) (.seq (.reg [] [] [.M 28 2, .M 29 1, .N 10 28, .N 11 29]) (.ret))) (.skip))) (.seq (.reg [] [] [.M 30 1, .M 31 2, .N 10 30, .N 11 31]) (.ret)))
theorem is141 : IsF C 141 32 4197407 c141 [.tmp 10, .tmp 11] := ⟨⟨Tryd.f141, _, C_P ▸ Tryd.func141, rfl, rfl, rfl, by kernel_rfl, rfl⟩⟩
theorem qeU9 {s1 : Int} {s2 : Int} {o0 : List Bind} {b3_0 : Int} {g1 : AHeap} {v0 : Nat} {n0 : Nat} {g2 : AHeap} {g3 : AHeap} (hln0 : o0.length = n0) {r : Int × Int × Int} (hr : qcj9 s1 s2 o0 b3_0 = some r) : Lim C 141 [.ref g1.length v0 0 n0, PI s1, PI s2, .ptr (g1.length + g2.length + 1) 0 0 0, .fn 84 []] (g1 ++ (.row false v0 2 (rowP qc9 o0) :: (g2 ++ (.row false 0 1 [[PI b3_0]] :: g3)))) = some (resOf [PI r.1, PI r.2.1], (g1 ++ (.row false v0 2 (rowP qc9 o0) :: (g2 ++ (.row false 0 1 [[PI r.2.2]] :: g3))))) := by
  simp only [qcj9] at hr
  obtain ⟨x1, h1, x2, h2, x3, h3, hr⟩ := bs3 hr
  have h1a := eq_true (qa9 h1).1
  have h1b : (s2 < (n0 : Int)) = True := eq_true (by have hb : s2 < (o0.length : Int) := (qa9 h1).2.1; omega)
  have h1c := (qa9 h1).2.2
  have h2a := eq_true (qa9 h2).1
  have h2b : (s1 < (n0 : Int)) = True := eq_true (by have hb : s1 < (o0.length : Int) := (qa9 h2).2.1; omega)
  have h2c := (qa9 h2).2.2
  have h3k := fun h => (qu9 h3).o rfl rfl rfl (h := h) (args := [.ag [PI x1.Var, .d (.rd (x1.T.map intD))], .ag [PI x2.Var, .d (.rd (x2.T.map intD))]]) rfl
  try simp only [go_sem] at h3k
  rcases iteP hr with ⟨h4, hr⟩ | ⟨h4, hr⟩
  obtain rfl := oiA hr
  refine run_L is141 (nbA rfl) ?_
  rotate_left
  obtain rfl := oiA hr
  refine run_L is141 (nbA rfl) ?_
  rotate_left
  all_goals (simp +decide only [go_sem, c141, *])
def c140 : ACode := .seq (.reg [] [] [.K 12 (.mv (cI 0))]) (.seq (.reg [] [] [.M 14 0, .M 15 1, .M 16 2, .M 17 4, .M 18 5, .T 19 (.call 141 [.tmp 14, .tmp 15, .tmp 16, .tmp 17, .tmp 18]), .M 13 19, .T 20 (.ext (.tmp 13) 0), .T 21 (.ext (.tmp 13) 1), .N 1 20, .N 2 21]) (.seq (.reg [] [] [.M 23 0, .M 24 2, .M 25 3, .M 26 4, .M 27 5, .T 28 (.call 141 [.tmp 23, .tmp 24, .tmp 25, .tmp 26, .tmp 27]), .M 22 28, .T 29 (.ext (.tmp 22) 0), .T 30 (.ext (.tmp 22) 1), .N 2 29, .N 3 30]) (.seq (.reg [] [] [.M 32 0, .M 33 1, .M 34 2, .M 35 4, .M 36 5, .T 37 (.call 141 [.tmp 32, .tmp 33, .tmp 34, .tmp 35, .tmp 36]), .M 31 37, .T 38 (.ext (.tmp 31) 0), .T 39 (.ext (.tmp 31) 1), .N 1 38, .N 2 39]) (.seq (.reg [] [] [.M 40 2, .N 12 40]) (.ret)))))
theorem is140 : IsF C 140 41 4159 c140 [.tmp 12] := ⟨⟨Tryd.f140, _, C_P ▸ Tryd.func140, rfl, rfl, rfl, by kernel_rfl, rfl⟩⟩
theorem qeR9 {s1 : Int} {s2 : Int} {s3 : Int} {o0 : List Bind} {b4_0 : Int} {g1 : AHeap} {v0 : Nat} {n0 : Nat} {g2 : AHeap} {g3 : AHeap} (hln0 : o0.length = n0) {r : Int × Int} (hr : qck9 s1 s2 s3 o0 b4_0 = some r) : Lim C 140 [.ref g1.length v0 0 n0, PI s1, PI s2, PI s3, .ptr (g1.length + g2.length + 1) 0 0 0, .fn 84 []] (g1 ++ (.row false v0 2 (rowP qc9 o0) :: (g2 ++ (.row false 0 1 [[PI b4_0]] :: g3)))) = some (resOf [PI r.1], (g1 ++ (.row false v0 2 (rowP qc9 o0) :: (g2 ++ (.row false 0 1 [[PI r.2]] :: g3))))) := by
  simp only [qck9] at hr
  obtain ⟨x1, h1, x2, h2, x3, h3, hr⟩ := bs3 hr
  have h1k := qh9 rfl rfl rfl (qeU9 (g1 := g1) (v0 := v0) (n0 := n0) (g2 := g2) (g3 := g3) (show o0.length = n0 by first | assumption | (simp only [llA, lrA]; first | done | assumption | omega) | omega) h1)
  try simp only [go_sem] at h1k
  have h2k := qh9 rfl rfl rfl (qeU9 (g1 := g1) (v0 := v0) (n0 := n0) (g2 := g2) (g3 := g3) (show o0.length = n0 by first | assumption | (simp only [llA, lrA]; first | done | assumption | omega) | omega) h2)
  try simp only [go_sem] at h2k
  have h3k := qh9 rfl rfl rfl (qeU9 (g1 := g1) (v0 := v0) (n0 := n0) (g2 := g2) (g3 := g3) (show o0.length = n0 by first | assumption | (simp only [llA, lrA]; first | done | assumption | omega) | omega) h3)
  try simp only [go_sem] at h3k
  obtain rfl := oiA hr
  refine run_L is140 (nbA rfl) ?_
  rotate_left
  all_goals (simp +decide only [go_sem, c140, *])
def c139 : ACode := .seq (.reg [] [] [.K 8 (.mv (cI 0))]) (.seq (.reg [] [] [.M 9 0, .M 10 1, .T 11 (.bin .sub (.tmp 10) (cI 1)), .M 12 1, .M 13 1, .T 14 (.bin .add (.tmp 13) (cI 1)), .M 15 2, .M 16 3, .T 17 (.call 140 [.tmp 9, .tmp 11, .tmp 12, .tmp 14, .tmp 15, .tmp 16]), .N 8 17]) (.ret))
theorem is139 : IsF C 139 18 271 c139 [.tmp 8] := ⟨⟨Tryd.f139, _, C_P ▸ Tryd.func139, rfl, rfl, rfl, by kernel_rfl, rfl⟩⟩
theorem qdb9 {s1 : Int} {o0 : List Bind} {b2_0 : Int} {g1 : AHeap} {v0 : Nat} {n0 : Nat} {g2 : AHeap} {g3 : AHeap} (hln0 : o0.length = n0) {r : Int × Int} (hr : qbd9 s1 o0 b2_0 = some r) : Lim C 139 [.ref g1.length v0 0 n0, PI s1, .ptr (g1.length + g2.length + 1) 0 0 0, .fn 84 []] (g1 ++ (.row false v0 2 (rowP qc9 o0) :: (g2 ++ (.row false 0 1 [[PI b2_0]] :: g3)))) = some (resOf [PI r.1], (g1 ++ (.row false v0 2 (rowP qc9 o0) :: (g2 ++ (.row false 0 1 [[PI r.2]] :: g3))))) := by
  simp only [qbd9] at hr
  obtain ⟨x1, h1, hr⟩ := bsome hr
  have h1k := qh9 rfl rfl rfl (qeR9 (g1 := g1) (v0 := v0) (n0 := n0) (g2 := g2) (g3 := g3) (show o0.length = n0 by first | assumption | (simp only [llA, lrA]; first | done | assumption | omega) | omega) h1)
  try simp only [go_sem] at h1k
  obtain rfl := oiA hr
  refine run_L is139 (nbA rfl) ?_
  rotate_left
  all_goals (simp +decide only [go_sem, c139, *])
def c125 : ACode := .seq (.reg [] [] [.K 8 (.mv (cI 0)), .K 9 (.mv (cI 0))]) (.seq (.reg [] [] [.M 15 2, .M 16 1, .T 17 (.bin .sub (.tmp 15) (.tmp 16)), .N 10 17]) (.seq (.reg [] [] [.K 11 (.alloc [.d (.v (.int .i64 0))] 1)]) (.seq (.reg [] [] [.M 18 1, .M 19 10, .T 20 (.binM .quo (.tmp 19) (cI 4)), .T 21 (.bin .mul (.tmp 20) (cI 1)), .T 22 (.bin .add (.tmp 18) (.tmp 21)), .N 12 22]) (.seq (.reg [] [] [.M 23 1, .M 24 10, .T 25 (.binM .quo (.tmp 24) (cI 4)), .T 26 (.bin .mul (.tmp 25) (cI 2)), .T 27 (.bin .add (.tmp 23) (.tmp 26)), .N 13 27]) (.seq (.reg [] [] [.M 28 1, .M 29 10, .T 30 (.binM .quo (.tmp 29) (cI 4)), .T 31 (.bin .mul (.tmp 30) (cI 3)), .T 32 (.bin .add (.tmp 28) (.tmp 31)), .N 14 32]) (.seq (.seq (.reg [] [] [.M 33 10, .K 34 (.bin .geq (.tmp 33) (cI 8))]) (.cond (.tmp 34) (some 34) (.seq (.seq (.reg [] [] [.M 35 10, .K 36 (.bin .geq (.tmp 35) (cI 50))]) (.cond (.tmp 36) (some 36) (.seq (.reg [] [] [.M 37 0, .M 38 12, .M 39 3, .T 40 (.call 139 [.tmp 37, .tmp 38, .tmp 11, .tmp 39]), .N 12 40]) (.seq (.reg [] [] [.M 41 0, .M 42 13, .M 43 3, .T 44 (.call 139 [.tmp 41, .tmp 42, .tmp 11, .tmp 43]), .N 13 44]) (.reg [] [] [.M 45 0, .M 46 14, .M 47 3, .T 48 (.call 139 [.tmp 45, .tmp 46, .tmp 11, .tmp 47]), .N 14 48]))) (.skip))) (.reg [] [] [.M 49 0, .M 50 12, .M 51 13, .M 52 14, .M 53 3, .T 54 (.call 140 [.tmp 49, .tmp 50, .tmp 51, .tmp 52, .tmp 11, .tmp 53]), .N 13 54])) (.skip))) (.seq (.reg [] [] [.K 55 (.load none (.tmp 11))]) (.block 0 1297036692682702848 (.seq (.reg [] [] [.T 58 (.bin .eql (.tmp 55) (cI 0)), .N 57 58]) (.cond (.tmp 57) (some 57) (.seq (.reg [] [] [.M 59 13, .N 8 59, .K 9 (.mv (cI 1))]) (.ret)) (.seq (.reg [] [] [.T 61 (.bin .eql (.tmp 55) (cI 12)), .N 60 61]) (.cond (.tmp 60) (some 60) (.seq (.reg [] [] [.M 62 13, .N 8 62, .K 9 (.mv (cI 2))]) (.ret)) (.seq (.reg [] [] [.M 56 13, .N 8 56, .K 9 (.mv (cI 0))]) (.ret))))))))))))))
theorem is125 : IsF C 125 63 1333065575601045263 c125 [.tmp 8, .tmp 9] := ⟨⟨Tryd.f125, _, C_P ▸ Tryd.func125, rfl, rfl, rfl, by kernel_rfl, rfl⟩⟩
theorem qfe9 {s1 : Int} {s2 : Int} {o0 : List Bind} {g1 : AHeap} {v0 : Nat} {n0 : Nat} {g2 : AHeap} (hln0 : o0.length = n0) {r : Int × Int} (hr : qbI9 s1 s2 o0 = some r) : ∃ hz : AHeap, Lim C 125 [.ref g1.length v0 0 n0, PI s1, PI s2, .fn 84 []] (g1 ++ (.row false v0 2 (rowP qc9 o0) :: g2)) = some (resOf [PI r.1, PI r.2], (g1 ++ (.row false v0 2 (rowP qc9 o0) :: (g2 ++ hz)))) := by
  simp only [qbI9] at hr
  obtain ⟨x1, h1, hr⟩ := bsome hr
  rcases iteP hr with ⟨h2, hr⟩ | ⟨h2, hr⟩
  rcases iteP hr with ⟨h3, hr⟩ | ⟨h3, hr⟩
  obtain ⟨x2, h4, x3, h5, x4, h6, x5, h7, hr⟩ := bs4 hr
  have h4k := qh9 rfl rfl rfl (qdb9 (g1 := g1) (v0 := v0) (n0 := n0) (g2 := g2) (g3 := []) (show o0.length = n0 by first | assumption | (simp only [llA, lrA]; first | done | assumption | omega) | omega) h4)
  try simp only [go_sem] at h4k
  have h5k := qh9 rfl rfl rfl (qdb9 (g1 := g1) (v0 := v0) (n0 := n0) (g2 := g2) (g3 := []) (show o0.length = n0 by first | assumption | (simp only [llA, lrA]; first | done | assumption | omega) | omega) h5)
  try simp only [go_sem] at h5k
  have h6k := qh9 rfl rfl rfl (qdb9 (g1 := g1) (v0 := v0) (n0 := n0) (g2 := g2) (g3 := []) (show o0.length = n0 by first | assumption | (simp only [llA, lrA]; first | done | assumption | omega) | omega) h6)
  try simp only [go_sem] at h6k
  have h7k := qh9 rfl rfl rfl (qeR9 (g1 := g1) (v0 := v0) (n0 := n0) (g2 := g2) (g3 := []) (show o0.length = n0 by first | assumption | (simp only [llA, lrA]; first | done | assumption | omega) | omega) h7)
  try simp only [go_sem] at h7k
  rcases iteP hr with ⟨h8, hr⟩ | ⟨h8, hr⟩
  obtain rfl := oiA hr
  refine ⟨(.row false 0 1 [[PI x5.2]] :: []), run_L is125 (nbA rfl) ?_⟩
  rotate_left
  rcases iteP hr with ⟨h9, hr⟩ | ⟨h9, hr⟩
  obtain rfl := oiA hr
  refine ⟨(.row false 0 1 [[PI x5.2]] :: []), run_L is125 (nbA rfl) ?_⟩
  rotate_left
  obtain rfl := oiA hr
  refine ⟨(.row false 0 1 [[PI x5.2]] :: []), run_L is125 (nbA rfl) ?_⟩
  rotate_left
  obtain ⟨x6, h10, hr⟩ := bsome hr
  have h10k := qh9 rfl rfl rfl (qeR9 (g1 := g1) (v0 := v0) (n0 := n0) (g2 := g2) (g3 := []) (show o0.length = n0 by first | assumption | (simp only [llA, lrA]; first | done | assumption | omega) | omega) h10)
  try simp only [go_sem] at h10k
  rcases iteP hr with ⟨h11, hr⟩ | ⟨h11, hr⟩
  obtain rfl := oiA hr
  refine ⟨(.row false 0 1 [[PI x6.2]] :: []), run_L is125 (nbA rfl) ?_⟩
  rotate_left
  rcases iteP hr with ⟨h12, hr⟩ | ⟨h12, hr⟩
  obtain rfl := oiA hr
  refine ⟨(.row false 0 1 [[PI x6.2]] :: []), run_L is125 (nbA rfl) ?_⟩
  rotate_left
  obtain rfl := oiA hr
  refine ⟨(.row false 0 1 [[PI x6.2]] :: []), run_L is125 (nbA rfl) ?_⟩
  rotate_left
  obtain rfl := oiA hr
  refine ⟨(.row false 0 1 [[PI 0]] :: []), run_L is125 (nbA rfl) ?_⟩
  rotate_left
  all_goals (simp +decide only [go_sem, c125, *])
def qmS9 : ACode := .seq (.seq (.reg [] [] [.M 13 8, .M 14 9, .K 15 (.bin .lss (.tmp 13) (.tmp 14))]) (.cond (.tmp 15) (some 15) (.skip) (.exit 0))) (.block 1 32768 (.seq (.reg [] [] [.M 16 0, .M 17 8, .M 18 0, .M 19 9, .M 20 0, .M 21 9, ⟨some (22, false), .ix 2 (.tmp 20) (.tmp 21), none, true, false⟩, ⟨some (23, false), .load (some 2) (.tmp 22), none, true, false⟩, .M 24 0, .M 25 8, ⟨some (26, false), .ix 2 (.tmp 24) (.tmp 25), none, true, false⟩, ⟨some (27, false), .load (some 2) (.tmp 26), none, true, false⟩, ⟨some (28, false), .ix 2 (.tmp 16) (.tmp 17), none, true, false⟩, ⟨none, .store 2 (.tmp 28) (.tmp 23), none, false, false⟩, ⟨some (29, false), .ix 2 (.tmp 18) (.tmp 19), none, true, false⟩, ⟨none, .store 2 (.tmp 29) (.tmp 27), none, false, false⟩]) (.seq (.reg [] [] [.M 30 8, .T 31 (.bin .add (.tmp 30) (cI 1)), .N 8 31]) (.reg [] [] [.M 32 9, .T 33 (.bin .sub (.tmp 32) (cI 1)), .N 9 33]))))
def c126 : ACode := .seq (.reg [] [] [.M 10 1, .N 8 10]) (.seq (.reg [] [] [.M 11 2, .T 12 (.bin .sub (.tmp 11) (cI 1)), .N 9 12]) (.block 0 32768 (.loop qmS9)))
theorem is126 : IsF C 126 34 33543 c126 [] := ⟨⟨Tryd.f126, _, C_P ▸ Tryd.func126, rfl, rfl, rfl, by kernel_rfl, rfl⟩⟩
def qcu9 (s1 : Int) (s2 : Int) (g1 : AHeap) (v0 : Nat) (n0 : Nat) (g2 : AHeap) : Int × Int × (List Bind) → Unit → St := fun (s8, s9, o0) _ => ⟨[(0, .ref g1.length v0 0 n0), (1, PI s1), (2, PI s2), (8, PI s8), (9, PI s9)], (g1 ++ (.row false v0 2 (rowP qc9 o0) :: g2))⟩
def qeD9 (s1 : Int) (s2 : Int) (g1 : AHeap) (v0 : Nat) (n0 : Nat) (g2 : AHeap) : Int × Int × (List Bind) → Prop := fun (s8, s9, o0) => o0.length = n0
def qhG9 (s1 : Int) (s2 : Int) (g1 : AHeap) (v0 : Nat) (n0 : Nat) (g2 : AHeap) : (Int × Int × (List Bind)) → AExit × St → Prop := fun (s8, s9, o0) q => ∃ g, q = (.exit 0, qcu9 s1 s2 g1 v0 n0 g2 (s8, s9, o0) g) ∧ o0.length = n0
theorem qhF9 {s1 : Int} {s2 : Int} {g1 : AHeap} {v0 : Nat} {n0 : Nat} {g2 : AHeap} : SimI C 33543 qmS9 (qeD9 s1 s2 g1 v0 n0 g2) (qR9 s1 s2) (qcu9 s1 s2 g1 v0 n0 g2) (qhG9 s1 s2 g1 v0 n0 g2) := by
  intro s g r hI hr
  obtain ⟨s8, s9, o0⟩ := s
  simp only [qeD9] at hI
  have hI0 := hI
  simp only [qR9] at hr
  rcases iteP hr with ⟨h1, hr⟩ | ⟨h1, hr⟩
  obtain ⟨x1, h2, x2, h3, x3, h4, hr⟩ := bs3 hr
  have h2a := eq_true (qa9 h2).1
  have h2b : (s9 < (n0 : Int)) = True := eq_true (by have hb : s9 < (o0.length : Int) := (qa9 h2).2.1; omega)
  have h2c := (qa9 h2).2.2
  have h3a := eq_true (qa9 h3).1
  have h3b : (s8 < (n0 : Int)) = True := eq_true (by have hb : s8 < (o0.length : Int) := (qa9 h3).2.1; omega)
  have h3c := (qa9 h3).2.2
  have h4a := eq_true (qa9 h4).1
  have h4b : (s9 < (n0 : Int)) = True := eq_true (by have hb : s9 < ((o0.set (s8).toNat x1).length : Int) := (qa9 h4).2.1; simp only [llA, lrA] at hb; omega)
  have h4c := (qa9 h4).2.2
  obtain rfl := oiA hr
  refine ⟨⟨(), ?_⟩, (show ((o0.set (s8).toNat x1).set (s9).toNat x2).length = n0 by first | assumption | (simp only [llA, lrA]; first | done | assumption | omega) | omega)⟩
  rotate_left
  obtain rfl := oiA hr
  refine xe_of ⟨(), rfl, (show o0.length = n0 by first | assumption | (simp only [llA, lrA]; first | done | assumption | omega) | omega)⟩ ?_
  rotate_left
  all_goals (simp +decide only [go_sem, qcu9, qmS9, *])
theorem qeO9 {s1 : Int} {s2 : Int} {o0 : List Bind} {g1 : AHeap} {v0 : Nat} {n0 : Nat} {g2 : AHeap} (hln0 : o0.length = n0) {r : (List Bind)} (hr : qbi9 s1 s2 o0 = some r) : Lim C 126 [.ref g1.length v0 0 n0, PI s1, PI s2, .fn 84 []] (g1 ++ (.row false v0 2 (rowP qc9 o0) :: g2)) = some (resOf [], (g1 ++ (.row false v0 2 (rowP qc9 r) :: g2))) ∧ r.length = n0 := by
  simp only [qbi9] at hr
  obtain ⟨x4, h1, hr⟩ := bsome hr
  obtain ⟨q1, h1L, h1X⟩ := (qhF9 (g1 := g1) (v0 := v0) (n0 := n0) (g2 := g2)).L (g := ()) h1 (show o0.length = n0 by first | assumption | (simp only [llA, lrA]; first | done | assumption | omega) | omega)
  obtain ⟨x5, x6, x7⟩ := x4
  try dsimp only at hr
  obtain ⟨⟨⟩, rfl, h1l0⟩ := h1X
  simp only [qcu9, go_sem] at h1L
  try simp only [hln0] at h1L
  obtain rfl := oiA hr
  refine ⟨run_L is126 (nbA rfl) ?_, (show x7.length = n0 by first | assumption | (simp only [llA, lrA]; first | done | assumption | omega) | omega)⟩
  rotate_left
  all_goals (simp +decide only [go_sem, c126, *])
def c137 : ACode := .seq (.reg [] [] [.K 2 (.mv (.const (.int .u64 0)))]) (.seq (.reg [] [] [.M 3 0, .T 4 (.wrap .u64 (.tmp 3)), .T 5 (.call 106 [.tmp 4]), .T 6 (.sh .shl (.const (.int .u64 1)) (.tmp 5)), .N 2 6]) (.ret))
theorem is137 : IsF C 137 7 5 c137 [.tmp 2] := ⟨⟨Tryd.f137, _, C_P ▸ Tryd.func137, rfl, rfl, rfl, by kernel_rfl, rfl⟩⟩
theorem qik9 {a0 : Int} {r : Int} (hr : qcq9 a0 = some r) : Res C 137 [.v (.int .i64 a0)] (.d (.v (.int .u64 r))) := by
  simp only [qcq9] at hr
  obtain ⟨x1, h1, x2, h2, hr⟩ := bs2 hr
  have h1k := fun h => qip9 (h := h) h1
  try simp only [go_sem] at h1k
  obtain rfl := oiA hr
  refine run_V is137 (nbA rfl) ?_
  rotate_left
  all_goals (simp +decide only [go_sem, c137, *])
def c138 : ACode := .seq (.reg [] [] [.K 2 (.mv (.const (.int .u64 0)))]) (.seq (.reg [] [] [.M 3 0, .T 4 (.nilC (.tmp 3)), ⟨some (5, false), .load none (.tmp 4), none, true, false⟩, .M 6 0, .T 7 (.nilC (.tmp 6)), ⟨some (8, false), .load none (.tmp 7), none, true, false⟩, .T 9 (.sh .shl (.tmp 8) (.const (.int .u64 13))), .T 10 (.binM .xor (.tmp 5) (.tmp 9)), .T 11 (.nilC (.tmp 3)), ⟨none, .store 1 (.tmp 11) (.tmp 10), none, false, false⟩]) (.seq (.reg [] [] [.M 12 0, .T 13 (.nilC (.tmp 12)), ⟨some (14, false), .load none (.tmp 13), none, true, false⟩, .M 15 0, .T 16 (.nilC (.tmp 15)), ⟨some (17, false), .load none (.tmp 16), none, true, false⟩, .T 18 (.sh .shr (.tmp 17) (.const (.int .u64 7))), .T 19 (.binM .xor (.tmp 14) (.tmp 18)), .T 20 (.nilC (.tmp 12)), ⟨none, .store 1 (.tmp 20) (.tmp 19), none, false, false⟩]) (.seq (.reg [] [] [.M 21 0, .T 22 (.nilC (.tmp 21)), ⟨some (23, false), .load none (.tmp 22), none, true, false⟩, .M 24 0, .T 25 (.nilC (.tmp 24)), ⟨some (26, false), .load none (.tmp 25), none, true, false⟩, .T 27 (.sh .shl (.tmp 26) (.const (.int .u64 17))), .T 28 (.binM .xor (.tmp 23) (.tmp 27)), .T 29 (.nilC (.tmp 21)), ⟨none, .store 1 (.tmp 29) (.tmp 28), none, false, false⟩]) (.seq (.reg [] [] [.M 30 0, .T 31 (.nilC (.tmp 30)), .T 32 (.load none (.tmp 31)), .N 2 32]) (.ret)))))
theorem is138 : IsF C 138 33 5 c138 [.tmp 2] := ⟨⟨Tryd.f138, _, C_P ▸ Tryd.func138, rfl, rfl, rfl, by kernel_rfl, rfl⟩⟩
theorem qiz9 {b0_0 : Int} {g1 : AHeap} {g2 : AHeap} {r : Int × Int} (hr : qcA9 b0_0 = some r) : Lim C 138 [.ptr g1.length 0 0 0] (g1 ++ (.row false 0 1 [[.d (.v (.int .u64 b0_0))]] :: g2)) = some (resOf [.d (.v (.int .u64 r.1))], (g1 ++ (.row false 0 1 [[.d (.v (.int .u64 r.2))]] :: g2))) := by
  simp only [qcA9] at hr
  obtain ⟨x1, h1, x2, h2, x3, h3, hr⟩ := bs3 hr
  obtain rfl := oiA hr
  refine run_L is138 (nbA rfl) ?_
  rotate_left
  all_goals (simp +decide only [go_sem, c138, *])
end Ld

import Derived.Test.YtfjgfcnhklopdaaDoorWKC
set_option maxHeartbeats 4000000
set_option linter.unusedVariables false
set_option linter.unusedSimpArgs false
namespace Ld
open Go Go.Proofs Go.Abs
set_option maxRecDepth 8000
theorem qiy9 {a0 r : Int} (hr : qdK9 a0 = some r) {h : AHeap} : callP C (Lim C) 106 [.d (.v (.int .u64 a0))] h = some (.d (.v (.int .i64 r)), h) := by
  have e : C.prim 106 = some qcU9 := rfl
  obtain ⟨h1, h2⟩ := gsome hr
  simp only [callP, e, qcU9]
  rw [if_pos (of_eq_true h1)]
  rw [← oiA h2]

def c107 : ACode := .seq (.reg [] [] [.K 2 (.mv (.const (.bool false)))]) (.seq (.reg [] [] [.M 3 0, .M 4 0, .T 5 (.bin .neq (.tmp 3) (.tmp 4)), .N 2 5]) (.ret))
theorem is107 : IsF C 107 6 5 c107 [.tmp 2] := ⟨⟨Tryd.f107, _, C_P ▸ Tryd.func107, rfl, rfl, rfl, by kernel_rfl, rfl⟩⟩
set_option maxHeartbeats 60000000 in
theorem qiq9 {a0 : Int} {r : Bool} (hr : qdM9 a0 = some r) : Res C 107 [.v (.int .i64 a0)] (PB r) := by
  simp only [qdM9] at hr
  obtain rfl := oiA hr
  refine run_V is107 (nbA rfl) ?_
  rotate_left
  all_goals (simp +decide only [go_sem, c107, *])
def c85 : ACode := .seq (.reg [] [] [.K 4 (.mv (cI 0))]) (.seq (.reg [] [] [.M 7 0, .T 8 (.call 107 [.tmp 7]), .N 5 8]) (.seq (.reg [] [] [.M 9 1, .T 10 (.call 107 [.tmp 9]), .N 6 10]) (.seq (.seq (.reg [] [] [.N 11 5]) (.cond (.tmp 11) (some 11) (.seq (.seq (.reg [] [] [.N 12 6]) (.cond (.tmp 12) (some 12) (.seq (.reg [] [] [.K 4 (.mv (cI 0))]) (.ret)) (.skip))) (.seq (.reg [] [] [.K 4 (.mv (cI (-1)))]) (.ret))) (.skip))) (.seq (.seq (.reg [] [] [.N 13 6]) (.cond (.tmp 13) (some 13) (.seq (.reg [] [] [.K 4 (.mv (cI 1))]) (.ret)) (.skip))) (.seq (.seq (.reg [] [] [.M 14 0, .M 15 1, .K 16 (.bin .lss (.tmp 14) (.tmp 15))]) (.cond (.tmp 16) (some 16) (.seq (.reg [] [] [.K 4 (.mv (cI (-1)))]) (.ret)) (.skip))) (.seq (.seq (.reg [] [] [.M 17 0, .M 18 1, .K 19 (.bin .gtr (.tmp 17) (.tmp 18))]) (.cond (.tmp 19) (some 19) (.seq (.reg [] [] [.K 4 (.mv (cI 1))]) (.ret)) (.skip))) (.seq (.reg [] [] [.K 4 (.mv (cI 0))]) (.ret))))))))
theorem is85 : IsF C 85 20 604275 c85 [.tmp 4] := ⟨⟨Tryd.f85, _, C_P ▸ Tryd.func85, rfl, rfl, rfl, by kernel_rfl, rfl⟩⟩
set_option maxHeartbeats 60000000 in
theorem qkD9 {a0 : Int} {a1 : Int} {r : Int} (hr : qeI9 a0 a1 = some r) : Res C 85 [.v (.int .i64 a0), .v (.int .i64 a1)] (PI r) := by
  simp only [qeI9] at hr
  obtain ⟨x1, h1, x2, h2, hr⟩ := bs2 hr
  have h1k := (qiq9 h1).k rfl rfl rfl
  try simp only [go_sem] at h1k
  have h2k := (qiq9 h2).k rfl rfl rfl
  try simp only [go_sem] at h2k
  rcases iteB hr with ⟨h3, hr⟩ | ⟨h3, hr⟩
  rcases iteB hr with ⟨h4, hr⟩ | ⟨h4, hr⟩
  obtain rfl := oiA hr
  refine run_V is85 (nbA rfl) ?_
  rotate_left
  obtain rfl := oiA hr
  refine run_V is85 (nbA rfl) ?_
  rotate_left
  rcases iteB hr with ⟨h5, hr⟩ | ⟨h5, hr⟩
  obtain rfl := oiA hr
  refine run_V is85 (nbA rfl) ?_
  rotate_left
  rcases iteP hr with ⟨h6, hr⟩ | ⟨h6, hr⟩
  obtain rfl := oiA hr
  refine run_V is85 (nbA rfl) ?_
  rotate_left
  rcases iteP hr with ⟨h7, hr⟩ | ⟨h7, hr⟩
  obtain rfl := oiA hr
  refine run_V is85 (nbA rfl) ?_
  rotate_left
  obtain rfl := oiA hr
  refine run_V is85 (nbA rfl) ?_
  rotate_left
  all_goals (simp +decide only [go_sem, c85, *])
def c84 : ACode := .seq (.reg [] [] [.K 2 (.box (.tmp 0)), .K 3 (.box (.tmp 1)), .K 4 (.mv (cI 0))]) (.seq (.reg [] [] [.T 5 (.fa 0 (.tmp 2)), .T 6 (.load none (.tmp 5)), .T 7 (.fa 0 (.tmp 3)), .T 8 (.load none (.tmp 7)), .T 9 (.call 85 [.tmp 6, .tmp 8]), .N 4 9]) (.ret))
theorem is84 : IsF C 84 10 31 c84 [.tmp 4] := ⟨⟨Tryd.f84, _, C_P ▸ Tryd.func84, rfl, rfl, rfl, by kernel_rfl, rfl⟩⟩
set_option maxHeartbeats 60000000 in
theorem qv9 {a0 : Bind} {a1 : Bind} {r : Int} (hr : qi9 a0 a1 = some r) : Res C 84 [.ag (qc9 a0), .ag (qc9 a1)] (PI r) := by
  simp only [qi9] at hr
  obtain ⟨x1, h1, hr⟩ := bsome hr
  have h1k := (qkD9 h1).k rfl rfl rfl
  try simp only [go_sem] at h1k
  obtain rfl := oiA hr
  refine run_V is84 (nbA rfl) ?_
  rotate_left
  all_goals (simp +decide only [go_sem, c84, *])
def qmT9 : ACode := .seq (.seq (.reg [] [] [.M 18 9, .M 19 1, .T 20 (.bin .gtr (.tmp 18) (.tmp 19)), .M 21 20, .MG 22 21 true 3, .MG 23 21 true 0, .MG 24 21 true 9, ⟨some (25, false), .ix 2 (.tmp 23) (.tmp 24), some (21, true), true, false⟩, ⟨some (26, false), .load (some 2) (.tmp 25), some (21, true), true, false⟩, .MG 27 21 true 0, .MG 28 21 true 9, .TG 29 21 true (.bin .sub (.tmp 28) (cI 1)), ⟨some (30, false), .ix 2 (.tmp 27) (.tmp 29), some (21, true), true, false⟩, ⟨some (31, false), .load (some 2) (.tmp 30), some (21, true), true, false⟩, ⟨some (32, false), .callV (.tmp 22) [.tmp 26, .tmp 31], some (21, true), true, false⟩, .TG 33 21 true (.bin .lss (.tmp 32) (cI 0)), .K 34 (.pick (.tmp 21) (.tmp 33) (.const (.bool false)))]) (.cond (.tmp 34) (some 34) (.skip) (.exit 2))) (.seq (.block 3 17179869184 (.reg [] [] [.M 37 0, .M 38 9, .M 39 0, .M 40 9, .T 41 (.bin .sub (.tmp 40) (cI 1)), .M 42 0, .M 43 9, .T 44 (.bin .sub (.tmp 43) (cI 1)), ⟨some (45, false), .ix 2 (.tmp 42) (.tmp 44), none, true, false⟩, ⟨some (46, false), .load (some 2) (.tmp 45), none, true, false⟩, .M 47 0, .M 48 9, ⟨some (49, false), .ix 2 (.tmp 47) (.tmp 48), none, true, false⟩, ⟨some (50, false), .load (some 2) (.tmp 49), none, true, false⟩, ⟨some (51, false), .ix 2 (.tmp 37) (.tmp 38), none, true, false⟩, ⟨none, .store 2 (.tmp 51) (.tmp 46), none, false, false⟩, ⟨some (52, false), .ix 2 (.tmp 39) (.tmp 41), none, true, false⟩, ⟨none, .store 2 (.tmp 52) (.tmp 50), none, false, false⟩])) (.reg [] [] [.M 35 9, .T 36 (.bin .sub (.tmp 35) (cI 1)), .N 9 36]))
def qmV9 : ACode := .seq (.seq (.reg [] [] [.M 12 8, .M 13 2, .K 14 (.bin .lss (.tmp 12) (.tmp 13))]) (.cond (.tmp 14) (some 14) (.skip) (.exit 0))) (.seq (.block 1 17179886080 (.seq (.reg [] [] [.M 17 8, .N 9 17]) (.block 2 17179886080 (.loop qmT9)))) (.reg [] [] [.M 15 8, .T 16 (.bin .add (.tmp 15) (cI 1)), .N 8 16]))
def c122 : ACode := .seq (.reg [] [] [.M 10 1, .T 11 (.bin .add (.tmp 10) (cI 1)), .N 8 11]) (.block 0 17179886080 (.loop qmV9))
theorem is122 : IsF C 122 53 17179886351 c122 [] := ⟨⟨Tryd.f122, _, C_P ▸ Tryd.func122, rfl, rfl, rfl, by kernel_rfl, rfl⟩⟩
def qdh9 (s1 : Int) (s2 : Int) (s8 : Int) (g1 : AHeap) (v0 : Nat) (n0 : Nat) (g2 : AHeap) : Int × (List Bind) → AHeap → St := fun (s9, o0) gt => ⟨[(0, .ref g1.length v0 0 n0), (1, PI s1), (2, PI s2), (3, .fn 84 []), (8, PI s8), (9, PI s9)], (g1 ++ (.row false v0 2 (rowP qc9 o0) :: (g2 ++ gt)))⟩
def qeB9 (s1 : Int) (s2 : Int) (s8 : Int) (g1 : AHeap) (v0 : Nat) (n0 : Nat) (g2 : AHeap) : Int × (List Bind) → Prop := fun (s9, o0) => o0.length = n0
def qhy9 (s1 : Int) (s2 : Int) (s8 : Int) (g1 : AHeap) (v0 : Nat) (n0 : Nat) (g2 : AHeap) : ((List Bind)) → AExit × St → Prop := fun o0 q => ∃ d9 : PV, ∃ h1 : AHeap, q = (.exit 2, ⟨[(0, .ref g1.length v0 0 n0), (1, PI s1), (2, PI s2), (3, .fn 84 []), (8, PI s8), (9, d9)], (g1 ++ (.row false v0 2 (rowP qc9 o0) :: (g2 ++ h1)))⟩) ∧ o0.length = n0
set_option maxHeartbeats 60000000 in
theorem qhB9 {s1 : Int} {s2 : Int} {s8 : Int} {g1 : AHeap} {v0 : Nat} {n0 : Nat} {g2 : AHeap} : SimI C 17179886351 qmT9 (qeB9 s1 s2 s8 g1 v0 n0 g2) (qW9 s1 s2 s8) (qdh9 s1 s2 s8 g1 v0 n0 g2) (qhy9 s1 s2 s8 g1 v0 n0 g2) := by
  intro s g r hI hr
  obtain ⟨s9, o0⟩ := s
  have ⟨gt, hg0⟩ : ∃ y, y = g := ⟨_, rfl⟩
  subst hg0
  simp only [qeB9] at hI
  have hI0 := hI
  simp only [qW9] at hr
  rcases iteP hr with ⟨h1, hr⟩ | ⟨h1, hr⟩
  obtain ⟨x1, h2, x2, h3, x3, h4, hr⟩ := bs3 hr
  have h2a := eq_true (qa9 h2).1
  have h2b : (s9 < (n0 : Int)) = True := eq_true (by have hb : s9 < (o0.length : Int) := (qa9 h2).2.1; omega)
  have h2c := (qa9 h2).2.2
  have h3a := eq_true (qa9 h3).1
  have h3b : ((w64 (s9 - 1)) < (n0 : Int)) = True := eq_true (by have hb : (w64 (s9 - 1)) < (o0.length : Int) := (qa9 h3).2.1; omega)
  have h3c := (qa9 h3).2.2
  have h4k := fun h => (qv9 h4).o rfl rfl rfl (h := h) (args := [.ag [PI x1.Var, .d (.rd (x1.T.map intD))], .ag [PI x2.Var, .d (.rd (x2.T.map intD))]]) rfl
  try simp only [go_sem] at h4k
  rcases iteP hr with ⟨h5, hr⟩ | ⟨h5, hr⟩
  obtain ⟨x4, h6, hr⟩ := bsome hr
  have h6a := eq_true (qa9 h6).1
  have h6b : ((w64 (s9 - 1)) < (n0 : Int)) = True := eq_true (by have hb : (w64 (s9 - 1)) < ((o0.set (s9).toNat x2).length : Int) := (qa9 h6).2.1; simp only [llA, lrA] at hb; omega)
  have h6c := (qa9 h6).2.2
  obtain rfl := oiA hr
  refine ⟨⟨gt, ?_⟩, (show ((o0.set (s9).toNat x2).set (w64 (s9 - 1)).toNat x1).length = n0 by first | assumption | (simp only [llA, lrA]; first | done | assumption | omega) | omega)⟩
  rotate_left
  obtain rfl := oiA hr
  refine xe_of ⟨PI s9, gt, rfl, (show o0.length = n0 by first | assumption | (simp only [llA, lrA]; first | done | assumption | omega) | omega)⟩ ?_
  rotate_left
  obtain rfl := oiA hr
  refine xe_of ⟨PI s9, gt, rfl, (show o0.length = n0 by first | assumption | (simp only [llA, lrA]; first | done | assumption | omega) | omega)⟩ ?_
  rotate_left
  all_goals (simp +decide only [go_sem, qdh9, qmT9, *])
def qcn9 (s1 : Int) (s2 : Int) (g1 : AHeap) (v0 : Nat) (n0 : Nat) (g2 : AHeap) : Int × (List Bind) → AHeap → St := fun (s8, o0) gt => ⟨[(0, .ref g1.length v0 0 n0), (1, PI s1), (2, PI s2), (3, .fn 84 []), (8, PI s8)], (g1 ++ (.row false v0 2 (rowP qc9 o0) :: (g2 ++ gt)))⟩
def qeA9 (s1 : Int) (s2 : Int) (g1 : AHeap) (v0 : Nat) (n0 : Nat) (g2 : AHeap) : Int × (List Bind) → Prop := fun (s8, o0) => o0.length = n0
def qhD9 (s1 : Int) (s2 : Int) (g1 : AHeap) (v0 : Nat) (n0 : Nat) (g2 : AHeap) : (Int × (List Bind)) → AExit × St → Prop := fun (s8, o0) q => ∃ g, q = (.exit 0, qcn9 s1 s2 g1 v0 n0 g2 (s8, o0) g) ∧ o0.length = n0
set_option maxHeartbeats 60000000 in
theorem qhw9 {s1 : Int} {s2 : Int} {g1 : AHeap} {v0 : Nat} {n0 : Nat} {g2 : AHeap} : SimI C 17179886351 qmV9 (qeA9 s1 s2 g1 v0 n0 g2) (qP9 s1 s2) (qcn9 s1 s2 g1 v0 n0 g2) (qhD9 s1 s2 g1 v0 n0 g2) := by
  intro s g r hI hr
  obtain ⟨s8, o0⟩ := s
  have ⟨gt, hg0⟩ : ∃ y, y = g := ⟨_, rfl⟩
  subst hg0
  simp only [qeA9] at hI
  have hI0 := hI
  simp only [qP9] at hr
  rcases iteP hr with ⟨h1, hr⟩ | ⟨h1, hr⟩
  obtain ⟨x5, h2, hr⟩ := bsome hr
  obtain ⟨q2, h2L, h2X⟩ := (qhB9 (g1 := g1) (v0 := v0) (n0 := n0) (g2 := (g2 ++ gt))).L (g := []) h2 (show o0.length = n0 by first | assumption | (simp only [llA, lrA]; first | done | assumption | omega) | omega)
  have ⟨x6, hq2⟩ : ∃ y, y = x5 := ⟨_, rfl⟩
  subst hq2
  try dsimp only at hr
  obtain ⟨z7, z8, rfl, h2l0⟩ := h2X
  simp only [qdh9, go_sem] at h2L
  try simp only [hI0] at h2L
  obtain rfl := oiA hr
  refine ⟨⟨(gt ++ z8), ?_⟩, (show x6.length = n0 by first | assumption | (simp only [llA, lrA]; first | done | assumption | omega) | omega)⟩
  rotate_left
  obtain rfl := oiA hr
  refine xe_of ⟨gt, rfl, (show o0.length = n0 by first | assumption | (simp only [llA, lrA]; first | done | assumption | omega) | omega)⟩ ?_
  rotate_left
  all_goals (simp +decide only [go_sem, qcn9, qmV9, *])
set_option maxHeartbeats 60000000 in
theorem qhJ9 {s1 : Int} {s2 : Int} {o0 : List Bind} {g1 : AHeap} {v0 : Nat} {n0 : Nat} {g2 : AHeap} (hln0 : o0.length = n0) {r : (List Bind)} (hr : qbW9 s1 s2 o0 = some r) : ∃ hz : AHeap, Lim C 122 [.ref g1.length v0 0 n0, PI s1, PI s2, .fn 84 []] (g1 ++ (.row false v0 2 (rowP qc9 o0) :: g2)) = some (resOf [], (g1 ++ (.row false v0 2 (rowP qc9 r) :: (g2 ++ hz)))) ∧ r.length = n0 := by
  simp only [qbW9] at hr
  obtain ⟨x9, h1, hr⟩ := bsome hr
  obtain ⟨q1, h1L, h1X⟩ := (qhw9 (g1 := g1) (v0 := v0) (n0 := n0) (g2 := g2)).L (g := []) h1 (show o0.length = n0 by first | assumption | (simp only [llA, lrA]; first | done | assumption | omega) | omega)
  obtain ⟨x10, x11⟩ := x9
  try dsimp only at hr
  obtain ⟨z12, rfl, h1l0⟩ := h1X
  simp only [qcn9, go_sem] at h1L
  try simp only [hln0] at h1L
  obtain rfl := oiA hr
  refine ⟨z12, run_L is122 (nbA rfl) ?_, (show x11.length = n0 by first | assumption | (simp only [llA, lrA]; first | done | assumption | omega) | omega)⟩
  rotate_left
  all_goals (simp +decide only [go_sem, c122, *])
def qmA9 : ACode := .block 1 288231475663603712 (.seq (.reg [] [] [.M 13 10, .T 14 (.bin .mul (cI 2) (.tmp 13)), .T 15 (.bin .add (.tmp 14) (cI 1)), .N 11 15]) (.seq (.seq (.reg [] [] [.M 16 11, .M 17 2, .K 18 (.bin .geq (.tmp 16) (.tmp 17))]) (.cond (.tmp 18) (some 18) (.exit 0) (.skip))) (.seq (.seq (.reg [] [] [.M 19 11, .T 20 (.bin .add (.tmp 19) (cI 1)), .M 21 2, .T 22 (.bin .lss (.tmp 20) (.tmp 21)), .M 23 22, .MG 24 23 true 4, .MG 25 23 true 0, .MG 26 23 true 3, .MG 27 23 true 11, .TG 28 23 true (.bin .add (.tmp 26) (.tmp 27)), ⟨some (29, false), .ix 2 (.tmp 25) (.tmp 28), some (23, true), true, false⟩, ⟨some (30, false), .load (some 2) (.tmp 29), some (23, true), true, false⟩, .MG 31 23 true 0, .MG 32 23 true 3, .MG 33 23 true 11, .TG 34 23 true (.bin .add (.tmp 32) (.tmp 33)), .TG 35 23 true (.bin .add (.tmp 34) (cI 1)), ⟨some (36, false), .ix 2 (.tmp 31) (.tmp 35), some (23, true), true, false⟩, ⟨some (37, false), .load (some 2) (.tmp 36), some (23, true), true, false⟩, ⟨some (38, false), .callV (.tmp 24) [.tmp 30, .tmp 37], some (23, true), true, false⟩, .TG 39 23 true (.bin .lss (.tmp 38) (cI 0)), .K 40 (.pick (.tmp 23) (.tmp 39) (.const (.bool false)))]) (.cond (.tmp 40) (some 40) (.reg [] [] [.M 41 11, .T 42 (.bin .add (.tmp 41) (cI 1)), .N 11 42]) (.skip))) (.seq (.seq (.reg [] [] [.M 43 4, .M 44 0, .M 45 3, .M 46 10, .T 47 (.bin .add (.tmp 45) (.tmp 46)), ⟨some (48, false), .ix 2 (.tmp 44) (.tmp 47), none, true, false⟩, ⟨some (49, false), .load (some 2) (.tmp 48), none, true, false⟩, .M 50 0, .M 51 3, .M 52 11, .T 53 (.bin .add (.tmp 51) (.tmp 52)), ⟨some (54, false), .ix 2 (.tmp 50) (.tmp 53), none, true, false⟩, ⟨some (55, false), .load (some 2) (.tmp 54), none, true, false⟩, ⟨some (56, false), .callV (.tmp 43) [.tmp 49, .tmp 55], none, true, false⟩, .T 57 (.bin .lss (.tmp 56) (cI 0)), .K 58 (.not (.tmp 57))]) (.cond (.tmp 58) (some 58) (.ret) (.skip))) (.seq (.reg [] [] [.M 59 0, .M 60 3, .M 61 10, .T 62 (.bin .add (.tmp 60) (.tmp 61)), .M 63 0, .M 64 3, .M 65 11, .T 66 (.bin .add (.tmp 64) (.tmp 65)), .M 67 0, .M 68 3, .M 69 11, .T 70 (.bin .add (.tmp 68) (.tmp 69)), ⟨some (71, false), .ix 2 (.tmp 67) (.tmp 70), none, true, false⟩, ⟨some (72, false), .load (some 2) (.tmp 71), none, true, false⟩, .M 73 0, .M 74 3, .M 75 10, .T 76 (.bin .add (.tmp 74) (.tmp 75)), ⟨some (77, false), .ix 2 (.tmp 73) (.tmp 76), none, true, false⟩, ⟨some (78, false), .load (some 2) (.tmp 77), none, true, false⟩, ⟨some (79, false), .ix 2 (.tmp 59) (.tmp 62), none, true, false⟩, ⟨none, .store 2 (.tmp 79) (.tmp 72), none, false, false⟩, ⟨some (80, false), .ix 2 (.tmp 63) (.tmp 66), none, true, false⟩, ⟨none, .store 2 (.tmp 80) (.tmp 78), none, false, false⟩]) (.reg [] [] [.M 81 11, .N 10 81]))))))
def c136 : ACode := .seq (.reg [] [] [.M 12 1, .N 10 12]) (.block 0 288231475663603712 (.loop qmA9))
theorem is136 : IsF C 136 82 288231475663604767 c136 [] := ⟨⟨Tryd.f136, _, C_P ▸ Tryd.func136, rfl, rfl, rfl, by kernel_rfl, rfl⟩⟩
def qcY9 (s1 : Int) (s2 : Int) (s3 : Int) (g1 : AHeap) (v0 : Nat) (n0 : Nat) (g2 : AHeap) : Int × (List Bind) → AHeap → St := fun (s10, o0) gt => ⟨[(0, .ref g1.length v0 0 n0), (1, PI s1), (2, PI s2), (3, PI s3), (4, .fn 84 []), (10, PI s10)], (g1 ++ (.row false v0 2 (rowP qc9 o0) :: (g2 ++ gt)))⟩
def qgh9 (s1 : Int) (s2 : Int) (s3 : Int) (g1 : AHeap) (v0 : Nat) (n0 : Nat) (g2 : AHeap) : Int × (List Bind) → Prop := fun (s10, o0) => o0.length = n0
def qiS9 (s1 : Int) (s2 : Int) (s3 : Int) (g1 : AHeap) (v0 : Nat) (n0 : Nat) (g2 : AHeap) : ((Int × (List Bind)) ⊕ ((List Bind))) → AExit × St → Prop
  | .inl (s10, o0), q => ∃ d11 : PV, ∃ h1 : AHeap, q = (.exit 0, ⟨[(0, .ref g1.length v0 0 n0), (1, PI s1), (2, PI s2), (3, PI s3), (4, .fn 84 []), (10, PI s10), (11, d11)], (g1 ++ (.row false v0 2 (rowP qc9 o0) :: (g2 ++ h1)))⟩) ∧ o0.length = n0
  | .inr r, q => XL C [] (fun vs hp => ∃ hz : AHeap, vs = [] ∧ hp = (g1 ++ (.row false v0 2 (rowP qc9 r) :: (g2 ++ hz))) ∧ r.length = n0) q
set_option maxHeartbeats 60000000 in
theorem qiV9 {s1 : Int} {s2 : Int} {s3 : Int} {g1 : AHeap} {v0 : Nat} {n0 : Nat} {g2 : AHeap} : SimI C 288231475663604767 qmA9 (qgh9 s1 s2 s3 g1 v0 n0 g2) (qG9 s1 s2 s3) (qcY9 s1 s2 s3 g1 v0 n0 g2) (qiS9 s1 s2 s3 g1 v0 n0 g2) := by
  intro s g r hI hr
  obtain ⟨s10, o0⟩ := s
  have ⟨gt, hg0⟩ : ∃ y, y = g := ⟨_, rfl⟩
  subst hg0
  simp only [qgh9] at hI
  have hI0 := hI
  simp only [qG9] at hr
  rcases iteP hr with ⟨h1, hr⟩ | ⟨h1, hr⟩
  obtain rfl := oiA hr
  refine xe_of ⟨PI (w64 ((w64 (2 * s10)) + 1)), gt, rfl, (show o0.length = n0 by first | assumption | (simp only [llA, lrA]; first | done | assumption | omega) | omega)⟩ ?_
  rotate_left
  rcases iteP hr with ⟨h2, hr⟩ | ⟨h2, hr⟩
  obtain ⟨x1, h3, x2, h4, x3, h5, hr⟩ := bs3 hr
  have h3a := eq_true (qa9 h3).1
  have h3b : ((w64 (s3 + (w64 ((w64 (2 * s10)) + 1)))) < (n0 : Int)) = True := eq_true (by have hb : (w64 (s3 + (w64 ((w64 (2 * s10)) + 1)))) < (o0.length : Int) := (qa9 h3).2.1; omega)
  have h3c := (qa9 h3).2.2
  have h4a := eq_true (qa9 h4).1
  have h4b : ((w64 ((w64 (s3 + (w64 ((w64 (2 * s10)) + 1)))) + 1)) < (n0 : Int)) = True := eq_true (by have hb : (w64 ((w64 (s3 + (w64 ((w64 (2 * s10)) + 1)))) + 1)) < (o0.length : Int) := (qa9 h4).2.1; omega)
  have h4c := (qa9 h4).2.2
  have h5k := fun h => (qv9 h5).o rfl rfl rfl (h := h) (args := [.ag [PI x1.Var, .d (.rd (x1.T.map intD))], .ag [PI x2.Var, .d (.rd (x2.T.map intD))]]) rfl
  try simp only [go_sem] at h5k
  rcases iteP hr with ⟨h6, hr⟩ | ⟨h6, hr⟩
  obtain ⟨x4, h7, x5, h8, x6, h9, hr⟩ := bs3 hr
  have h7a := eq_true (qa9 h7).1
  have h7b : ((w64 (s3 + s10)) < (n0 : Int)) = True := eq_true (by have hb : (w64 (s3 + s10)) < (o0.length : Int) := (qa9 h7).2.1; omega)
  have h7c := (qa9 h7).2.2
  have h8a := eq_true (qa9 h8).1
  have h8b : ((w64 (s3 + (w64 ((w64 ((w64 (2 * s10)) + 1)) + 1)))) < (n0 : Int)) = True := eq_true (by have hb : (w64 (s3 + (w64 ((w64 ((w64 (2 * s10)) + 1)) + 1)))) < (o0.length : Int) := (qa9 h8).2.1; omega)
  have h8c := (qa9 h8).2.2
  have h9k := fun h => (qv9 h9).o rfl rfl rfl (h := h) (args := [.ag [PI x4.Var, .d (.rd (x4.T.map intD))], .ag [PI x5.Var, .d (.rd (x5.T.map intD))]]) rfl
  try simp only [go_sem] at h9k
  rcases iteP hr with ⟨h10, hr⟩ | ⟨h10, hr⟩
  obtain ⟨x7, h11, hr⟩ := bsome hr
  have h11a := eq_true (qa9 h11).1
  have h11b : ((w64 (s3 + (w64 ((w64 ((w64 (2 * s10)) + 1)) + 1)))) < (n0 : Int)) = True := eq_true (by have hb : (w64 (s3 + (w64 ((w64 ((w64 (2 * s10)) + 1)) + 1)))) < ((o0.set (w64 (s3 + s10)).toNat x5).length : Int) := (qa9 h11).2.1; simp only [llA, lrA] at hb; omega)
  have h11c := (qa9 h11).2.2
  obtain rfl := oiA hr
  refine ⟨⟨gt, ?_⟩, (show ((o0.set (w64 (s3 + s10)).toNat x5).set (w64 (s3 + (w64 ((w64 ((w64 (2 * s10)) + 1)) + 1)))).toNat x4).length = n0 by first | assumption | (simp only [llA, lrA]; first | done | assumption | omega) | omega)⟩
  rotate_left
  obtain rfl := oiA hr
  refine xl_of ⟨gt, rfl, rfl, (show o0.length = n0 by first | assumption | (simp only [llA, lrA]; first | done | assumption | omega) | omega)⟩ ?_
  rotate_left
  obtain ⟨x8, h12, x9, h13, hr⟩ := bs2 hr
  have h12a := eq_true (qa9 h12).1
  have h12b : ((w64 (s3 + s10)) < (n0 : Int)) = True := eq_true (by have hb : (w64 (s3 + s10)) < (o0.length : Int) := (qa9 h12).2.1; omega)
  have h12c := (qa9 h12).2.2
  have h13k := fun h => (qv9 h13).o rfl rfl rfl (h := h) (args := [.ag [PI x8.Var, .d (.rd (x8.T.map intD))], .ag [PI x1.Var, .d (.rd (x1.T.map intD))]]) rfl
  try simp only [go_sem] at h13k
  rcases iteP hr with ⟨h14, hr⟩ | ⟨h14, hr⟩
  obtain ⟨x10, h15, hr⟩ := bsome hr
  have h15a := eq_true (qa9 h15).1
  have h15b : ((w64 (s3 + (w64 ((w64 (2 * s10)) + 1)))) < (n0 : Int)) = True := eq_true (by have hb : (w64 (s3 + (w64 ((w64 (2 * s10)) + 1)))) < ((o0.set (w64 (s3 + s10)).toNat x1).length : Int) := (qa9 h15).2.1; simp only [llA, lrA] at hb; omega)
  have h15c := (qa9 h15).2.2
  obtain rfl := oiA hr
  refine ⟨⟨gt, ?_⟩, (show ((o0.set (w64 (s3 + s10)).toNat x1).set (w64 (s3 + (w64 ((w64 (2 * s10)) + 1)))).toNat x8).length = n0 by first | assumption | (simp only [llA, lrA]; first | done | assumption | omega) | omega)⟩
  rotate_left
  obtain rfl := oiA hr
  refine xl_of ⟨gt, rfl, rfl, (show o0.length = n0 by first | assumption | (simp only [llA, lrA]; first | done | assumption | omega) | omega)⟩ ?_
  rotate_left
  obtain ⟨x11, h16, x12, h17, x13, h18, hr⟩ := bs3 hr
  have h16a := eq_true (qa9 h16).1
  have h16b : ((w64 (s3 + s10)) < (n0 : Int)) = True := eq_true (by have hb : (w64 (s3 + s10)) < (o0.length : Int) := (qa9 h16).2.1; omega)
  have h16c := (qa9 h16).2.2
  have h17a := eq_true (qa9 h17).1
  have h17b : ((w64 (s3 + (w64 ((w64 (2 * s10)) + 1)))) < (n0 : Int)) = True := eq_true (by have hb : (w64 (s3 + (w64 ((w64 (2 * s10)) + 1)))) < (o0.length : Int) := (qa9 h17).2.1; omega)
  have h17c := (qa9 h17).2.2
  have h18k := fun h => (qv9 h18).o rfl rfl rfl (h := h) (args := [.ag [PI x11.Var, .d (.rd (x11.T.map intD))], .ag [PI x12.Var, .d (.rd (x12.T.map intD))]]) rfl
  try simp only [go_sem] at h18k
  rcases iteP hr with ⟨h19, hr⟩ | ⟨h19, hr⟩
  obtain ⟨x14, h20, hr⟩ := bsome hr
  have h20a := eq_true (qa9 h20).1
  have h20b : ((w64 (s3 + (w64 ((w64 (2 * s10)) + 1)))) < (n0 : Int)) = True := eq_true (by have hb : (w64 (s3 + (w64 ((w64 (2 * s10)) + 1)))) < ((o0.set (w64 (s3 + s10)).toNat x12).length : Int) := (qa9 h20).2.1; simp only [llA, lrA] at hb; omega)
  have h20c := (qa9 h20).2.2
  obtain rfl := oiA hr
  refine ⟨⟨gt, ?_⟩, (show ((o0.set (w64 (s3 + s10)).toNat x12).set (w64 (s3 + (w64 ((w64 (2 * s10)) + 1)))).toNat x11).length = n0 by first | assumption | (simp only [llA, lrA]; first | done | assumption | omega) | omega)⟩
  rotate_left
  obtain rfl := oiA hr
  refine xl_of ⟨gt, rfl, rfl, (show o0.length = n0 by first | assumption | (simp only [llA, lrA]; first | done | assumption | omega) | omega)⟩ ?_
  rotate_left
  all_goals (simp +decide only [go_sem, qcY9, qmA9, *])
set_option maxHeartbeats 60000000 in
theorem qgF9 {s1 : Int} {s2 : Int} {s3 : Int} {o0 : List Bind} {g1 : AHeap} {v0 : Nat} {n0 : Nat} {g2 : AHeap} (hln0 : o0.length = n0) {r : (List Bind)} (hr : qbR9 s1 s2 s3 o0 = some r) : ∃ hz : AHeap, Lim C 136 [.ref g1.length v0 0 n0, PI s1, PI s2, PI s3, .fn 84 []] (g1 ++ (.row false v0 2 (rowP qc9 o0) :: g2)) = some (resOf [], (g1 ++ (.row false v0 2 (rowP qc9 r) :: (g2 ++ hz)))) ∧ r.length = n0 := by
  simp only [qbR9] at hr
  obtain ⟨x15, h1, hr⟩ := bsome hr
  obtain ⟨q1, h1L, h1X⟩ := (qiV9 (g1 := g1) (v0 := v0) (n0 := n0) (g2 := g2)).L (g := []) h1 (show o0.length = n0 by first | assumption | (simp only [llA, lrA]; first | done | assumption | omega) | omega)
  rcases x15 with ⟨x16, x17⟩ | x20
  try dsimp only at hr
  obtain ⟨z18, z19, rfl, h1l0⟩ := h1X
  simp only [qcY9, go_sem] at h1L
  try simp only [hln0] at h1L
  obtain rfl := oiA hr
  refine ⟨z19, run_L is136 (nbA rfl) ?_, (show x17.length = n0 by first | assumption | (simp only [llA, lrA]; first | done | assumption | omega) | omega)⟩
  rotate_left
  try dsimp only at hr
  obtain ⟨st1, _, _, rfl, h1R, y1, rfl, rfl, h1f0⟩ := h1X
  simp only [qcY9, go_sem] at h1L
  try simp only [hln0] at h1L
  obtain rfl := oiA hr
  refine ⟨y1, run_L is136 (nbA rfl) ?_, h1f0⟩
  rotate_left
  all_goals (simp +decide only [go_sem, c136, *])
def qmu9 : ACode := .seq (.seq (.reg [] [] [.M 32 12, .K 33 (.bin .geq (.tmp 32) (cI 0))]) (.cond (.tmp 33) (some 33) (.skip) (.exit 2))) (.seq (.block 3 8589934592 (.seq (.reg [] [] [.M 36 0, .M 37 8, .M 38 0, .M 39 8, .M 40 12, .T 41 (.bin .add (.tmp 39) (.tmp 40)), .M 42 0, .M 43 8, .M 44 12, .T 45 (.bin .add (.tmp 43) (.tmp 44)), ⟨some (46, false), .ix 2 (.tmp 42) (.tmp 45), none, true, false⟩, ⟨some (47, false), .load (some 2) (.tmp 46), none, true, false⟩, .M 48 0, .M 49 8, ⟨some (50, false), .ix 2 (.tmp 48) (.tmp 49), none, true, false⟩, ⟨some (51, false), .load (some 2) (.tmp 50), none, true, false⟩, ⟨some (52, false), .ix 2 (.tmp 36) (.tmp 37), none, true, false⟩, ⟨none, .store 2 (.tmp 52) (.tmp 47), none, false, false⟩, ⟨some (53, false), .ix 2 (.tmp 38) (.tmp 41), none, true, false⟩, ⟨none, .store 2 (.tmp 53) (.tmp 51), none, false, false⟩]) (.reg [] [] [.M 54 0, .M 55 9, .M 56 12, .M 57 8, .M 58 3, .T 59 (.call 136 [.tmp 54, .tmp 55, .tmp 56, .tmp 57, .tmp 58])]))) (.reg [] [] [.M 34 12, .T 35 (.bin .sub (.tmp 34) (cI 1)), .N 12 35]))
def qnd9 : ACode := .seq (.seq (.reg [] [] [.M 20 11, .K 21 (.bin .geq (.tmp 20) (cI 0))]) (.cond (.tmp 21) (some 21) (.skip) (.exit 0))) (.seq (.block 1 2097152 (.reg [] [] [.M 24 0, .M 25 11, .M 26 10, .M 27 8, .M 28 3, .T 29 (.call 136 [.tmp 24, .tmp 25, .tmp 26, .tmp 27, .tmp 28])])) (.reg [] [] [.M 22 11, .T 23 (.bin .sub (.tmp 22) (cI 1)), .N 11 23]))
def c123 : ACode := .seq (.reg [] [] [.M 13 1, .N 8 13]) (.seq (.reg [] [] [.K 9 (.mv (cI 0))]) (.seq (.reg [] [] [.M 14 2, .M 15 1, .T 16 (.bin .sub (.tmp 14) (.tmp 15)), .N 10 16]) (.seq (.seq (.reg [] [] [.M 17 10, .T 18 (.bin .sub (.tmp 17) (cI 1)), .T 19 (.binM .quo (.tmp 18) (cI 2)), .N 11 19]) (.block 0 2097152 (.loop qnd9))) (.seq (.reg [] [] [.M 30 10, .T 31 (.bin .sub (.tmp 30) (cI 1)), .N 12 31]) (.block 2 8589934592 (.loop qmu9))))))
theorem is123 : IsF C 123 60 8592039695 c123 [] := ⟨⟨Tryd.f123, _, C_P ▸ Tryd.func123, rfl, rfl, rfl, by kernel_rfl, rfl⟩⟩
def qdc9 (s1 : Int) (s2 : Int) (s8 : Int) (s10 : Int) (s11 : Int) (g1 : AHeap) (v0 : Nat) (n0 : Nat) (g2 : AHeap) : Int × (List Bind) → AHeap → St := fun (s12, o0) gt => ⟨[(0, .ref g1.length v0 0 n0), (1, PI s1), (2, PI s2), (3, .fn 84 []), (8, PI s8), (9, PI 0), (10, PI s10), (11, PI s11), (12, PI s12)], (g1 ++ (.row false v0 2 (rowP qc9 o0) :: (g2 ++ gt)))⟩
def qgf9 (s1 : Int) (s2 : Int) (s8 : Int) (s10 : Int) (s11 : Int) (g1 : AHeap) (v0 : Nat) (n0 : Nat) (g2 : AHeap) : Int × (List Bind) → Prop := fun (s12, o0) => o0.length = n0
def qiT9 (s1 : Int) (s2 : Int) (s8 : Int) (s10 : Int) (s11 : Int) (g1 : AHeap) (v0 : Nat) (n0 : Nat) (g2 : AHeap) : (Int × (List Bind)) → AExit × St → Prop := fun (s12, o0) q => ∃ g, q = (.exit 2, qdc9 s1 s2 s8 s10 s11 g1 v0 n0 g2 (s12, o0) g) ∧ o0.length = n0
set_option maxHeartbeats 60000000 in
theorem qjg9 {s1 : Int} {s2 : Int} {s8 : Int} {s10 : Int} {s11 : Int} {g1 : AHeap} {v0 : Nat} {n0 : Nat} {g2 : AHeap} : SimI C 8592039695 qmu9 (qgf9 s1 s2 s8 s10 s11 g1 v0 n0 g2) (qbu9 s1 s2 s8 s10 s11) (qdc9 s1 s2 s8 s10 s11 g1 v0 n0 g2) (qiT9 s1 s2 s8 s10 s11 g1 v0 n0 g2) := by
  intro s g r hI hr
  obtain ⟨s12, o0⟩ := s
  have ⟨gt, hg0⟩ : ∃ y, y = g := ⟨_, rfl⟩
  subst hg0
  simp only [qgf9] at hI
  have hI0 := hI
  simp only [qbu9] at hr
  rcases iteP hr with ⟨h1, hr⟩ | ⟨h1, hr⟩
  obtain ⟨x8, h2, x9, h3, x10, h4, x11, h5, hr⟩ := bs4 hr
  have h2a := eq_true (qa9 h2).1
  have h2b : ((w64 (s8 + s12)) < (n0 : Int)) = True := eq_true (by have hb : (w64 (s8 + s12)) < (o0.length : Int) := (qa9 h2).2.1; omega)
  have h2c := (qa9 h2).2.2
  have h3a := eq_true (qa9 h3).1
  have h3b : (s8 < (n0 : Int)) = True := eq_true (by have hb : s8 < (o0.length : Int) := (qa9 h3).2.1; omega)
  have h3c := (qa9 h3).2.2
  have h4a := eq_true (qa9 h4).1
  have h4b : ((w64 (s8 + s12)) < (n0 : Int)) = True := eq_true (by have hb : (w64 (s8 + s12)) < ((o0.set (s8).toNat x8).length : Int) := (qa9 h4).2.1; simp only [llA, lrA] at hb; omega)
  have h4c := (qa9 h4).2.2
  obtain ⟨z12, h5k, h5l0⟩ := qgF9 (g1 := g1) (v0 := v0) (n0 := n0) (g2 := (g2 ++ gt)) (show ((o0.set (s8).toNat x8).set (w64 (s8 + s12)).toNat x9).length = n0 by first | assumption | (simp only [llA, lrA]; first | done | assumption | omega) | omega) h5
  replace h5k := qh9 rfl rfl rfl h5k
  try simp only [go_sem] at h5k
  obtain rfl := oiA hr
  refine ⟨⟨(gt ++ z12), ?_⟩, (show x11.length = n0 by first | assumption | (simp only [llA, lrA]; first | done | assumption | omega) | omega)⟩
  rotate_left
  obtain rfl := oiA hr
  refine xe_of ⟨gt, rfl, (show o0.length = n0 by first | assumption | (simp only [llA, lrA]; first | done | assumption | omega) | omega)⟩ ?_
  rotate_left
  all_goals (simp +decide only [go_sem, qdc9, qmu9, *])
def qcZ9 (s1 : Int) (s2 : Int) (s8 : Int) (s10 : Int) (g1 : AHeap) (v0 : Nat) (n0 : Nat) (g2 : AHeap) : Int × (List Bind) → AHeap → St := fun (s11, o0) gt => ⟨[(0, .ref g1.length v0 0 n0), (1, PI s1), (2, PI s2), (3, .fn 84 []), (8, PI s8), (9, PI 0), (10, PI s10), (11, PI s11)], (g1 ++ (.row false v0 2 (rowP qc9 o0) :: (g2 ++ gt)))⟩
def qge9 (s1 : Int) (s2 : Int) (s8 : Int) (s10 : Int) (g1 : AHeap) (v0 : Nat) (n0 : Nat) (g2 : AHeap) : Int × (List Bind) → Prop := fun (s11, o0) => o0.length = n0
def qiW9 (s1 : Int) (s2 : Int) (s8 : Int) (s10 : Int) (g1 : AHeap) (v0 : Nat) (n0 : Nat) (g2 : AHeap) : (Int × (List Bind)) → AExit × St → Prop := fun (s11, o0) q => ∃ g, q = (.exit 0, qcZ9 s1 s2 s8 s10 g1 v0 n0 g2 (s11, o0) g) ∧ o0.length = n0
set_option maxHeartbeats 60000000 in
theorem qji9 {s1 : Int} {s2 : Int} {s8 : Int} {s10 : Int} {g1 : AHeap} {v0 : Nat} {n0 : Nat} {g2 : AHeap} : SimI C 8592039695 qnd9 (qge9 s1 s2 s8 s10 g1 v0 n0 g2) (qbt9 s1 s2 s8 s10) (qcZ9 s1 s2 s8 s10 g1 v0 n0 g2) (qiW9 s1 s2 s8 s10 g1 v0 n0 g2) := by
  intro s g r hI hr
  obtain ⟨s11, o0⟩ := s
  have ⟨gt, hg0⟩ : ∃ y, y = g := ⟨_, rfl⟩
  subst hg0
  simp only [qge9] at hI
  have hI0 := hI
  simp only [qbt9] at hr
  rcases iteP hr with ⟨h1, hr⟩ | ⟨h1, hr⟩
  obtain ⟨x2, h2, hr⟩ := bsome hr
  obtain ⟨z3, h2k, h2l0⟩ := qgF9 (g1 := g1) (v0 := v0) (n0 := n0) (g2 := (g2 ++ gt)) (show o0.length = n0 by first | assumption | (simp only [llA, lrA]; first | done | assumption | omega) | omega) h2
  replace h2k := qh9 rfl rfl rfl h2k
  try simp only [go_sem] at h2k
  obtain rfl := oiA hr
  refine ⟨⟨(gt ++ z3), ?_⟩, (show x2.length = n0 by first | assumption | (simp only [llA, lrA]; first | done | assumption | omega) | omega)⟩
  rotate_left
  obtain rfl := oiA hr
  refine xe_of ⟨gt, rfl, (show o0.length = n0 by first | assumption | (simp only [llA, lrA]; first | done | assumption | omega) | omega)⟩ ?_
  rotate_left
  all_goals (simp +decide only [go_sem, qcZ9, qnd9, *])
set_option maxHeartbeats 60000000 in
theorem qjm9 {s1 : Int} {s2 : Int} {o0 : List Bind} {g1 : AHeap} {v0 : Nat} {n0 : Nat} {g2 : AHeap} (hln0 : o0.length = n0) {r : (List Bind)} (hr : qcV9 s1 s2 o0 = some r) : ∃ hz : AHeap, Lim C 123 [.ref g1.length v0 0 n0, PI s1, PI s2, .fn 84 []] (g1 ++ (.row false v0 2 (rowP qc9 o0) :: g2)) = some (resOf [], (g1 ++ (.row false v0 2 (rowP qc9 r) :: (g2 ++ hz)))) ∧ r.length = n0 := by
  simp only [qcV9] at hr
  obtain ⟨x1, h1, hr⟩ := bsome hr
  obtain ⟨x4, h2, hr⟩ := bsome hr
  obtain ⟨q2, h2L, h2X⟩ := (qji9 (g1 := g1) (v0 := v0) (n0 := n0) (g2 := g2)).L (g := []) h2 (show o0.length = n0 by first | assumption | (simp only [llA, lrA]; first | done | assumption | omega) | omega)
  obtain ⟨x5, x6⟩ := x4
  try dsimp only at hr
  obtain ⟨z7, rfl, h2l0⟩ := h2X
  simp only [qcZ9, go_sem] at h2L
  try simp only [hln0] at h2L
  obtain ⟨x13, h3, hr⟩ := bsome hr
  obtain ⟨q3, h3L, h3X⟩ := (qjg9 (g1 := g1) (v0 := v0) (n0 := n0) (g2 := (g2 ++ z7))).L (g := []) h3 (show x6.length = n0 by first | assumption | (simp only [llA, lrA]; first | done | assumption | omega) | omega)
  obtain ⟨x14, x15⟩ := x13
  try dsimp only at hr
  obtain ⟨z16, rfl, h3l0⟩ := h3X
  simp only [qdc9, go_sem] at h3L
  try simp only [hln0] at h3L
  obtain rfl := oiA hr
  refine ⟨(z7 ++ z16), run_L is123 (nbA rfl) ?_, (show x15.length = n0 by first | assumption | (simp only [llA, lrA]; first | done | assumption | omega) | omega)⟩
  rotate_left
  all_goals (simp +decide only [go_sem, c123, *])
def c141 : ACode := .seq (.reg [] [] [.K 10 (.mv (cI 0)), .K 11 (.mv (cI 0))]) (.seq (.seq (.reg [] [] [.M 12 4, .M 13 0, .M 14 2, ⟨some (15, false), .ix 2 (.tmp 13) (.tmp 14), none, true, false⟩, ⟨some (16, false), .load (some 2) (.tmp 15), none, true, false⟩, .M 17 0, .M 18 1, ⟨some (19, false), .ix 2 (.tmp 17) (.tmp 18), none, true, false⟩, ⟨some (20, false), .load (some 2) (.tmp 19), none, true, false⟩, ⟨some (21, false), .callV (.tmp 12) [.tmp 16, .tmp 20], none, true, false⟩, .K 22 (.bin .lss (.tmp 21) (cI 0))]) (.cond (.tmp 22) (some 22) (.seq (.reg [] [] [.M 23 3, .T 24 (.nilC (.tmp 23)), .T 25 (.load none (.tmp 24)), .T 26 (.bin .add (.tmp 25) (cI 1)), .T 27 (.nilC (.tmp 23)), ⟨none, .store 1 (.tmp 27) (.tmp 26), none, false, false⟩]) (.seq (.reg [] [] [.M 28 2, .M 29 1, .N 10 28, .N 11 29]) (.ret))) (.skip))) (.seq (.reg [] [] [.M 30 1, .M 31 2, .N 10 30, .N 11 31]) (.ret)))
theorem is141 : IsF C 141 32 4197407 c141 [.tmp 10, .tmp 11] := ⟨⟨Tryd.f141, _, C_P ▸ Tryd.func141, rfl, rfl, rfl, by kernel_rfl, rfl⟩⟩
set_option maxHeartbeats 60000000 in
theorem qeU9 {s1 : Int} {s2 : Int} {o0 : List Bind} {b3_0 : Int} {g1 : AHeap} {v0 : Nat} {n0 : Nat} {g2 : AHeap} {g3 : AHeap} (hln0 : o0.length = n0) {r : Int × Int × Int} (hr : qco9 s1 s2 o0 b3_0 = some r) : Lim C 141 [.ref g1.length v0 0 n0, PI s1, PI s2, .ptr (g1.length + g2.length + 1) 0 0 0, .fn 84 []] (g1 ++ (.row false v0 2 (rowP qc9 o0) :: (g2 ++ (.row false 0 1 [[PI b3_0]] :: g3)))) = some (resOf [PI r.1, PI r.2.1], (g1 ++ (.row false v0 2 (rowP qc9 o0) :: (g2 ++ (.row false 0 1 [[PI r.2.2]] :: g3))))) := by
  simp only [qco9] at hr
  obtain ⟨x1, h1, x2, h2, x3, h3, hr⟩ := bs3 hr
  have h1a := eq_true (qa9 h1).1
  have h1b : (s2 < (n0 : Int)) = True := eq_true (by have hb : s2 < (o0.length : Int) := (qa9 h1).2.1; omega)
  have h1c := (qa9 h1).2.2
  have h2a := eq_true (qa9 h2).1
  have h2b : (s1 < (n0 : Int)) = True := eq_true (by have hb : s1 < (o0.length : Int) := (qa9 h2).2.1; omega)
  have h2c := (qa9 h2).2.2
  have h3k := fun h => (qv9 h3).o rfl rfl rfl (h := h) (args := [.ag [PI x1.Var, .d (.rd (x1.T.map intD))], .ag [PI x2.Var, .d (.rd (x2.T.map intD))]]) rfl
  try simp only [go_sem] at h3k
  rcases iteP hr with ⟨h4, hr⟩ | ⟨h4, hr⟩
  obtain rfl := oiA hr
  refine run_L is141 (nbA rfl) ?_
  rotate_left
  obtain rfl := oiA hr
  refine run_L is141 (nbA rfl) ?_
  rotate_left
  all_goals (simp +decide only [go_sem, c141, *])
def c140 : ACode := .seq (.reg [] [] [.K 12 (.mv (cI 0))]) (.seq (.reg [] [] [.M 14 0, .M 15 1, .M 16 2, .M 17 4, .M 18 5, .T 19 (.call 141 [.tmp 14, .tmp 15, .tmp 16, .tmp 17, .tmp 18]), .M 13 19, .T 20 (.ext (.tmp 13) 0), .T 21 (.ext (.tmp 13) 1), .N 1 20, .N 2 21]) (.seq (.reg [] [] [.M 23 0, .M 24 2, .M 25 3, .M 26 4, .M 27 5, .T 28 (.call 141 [.tmp 23, .tmp 24, .tmp 25, .tmp 26, .tmp 27]), .M 22 28, .T 29 (.ext (.tmp 22) 0), .T 30 (.ext (.tmp 22) 1), .N 2 29, .N 3 30]) (.seq (.reg [] [] [.M 32 0, .M 33 1, .M 34 2, .M 35 4, .M 36 5, .T 37 (.call 141 [.tmp 32, .tmp 33, .tmp 34, .tmp 35, .tmp 36]), .M 31 37, .T 38 (.ext (.tmp 31) 0), .T 39 (.ext (.tmp 31) 1), .N 1 38, .N 2 39]) (.seq (.reg [] [] [.M 40 2, .N 12 40]) (.ret)))))
theorem is140 : IsF C 140 41 4159 c140 [.tmp 12] := ⟨⟨Tryd.f140, _, C_P ▸ Tryd.func140, rfl, rfl, rfl, by kernel_rfl, rfl⟩⟩
set_option maxHeartbeats 60000000 in
theorem qeW9 {s1 : Int} {s2 : Int} {s3 : Int} {o0 : List Bind} {b4_0 : Int} {g1 : AHeap} {v0 : Nat} {n0 : Nat} {g2 : AHeap} {g3 : AHeap} (hln0 : o0.length = n0) {r : Int × Int} (hr : qcq9 s1 s2 s3 o0 b4_0 = some r) : Lim C 140 [.ref g1.length v0 0 n0, PI s1, PI s2, PI s3, .ptr (g1.length + g2.length + 1) 0 0 0, .fn 84 []] (g1 ++ (.row false v0 2 (rowP qc9 o0) :: (g2 ++ (.row false 0 1 [[PI b4_0]] :: g3)))) = some (resOf [PI r.1], (g1 ++ (.row false v0 2 (rowP qc9 o0) :: (g2 ++ (.row false 0 1 [[PI r.2]] :: g3))))) := by
  simp only [qcq9] at hr
  obtain ⟨x1, h1, x2, h2, x3, h3, hr⟩ := bs3 hr
  have h1k := qh9 rfl rfl rfl (qeU9 (g1 := g1) (v0 := v0) (n0 := n0) (g2 := g2) (g3 := g3) (show o0.length = n0 by first | assumption | (simp only [llA, lrA]; first | done | assumption | omega) | omega) h1)
  try simp only [go_sem] at h1k
  have h2k := qh9 rfl rfl rfl (qeU9 (g1 := g1) (v0 := v0) (n0 := n0) (g2 := g2) (g3 := g3) (show o0.length = n0 by first | assumption | (simp only [llA, lrA]; first | done | assumption | omega) | omega) h2)
  try simp only [go_sem] at h2k
  have h3k := qh9 rfl rfl rfl (qeU9 (g1 := g1) (v0 := v0) (n0 := n0) (g2 := g2) (g3 := g3) (show o0.length = n0 by first | assumption | (simp only [llA, lrA]; first | done | assumption | omega) | omega) h3)
  try simp only [go_sem] at h3k
  obtain rfl := oiA hr
  refine run_L is140 (nbA rfl) ?_
  rotate_left
  all_goals (simp +decide only [go_sem, c140, *])
def c139 : ACode := .seq (.reg [] [] [.K 8 (.mv (cI 0))]) (.seq (.reg [] [] [.M 9 0, .M 10 1, .T 11 (.bin .sub (.tmp 10) (cI 1)), .M 12 1, .M 13 1, .T 14 (.bin .add (.tmp 13) (cI 1)), .M 15 2, .M 16 3, .T 17 (.call 140 [.tmp 9, .tmp 11, .tmp 12, .tmp 14, .tmp 15, .tmp 16]), .N 8 17]) (.ret))
theorem is139 : IsF C 139 18 271 c139 [.tmp 8] := ⟨⟨Tryd.f139, _, C_P ▸ Tryd.func139, rfl, rfl, rfl, by kernel_rfl, rfl⟩⟩
set_option maxHeartbeats 60000000 in
theorem qdj9 {s1 : Int} {o0 : List Bind} {b2_0 : Int} {g1 : AHeap} {v0 : Nat} {n0 : Nat} {g2 : AHeap} {g3 : AHeap} (hln0 : o0.length = n0) {r : Int × Int} (hr : qbj9 s1 o0 b2_0 = some r) : Lim C 139 [.ref g1.length v0 0 n0, PI s1, .ptr (g1.length + g2.length + 1) 0 0 0, .fn 84 []] (g1 ++ (.row false v0 2 (rowP qc9 o0) :: (g2 ++ (.row false 0 1 [[PI b2_0]] :: g3)))) = some (resOf [PI r.1], (g1 ++ (.row false v0 2 (rowP qc9 o0) :: (g2 ++ (.row false 0 1 [[PI r.2]] :: g3))))) := by
  simp only [qbj9] at hr
  obtain ⟨x1, h1, hr⟩ := bsome hr
  have h1k := qh9 rfl rfl rfl (qeW9 (g1 := g1) (v0 := v0) (n0 := n0) (g2 := g2) (g3 := g3) (show o0.length = n0 by first | assumption | (simp only [llA, lrA]; first | done | assumption | omega) | omega) h1)
  try simp only [go_sem] at h1k
  obtain rfl := oiA hr
  refine run_L is139 (nbA rfl) ?_
  rotate_left
  all_goals (simp +decide only [go_sem, c139, *])
def c125 : ACode := .seq (.reg [] [] [.K 8 (.mv (cI 0)), .K 9 (.mv (cI 0))]) (.seq (.reg [] [] [.M 15 2, .M 16 1, .T 17 (.bin .sub (.tmp 15) (.tmp 16)), .N 10 17]) (.seq (.reg [] [] [.K 11 (.alloc [.d (.v (.int .i64 0))] 1)]) (.seq (.reg [] [] [.M 18 1, .M 19 10, .T 20 (.binM .quo (.tmp 19) (cI 4)), .T 21 (.bin .mul (.tmp 20) (cI 1)), .T 22 (.bin .add (.tmp 18) (.tmp 21)), .N 12 22]) (.seq (.reg [] [] [.M 23 1, .M 24 10, .T 25 (.binM .quo (.tmp 24) (cI 4)), .T 26 (.bin .mul (.tmp 25) (cI 2)), .T 27 (.bin .add (.tmp 23) (.tmp 26)), .N 13 27]) (.seq (.reg [] [] [.M 28 1, .M 29 10, .T 30 (.binM .quo (.tmp 29) (cI 4)), .T 31 (.bin .mul (.tmp 30) (cI 3)), .T 32 (.bin .add (.tmp 28) (.tmp 31)), .N 14 32]) (.seq (.seq (.reg [] [] [.M 33 10, .K 34 (.bin .geq (.tmp 33) (cI 8))]) (.cond (.tmp 34) (some 34) (.seq (.seq (.reg [] [] [.M 35 10, .K 36 (.bin .geq (.tmp 35) (cI 50))]) (.cond (.tmp 36) (some 36) (.seq (.reg [] [] [.M 37 0, .M 38 12, .M 39 3, .T 40 (.call 139 [.tmp 37, .tmp 38, .tmp 11, .tmp 39]), .N 12 40]) (.seq (.reg [] [] [.M 41 0, .M 42 13, .M 43 3, .T 44 (.call 139 [.tmp 41, .tmp 42, .tmp 11, .tmp 43]), .N 13 44]) (.reg [] [] [.M 45 0, .M 46 14, .M 47 3, .T 48 (.call 139 [.tmp 45, .tmp 46, .tmp 11, .tmp 47]), .N 14 48]))) (.skip))) (.reg [] [] [.M 49 0, .M 50 12, .M 51 13, .M 52 14, .M 53 3, .T 54 (.call 140 [.tmp 49, .tmp 50, .tmp 51, .tmp 52, .tmp 11, .tmp 53]), .N 13 54])) (.skip))) (.seq (.reg [] [] [.K 55 (.load none (.tmp 11))]) (.block 0 1297036692682702848 (.seq (.reg [] [] [.T 58 (.bin .eql (.tmp 55) (cI 0)), .N 57 58]) (.cond (.tmp 57) (some 57) (.seq (.reg [] [] [.M 59 13, .N 8 59, .K 9 (.mv (cI 1))]) (.ret)) (.seq (.reg [] [] [.T 61 (.bin .eql (.tmp 55) (cI 12)), .N 60 61]) (.cond (.tmp 60) (some 60) (.seq (.reg [] [] [.M 62 13, .N 8 62, .K 9 (.mv (cI 2))]) (.ret)) (.seq (.reg [] [] [.M 56 13, .N 8 56, .K 9 (.mv (cI 0))]) (.ret))))))))))))))
theorem is125 : IsF C 125 63 1333065575601045263 c125 [.tmp 8, .tmp 9] := ⟨⟨Tryd.f125, _, C_P ▸ Tryd.func125, rfl, rfl, rfl, by kernel_rfl, rfl⟩⟩
set_option maxHeartbeats 60000000 in
theorem qfj9 {s1 : Int} {s2 : Int} {o0 : List Bind} {g1 : AHeap} {v0 : Nat} {n0 : Nat} {g2 : AHeap} (hln0 : o0.length = n0) {r : Int × Int} (hr : qbO9 s1 s2 o0 = some r) : ∃ hz : AHeap, Lim C 125 [.ref g1.length v0 0 n0, PI s1, PI s2, .fn 84 []] (g1 ++ (.row false v0 2 (rowP qc9 o0) :: g2)) = some (resOf [PI r.1, PI r.2], (g1 ++ (.row false v0 2 (rowP qc9 o0) :: (g2 ++ hz)))) := by
  simp only [qbO9] at hr
  obtain ⟨x1, h1, hr⟩ := bsome hr
  rcases iteP hr with ⟨h2, hr⟩ | ⟨h2, hr⟩
  rcases iteP hr with ⟨h3, hr⟩ | ⟨h3, hr⟩
  obtain ⟨x2, h4, x3, h5, x4, h6, x5, h7, hr⟩ := bs4 hr
  have h4k := qh9 rfl rfl rfl (qdj9 (g1 := g1) (v0 := v0) (n0 := n0) (g2 := g2) (g3 := []) (show o0.length = n0 by first | assumption | (simp only [llA, lrA]; first | done | assumption | omega) | omega) h4)
  try simp only [go_sem] at h4k
  have h5k := qh9 rfl rfl rfl (qdj9 (g1 := g1) (v0 := v0) (n0 := n0) (g2 := g2) (g3 := []) (show o0.length = n0 by first | assumption | (simp only [llA, lrA]; first | done | assumption | omega) | omega) h5)
  try simp only [go_sem] at h5k
  have h6k := qh9 rfl rfl rfl (qdj9 (g1 := g1) (v0 := v0) (n0 := n0) (g2 := g2) (g3 := []) (show o0.length = n0 by first | assumption | (simp only [llA, lrA]; first | done | assumption | omega) | omega) h6)
  try simp only [go_sem] at h6k
  have h7k := qh9 rfl rfl rfl (qeW9 (g1 := g1) (v0 := v0) (n0 := n0) (g2 := g2) (g3 := []) (show o0.length = n0 by first | assumption | (simp only [llA, lrA]; first | done | assumption | omega) | omega) h7)
  try simp only [go_sem] at h7k
  rcases iteP hr with ⟨h8, hr⟩ | ⟨h8, hr⟩
  obtain rfl := oiA hr
  refine ⟨(.row false 0 1 [[PI x5.2]] :: []), run_L is125 (nbA rfl) ?_⟩
  rotate_left
  rcases iteP hr with ⟨h9, hr⟩ | ⟨h9, hr⟩
  obtain rfl := oiA hr
  refine ⟨(.row false 0 1 [[PI x5.2]] :: []), run_L is125 (nbA rfl) ?_⟩
  rotate_left
  obtain rfl := oiA hr
  refine ⟨(.row false 0 1 [[PI x5.2]] :: []), run_L is125 (nbA rfl) ?_⟩
  rotate_left
  obtain ⟨x6, h10, hr⟩ := bsome hr
  have h10k := qh9 rfl rfl rfl (qeW9 (g1 := g1) (v0 := v0) (n0 := n0) (g2 := g2) (g3 := []) (show o0.length = n0 by first | assumption | (simp only [llA, lrA]; first | done | assumption | omega) | omega) h10)
  try simp only [go_sem] at h10k
  rcases iteP hr with ⟨h11, hr⟩ | ⟨h11, hr⟩
  obtain rfl := oiA hr
  refine ⟨(.row false 0 1 [[PI x6.2]] :: []), run_L is125 (nbA rfl) ?_⟩
  rotate_left
  rcases iteP hr with ⟨h12, hr⟩ | ⟨h12, hr⟩
  obtain rfl := oiA hr
  refine ⟨(.row false 0 1 [[PI x6.2]] :: []), run_L is125 (nbA rfl) ?_⟩
  rotate_left
  obtain rfl := oiA hr
  refine ⟨(.row false 0 1 [[PI x6.2]] :: []), run_L is125 (nbA rfl) ?_⟩
  rotate_left
  obtain rfl := oiA hr
  refine ⟨(.row false 0 1 [[PI 0]] :: []), run_L is125 (nbA rfl) ?_⟩
  rotate_left
  all_goals (simp +decide only [go_sem, c125, *])
def qmB9 : ACode := .seq (.seq (.reg [] [] [.M 13 8, .M 14 9, .K 15 (.bin .lss (.tmp 13) (.tmp 14))]) (.cond (.tmp 15) (some 15) (.skip) (.exit 0))) (.block 1 32768 (.seq (.reg [] [] [.M 16 0, .M 17 8, .M 18 0, .M 19 9, .M 20 0, .M 21 9, ⟨some (22, false), .ix 2 (.tmp 20) (.tmp 21), none, true, false⟩, ⟨some (23, false), .load (some 2) (.tmp 22), none, true, false⟩, .M 24 0, .M 25 8, ⟨some (26, false), .ix 2 (.tmp 24) (.tmp 25), none, true, false⟩, ⟨some (27, false), .load (some 2) (.tmp 26), none, true, false⟩, ⟨some (28, false), .ix 2 (.tmp 16) (.tmp 17), none, true, false⟩, ⟨none, .store 2 (.tmp 28) (.tmp 23), none, false, false⟩, ⟨some (29, false), .ix 2 (.tmp 18) (.tmp 19), none, true, false⟩, ⟨none, .store 2 (.tmp 29) (.tmp 27), none, false, false⟩]) (.seq (.reg [] [] [.M 30 8, .T 31 (.bin .add (.tmp 30) (cI 1)), .N 8 31]) (.reg [] [] [.M 32 9, .T 33 (.bin .sub (.tmp 32) (cI 1)), .N 9 33]))))
def c126 : ACode := .seq (.reg [] [] [.M 10 1, .N 8 10]) (.seq (.reg [] [] [.M 11 2, .T 12 (.bin .sub (.tmp 11) (cI 1)), .N 9 12]) (.block 0 32768 (.loop qmB9)))
theorem is126 : IsF C 126 34 33543 c126 [] := ⟨⟨Tryd.f126, _, C_P ▸ Tryd.func126, rfl, rfl, rfl, by kernel_rfl, rfl⟩⟩
def qcA9 (s1 : Int) (s2 : Int) (g1 : AHeap) (v0 : Nat) (n0 : Nat) (g2 : AHeap) : Int × Int × (List Bind) → Unit → St := fun (s8, s9, o0) _ => ⟨[(0, .ref g1.length v0 0 n0), (1, PI s1), (2, PI s2), (8, PI s8), (9, PI s9)], (g1 ++ (.row false v0 2 (rowP qc9 o0) :: g2))⟩
def qeG9 (s1 : Int) (s2 : Int) (g1 : AHeap) (v0 : Nat) (n0 : Nat) (g2 : AHeap) : Int × Int × (List Bind) → Prop := fun (s8, s9, o0) => o0.length = n0
def qhQ9 (s1 : Int) (s2 : Int) (g1 : AHeap) (v0 : Nat) (n0 : Nat) (g2 : AHeap) : (Int × Int × (List Bind)) → AExit × St → Prop := fun (s8, s9, o0) q => ∃ g, q = (.exit 0, qcA9 s1 s2 g1 v0 n0 g2 (s8, s9, o0) g) ∧ o0.length = n0
set_option maxHeartbeats 60000000 in
theorem qhM9 {s1 : Int} {s2 : Int} {g1 : AHeap} {v0 : Nat} {n0 : Nat} {g2 : AHeap} : SimI C 33543 qmB9 (qeG9 s1 s2 g1 v0 n0 g2) (qS9 s1 s2) (qcA9 s1 s2 g1 v0 n0 g2) (qhQ9 s1 s2 g1 v0 n0 g2) := by
  intro s g r hI hr
  obtain ⟨s8, s9, o0⟩ := s
  simp only [qeG9] at hI
  have hI0 := hI
  simp only [qS9] at hr
  rcases iteP hr with ⟨h1, hr⟩ | ⟨h1, hr⟩
  obtain ⟨x1, h2, x2, h3, x3, h4, hr⟩ := bs3 hr
  have h2a := eq_true (qa9 h2).1
  have h2b : (s9 < (n0 : Int)) = True := eq_true (by have hb : s9 < (o0.length : Int) := (qa9 h2).2.1; omega)
  have h2c := (qa9 h2).2.2
  have h3a := eq_true (qa9 h3).1
  have h3b : (s8 < (n0 : Int)) = True := eq_true (by have hb : s8 < (o0.length : Int) := (qa9 h3).2.1; omega)
  have h3c := (qa9 h3).2.2
  have h4a := eq_true (qa9 h4).1
  have h4b : (s9 < (n0 : Int)) = True := eq_true (by have hb : s9 < ((o0.set (s8).toNat x1).length : Int) := (qa9 h4).2.1; simp only [llA, lrA] at hb; omega)
  have h4c := (qa9 h4).2.2
  obtain rfl := oiA hr
  refine ⟨⟨(), ?_⟩, (show ((o0.set (s8).toNat x1).set (s9).toNat x2).length = n0 by first | assumption | (simp only [llA, lrA]; first | done | assumption | omega) | omega)⟩
  rotate_left
  obtain rfl := oiA hr
  refine xe_of ⟨(), rfl, (show o0.length = n0 by first | assumption | (simp only [llA, lrA]; first | done | assumption | omega) | omega)⟩ ?_
  rotate_left
  all_goals (simp +decide only [go_sem, qcA9, qmB9, *])
set_option maxHeartbeats 60000000 in
theorem qfa9 {s1 : Int} {s2 : Int} {o0 : List Bind} {g1 : AHeap} {v0 : Nat} {n0 : Nat} {g2 : AHeap} (hln0 : o0.length = n0) {r : (List Bind)} (hr : qbm9 s1 s2 o0 = some r) : Lim C 126 [.ref g1.length v0 0 n0, PI s1, PI s2, .fn 84 []] (g1 ++ (.row false v0 2 (rowP qc9 o0) :: g2)) = some (resOf [], (g1 ++ (.row false v0 2 (rowP qc9 r) :: g2))) ∧ r.length = n0 := by
  simp only [qbm9] at hr
  obtain ⟨x4, h1, hr⟩ := bsome hr
  obtain ⟨q1, h1L, h1X⟩ := (qhM9 (g1 := g1) (v0 := v0) (n0 := n0) (g2 := g2)).L (g := ()) h1 (show o0.length = n0 by first | assumption | (simp only [llA, lrA]; first | done | assumption | omega) | omega)
  obtain ⟨x5, x6, x7⟩ := x4
  try dsimp only at hr
  obtain ⟨⟨⟩, rfl, h1l0⟩ := h1X
  simp only [qcA9, go_sem] at h1L
  try simp only [hln0] at h1L
  obtain rfl := oiA hr
  refine ⟨run_L is126 (nbA rfl) ?_, (show x7.length = n0 by first | assumption | (simp only [llA, lrA]; first | done | assumption | omega) | omega)⟩
  rotate_left
  all_goals (simp +decide only [go_sem, c126, *])
def qmw9 : ACode := .seq (.seq (.reg [] [] [.M 107 12, .M 108 2, .K 109 (.bin .lss (.tmp 107) (.tmp 108))]) (.cond (.tmp 109) (some 109) (.skip) (.exit 6))) (.seq (.block 7 21268296969665970819914479276526665728 (.seq (.seq (.reg [] [] [.M 112 3, .M 113 0, .M 114 12, ⟨some (115, false), .ix 2 (.tmp 113) (.tmp 114), none, true, false⟩, ⟨some (116, false), .load (some 2) (.tmp 115), none, true, false⟩, .M 117 0, .M 118 12, .T 119 (.bin .sub (.tmp 118) (cI 1)), ⟨some (120, false), .ix 2 (.tmp 117) (.tmp 119), none, true, false⟩, ⟨some (121, false), .load (some 2) (.tmp 120), none, true, false⟩, ⟨some (122, false), .callV (.tmp 112) [.tmp 116, .tmp 121], none, true, false⟩, .T 123 (.bin .lss (.tmp 122) (cI 0)), .K 124 (.not (.tmp 123))]) (.cond (.tmp 124) (some 124) (.exit 6) (.skip))) (.reg [] [] [.M 125 0, .M 126 12, .M 127 0, .M 128 12, .T 129 (.bin .sub (.tmp 128) (cI 1)), .M 130 0, .M 131 12, .T 132 (.bin .sub (.tmp 131) (cI 1)), ⟨some (133, false), .ix 2 (.tmp 130) (.tmp 132), none, true, false⟩, ⟨some (134, false), .load (some 2) (.tmp 133), none, true, false⟩, .M 135 0, .M 136 12, ⟨some (137, false), .ix 2 (.tmp 135) (.tmp 136), none, true, false⟩, ⟨some (138, false), .load (some 2) (.tmp 137), none, true, false⟩, ⟨some (139, false), .ix 2 (.tmp 125) (.tmp 126), none, true, false⟩, ⟨none, .store 2 (.tmp 139) (.tmp 134), none, false, false⟩, ⟨some (140, false), .ix 2 (.tmp 127) (.tmp 129), none, true, false⟩, ⟨none, .store 2 (.tmp 140) (.tmp 138), none, false, false⟩]))) (.reg [] [] [.M 110 12, .T 111 (.bin .add (.tmp 110) (cI 1)), .N 12 111]))
def qmP9 : ACode := .seq (.seq (.reg [] [] [.M 68 11, .K 69 (.bin .geq (.tmp 68) (cI 1))]) (.cond (.tmp 69) (some 69) (.skip) (.exit 4))) (.seq (.block 5 19343403409644425500950528 (.seq (.seq (.reg [] [] [.M 72 3, .M 73 0, .M 74 11, ⟨some (75, false), .ix 2 (.tmp 73) (.tmp 74), none, true, false⟩, ⟨some (76, false), .load (some 2) (.tmp 75), none, true, false⟩, .M 77 0, .M 78 11, .T 79 (.bin .sub (.tmp 78) (cI 1)), ⟨some (80, false), .ix 2 (.tmp 77) (.tmp 79), none, true, false⟩, ⟨some (81, false), .load (some 2) (.tmp 80), none, true, false⟩, ⟨some (82, false), .callV (.tmp 72) [.tmp 76, .tmp 81], none, true, false⟩, .T 83 (.bin .lss (.tmp 82) (cI 0)), .K 84 (.not (.tmp 83))]) (.cond (.tmp 84) (some 84) (.exit 4) (.skip))) (.reg [] [] [.M 85 0, .M 86 11, .M 87 0, .M 88 11, .T 89 (.bin .sub (.tmp 88) (cI 1)), .M 90 0, .M 91 11, .T 92 (.bin .sub (.tmp 91) (cI 1)), ⟨some (93, false), .ix 2 (.tmp 90) (.tmp 92), none, true, false⟩, ⟨some (94, false), .load (some 2) (.tmp 93), none, true, false⟩, .M 95 0, .M 96 11, ⟨some (97, false), .ix 2 (.tmp 95) (.tmp 96), none, true, false⟩, ⟨some (98, false), .load (some 2) (.tmp 97), none, true, false⟩, ⟨some (99, false), .ix 2 (.tmp 85) (.tmp 86), none, true, false⟩, ⟨none, .store 2 (.tmp 99) (.tmp 94), none, false, false⟩, ⟨some (100, false), .ix 2 (.tmp 87) (.tmp 89), none, true, false⟩, ⟨none, .store 2 (.tmp 100) (.tmp 98), none, false, false⟩]))) (.reg [] [] [.M 70 11, .T 71 (.bin .sub (.tmp 70) (cI 1)), .N 11 71]))
def qmU9 : ACode := .seq (.seq (.reg [] [] [.M 19 9, .M 20 2, .T 21 (.bin .lss (.tmp 19) (.tmp 20)), .M 22 21, .MG 23 22 true 3, .MG 24 22 true 0, .MG 25 22 true 9, ⟨some (26, false), .ix 2 (.tmp 24) (.tmp 25), some (22, true), true, false⟩, ⟨some (27, false), .load (some 2) (.tmp 26), some (22, true), true, false⟩, .MG 28 22 true 0, .MG 29 22 true 9, .TG 30 22 true (.bin .sub (.tmp 29) (cI 1)), ⟨some (31, false), .ix 2 (.tmp 28) (.tmp 30), some (22, true), true, false⟩, ⟨some (32, false), .load (some 2) (.tmp 31), some (22, true), true, false⟩, ⟨some (33, false), .callV (.tmp 23) [.tmp 27, .tmp 32], some (22, true), true, false⟩, .TG 34 22 true (.bin .lss (.tmp 33) (cI 0)), .TG 35 22 true (.not (.tmp 34)), .K 36 (.pick (.tmp 22) (.tmp 35) (.const (.bool false)))]) (.cond (.tmp 36) (some 36) (.skip) (.exit 2))) (.block 3 68719476736 (.reg [] [] [.M 37 9, .T 38 (.bin .add (.tmp 37) (cI 1)), .N 9 38]))
def qmn9 : ACode := .seq (.seq (.reg [] [] [.M 15 10, .K 16 (.bin .lss (.tmp 15) (cI 5))]) (.cond (.tmp 16) (some 16) (.skip) (.exit 0))) (.seq (.block 1 21268317252094917911888073248812898304 (.seq (.block 2 68719542272 (.loop qmU9)) (.seq (.seq (.reg [] [] [.M 39 9, .M 40 2, .K 41 (.bin .eql (.tmp 39) (.tmp 40))]) (.cond (.tmp 41) (some 41) (.seq (.reg [] [] [.K 8 (.mv (.const (.bool true)))]) (.ret)) (.skip))) (.seq (.seq (.reg [] [] [.M 42 2, .M 43 1, .T 44 (.bin .sub (.tmp 42) (.tmp 43)), .K 45 (.bin .lss (.tmp 44) (cI 50))]) (.cond (.tmp 45) (some 45) (.seq (.reg [] [] [.K 8 (.mv (.const (.bool false)))]) (.ret)) (.skip))) (.seq (.reg [] [] [.M 46 0, .M 47 9, .M 48 0, .M 49 9, .T 50 (.bin .sub (.tmp 49) (cI 1)), .M 51 0, .M 52 9, .T 53 (.bin .sub (.tmp 52) (cI 1)), ⟨some (54, false), .ix 2 (.tmp 51) (.tmp 53), none, true, false⟩, ⟨some (55, false), .load (some 2) (.tmp 54), none, true, false⟩, .M 56 0, .M 57 9, ⟨some (58, false), .ix 2 (.tmp 56) (.tmp 57), none, true, false⟩, ⟨some (59, false), .load (some 2) (.tmp 58), none, true, false⟩, ⟨some (60, false), .ix 2 (.tmp 46) (.tmp 47), none, true, false⟩, ⟨none, .store 2 (.tmp 60) (.tmp 55), none, false, false⟩, ⟨some (61, false), .ix 2 (.tmp 48) (.tmp 50), none, true, false⟩, ⟨none, .store 2 (.tmp 61) (.tmp 59), none, false, false⟩]) (.seq (.seq (.reg [] [] [.M 62 9, .M 63 1, .T 64 (.bin .sub (.tmp 62) (.tmp 63)), .K 65 (.bin .geq (.tmp 64) (cI 2))]) (.cond (.tmp 65) (some 65) (.seq (.reg [] [] [.M 66 9, .T 67 (.bin .sub (.tmp 66) (cI 1)), .N 11 67]) (.block 4 19343440303170025034942464 (.loop qmP9))) (.skip))) (.seq (.reg [] [] [.M 101 2, .M 102 9, .T 103 (.bin .sub (.tmp 101) (.tmp 102)), .K 104 (.bin .geq (.tmp 103) (cI 2))]) (.cond (.tmp 104) (some 104) (.seq (.reg [] [] [.M 105 9, .T 106 (.bin .add (.tmp 105) (cI 1)), .N 12 106]) (.block 6 21268317252094917911888073248812898304 (.loop qmw9))) (.skip))))))))) (.reg [] [] [.M 17 10, .T 18 (.bin .add (.tmp 17) (cI 1)), .N 10 18]))
def c127 : ACode := .seq (.reg [] [] [.K 8 (.mv (.const (.bool false)))]) (.seq (.reg [] [] [.M 13 1, .T 14 (.bin .add (.tmp 13) (cI 1)), .N 9 14]) (.seq (.seq (.reg [] [] [.K 10 (.mv (cI 0))]) (.block 0 21268317252094917911888073248812898304 (.loop qmn9))) (.seq (.reg [] [] [.K 8 (.mv (.const (.bool false)))]) (.ret))))
theorem is127 : IsF C 127 141 21268317252094917911888073248812900111 c127 [.tmp 8] := ⟨⟨Tryd.f127, _, C_P ▸ Tryd.func127, rfl, rfl, rfl, by kernel_rfl, rfl⟩⟩
def qby9 (s1 : Int) (s2 : Int) (s9 : Int) (s10 : Int) (g1 : AHeap) (v0 : Nat) (n0 : Nat) (g2 : AHeap) : Int × (List Bind) → AHeap → St := fun (s12, o0) gt => ⟨[(0, .ref g1.length v0 0 n0), (1, PI s1), (2, PI s2), (3, .fn 84 []), (8, PB false), (9, PI s9), (10, PI s10), (12, PI s12)], (g1 ++ (.row false v0 2 (rowP qc9 o0) :: (g2 ++ gt)))⟩
def qdr9 (s1 : Int) (s2 : Int) (s9 : Int) (s10 : Int) (g1 : AHeap) (v0 : Nat) (n0 : Nat) (g2 : AHeap) : Int × (List Bind) → Prop := fun (s12, o0) => o0.length = n0
def qfu9 (s1 : Int) (s2 : Int) (s9 : Int) (s10 : Int) (g1 : AHeap) (v0 : Nat) (n0 : Nat) (g2 : AHeap) : ((List Bind)) → AExit × St → Prop := fun o0 q => ∃ d12 : PV, ∃ h1 : AHeap, q = (.exit 6, ⟨[(0, .ref g1.length v0 0 n0), (1, PI s1), (2, PI s2), (3, .fn 84 []), (8, PB false), (9, PI s9), (10, PI s10), (12, d12)], (g1 ++ (.row false v0 2 (rowP qc9 o0) :: (g2 ++ h1)))⟩) ∧ o0.length = n0
set_option maxHeartbeats 60000000 in
theorem qdu9 {s1 : Int} {s2 : Int} {s9 : Int} {s10 : Int} {g1 : AHeap} {v0 : Nat} {n0 : Nat} {g2 : AHeap} : SimI C 21268317252094917911888073248812900111 qmw9 (qdr9 s1 s2 s9 s10 g1 v0 n0 g2) (qx9 s1 s2 s9 s10) (qby9 s1 s2 s9 s10 g1 v0 n0 g2) (qfu9 s1 s2 s9 s10 g1 v0 n0 g2) := by
  intro s g r hI hr
  obtain ⟨s12, o0⟩ := s
  have ⟨gt, hg0⟩ : ∃ y, y = g := ⟨_, rfl⟩
  subst hg0
  simp only [qdr9] at hI
  have hI0 := hI
  simp only [qx9] at hr
  rcases iteP hr with ⟨h1, hr⟩ | ⟨h1, hr⟩
  obtain ⟨x26, h2, x27, h3, x28, h4, hr⟩ := bs3 hr
  have h2a := eq_true (qa9 h2).1
  have h2b : (s12 < (n0 : Int)) = True := eq_true (by have hb : s12 < (o0.length : Int) := (qa9 h2).2.1; omega)
  have h2c := (qa9 h2).2.2
  have h3a := eq_true (qa9 h3).1
  have h3b : ((w64 (s12 - 1)) < (n0 : Int)) = True := eq_true (by have hb : (w64 (s12 - 1)) < (o0.length : Int) := (qa9 h3).2.1; omega)
  have h3c := (qa9 h3).2.2
  have h4k := fun h => (qv9 h4).o rfl rfl rfl (h := h) (args := [.ag [PI x26.Var, .d (.rd (x26.T.map intD))], .ag [PI x27.Var, .d (.rd (x27.T.map intD))]]) rfl
  try simp only [go_sem] at h4k
  rcases iteP hr with ⟨h5, hr⟩ | ⟨h5, hr⟩
  obtain ⟨x29, h6, hr⟩ := bsome hr
  have h6a := eq_true (qa9 h6).1
  have h6b : ((w64 (s12 - 1)) < (n0 : Int)) = True := eq_true (by have hb : (w64 (s12 - 1)) < ((o0.set (s12).toNat x27).length : Int) := (qa9 h6).2.1; simp only [llA, lrA] at hb; omega)
  have h6c := (qa9 h6).2.2
  obtain rfl := oiA hr
  refine ⟨⟨gt, ?_⟩, (show ((o0.set (s12).toNat x27).set (w64 (s12 - 1)).toNat x26).length = n0 by first | assumption | (simp only [llA, lrA]; first | done | assumption | omega) | omega)⟩
  rotate_left
  obtain rfl := oiA hr
  refine xe_of ⟨PI s12, gt, rfl, (show o0.length = n0 by first | assumption | (simp only [llA, lrA]; first | done | assumption | omega) | omega)⟩ ?_
  rotate_left
  obtain rfl := oiA hr
  refine xe_of ⟨PI s12, gt, rfl, (show o0.length = n0 by first | assumption | (simp only [llA, lrA]; first | done | assumption | omega) | omega)⟩ ?_
  rotate_left
  all_goals (simp +decide only [go_sem, qby9, qmw9, *])
def qcg9 (s1 : Int) (s2 : Int) (s9 : Int) (s10 : Int) (g1 : AHeap) (v0 : Nat) (n0 : Nat) (g2 : AHeap) : Int × (List Bind) → AHeap → St := fun (s11, o0) gt => ⟨[(0, .ref g1.length v0 0 n0), (1, PI s1), (2, PI s2), (3, .fn 84 []), (8, PB false), (9, PI s9), (10, PI s10), (11, PI s11)], (g1 ++ (.row false v0 2 (rowP qc9 o0) :: (g2 ++ gt)))⟩
def qdy9 (s1 : Int) (s2 : Int) (s9 : Int) (s10 : Int) (g1 : AHeap) (v0 : Nat) (n0 : Nat) (g2 : AHeap) : Int × (List Bind) → Prop := fun (s11, o0) => o0.length = n0
def qfr9 (s1 : Int) (s2 : Int) (s9 : Int) (s10 : Int) (g1 : AHeap) (v0 : Nat) (n0 : Nat) (g2 : AHeap) : ((List Bind)) → AExit × St → Prop := fun o0 q => ∃ d11 : PV, ∃ h1 : AHeap, q = (.exit 4, ⟨[(0, .ref g1.length v0 0 n0), (1, PI s1), (2, PI s2), (3, .fn 84 []), (8, PB false), (9, PI s9), (10, PI s10), (11, d11)], (g1 ++ (.row false v0 2 (rowP qc9 o0) :: (g2 ++ h1)))⟩) ∧ o0.length = n0
set_option maxHeartbeats 60000000 in
theorem qfF9 {s1 : Int} {s2 : Int} {s9 : Int} {s10 : Int} {g1 : AHeap} {v0 : Nat} {n0 : Nat} {g2 : AHeap} : SimI C 21268317252094917911888073248812900111 qmP9 (qdy9 s1 s2 s9 s10 g1 v0 n0 g2) (qJ9 s1 s2 s9 s10) (qcg9 s1 s2 s9 s10 g1 v0 n0 g2) (qfr9 s1 s2 s9 s10 g1 v0 n0 g2) := by
  intro s g r hI hr
  obtain ⟨s11, o0⟩ := s
  have ⟨gt, hg0⟩ : ∃ y, y = g := ⟨_, rfl⟩
  subst hg0
  simp only [qdy9] at hI
  have hI0 := hI
  simp only [qJ9] at hr
  rcases iteP hr with ⟨h1, hr⟩ | ⟨h1, hr⟩
  obtain ⟨x10, h2, x11, h3, x12, h4, hr⟩ := bs3 hr
  have h2a := eq_true (qa9 h2).1
  have h2b : (s11 < (n0 : Int)) = True := eq_true (by have hb : s11 < (o0.length : Int) := (qa9 h2).2.1; omega)
  have h2c := (qa9 h2).2.2
  have h3a := eq_true (qa9 h3).1
  have h3b : ((w64 (s11 - 1)) < (n0 : Int)) = True := eq_true (by have hb : (w64 (s11 - 1)) < (o0.length : Int) := (qa9 h3).2.1; omega)
  have h3c := (qa9 h3).2.2
  have h4k := fun h => (qv9 h4).o rfl rfl rfl (h := h) (args := [.ag [PI x10.Var, .d (.rd (x10.T.map intD))], .ag [PI x11.Var, .d (.rd (x11.T.map intD))]]) rfl
  try simp only [go_sem] at h4k
  rcases iteP hr with ⟨h5, hr⟩ | ⟨h5, hr⟩
  obtain ⟨x13, h6, hr⟩ := bsome hr
  have h6a := eq_true (qa9 h6).1
  have h6b : ((w64 (s11 - 1)) < (n0 : Int)) = True := eq_true (by have hb : (w64 (s11 - 1)) < ((o0.set (s11).toNat x11).length : Int) := (qa9 h6).2.1; simp only [llA, lrA] at hb; omega)
  have h6c := (qa9 h6).2.2
  obtain rfl := oiA hr
  refine ⟨⟨gt, ?_⟩, (show ((o0.set (s11).toNat x11).set (w64 (s11 - 1)).toNat x10).length = n0 by first | assumption | (simp only [llA, lrA]; first | done | assumption | omega) | omega)⟩
  rotate_left
  obtain rfl := oiA hr
  refine xe_of ⟨PI s11, gt, rfl, (show o0.length = n0 by first | assumption | (simp only [llA, lrA]; first | done | assumption | omega) | omega)⟩ ?_
  rotate_left
  obtain rfl := oiA hr
  refine xe_of ⟨PI s11, gt, rfl, (show o0.length = n0 by first | assumption | (simp only [llA, lrA]; first | done | assumption | omega) | omega)⟩ ?_
  rotate_left
  all_goals (simp +decide only [go_sem, qcg9, qmP9, *])
def qbz9 (s1 : Int) (s2 : Int) (s10 : Int) (o0 : List Bind) (g1 : AHeap) (v0 : Nat) (n0 : Nat) (g2 : AHeap) : Int → AHeap → St := fun s9 gt => ⟨[(0, .ref g1.length v0 0 n0), (1, PI s1), (2, PI s2), (3, .fn 84 []), (8, PB false), (9, PI s9), (10, PI s10)], (g1 ++ (.row false v0 2 (rowP qc9 o0) :: (g2 ++ gt)))⟩
def qds9 (s1 : Int) (s2 : Int) (s10 : Int) (o0 : List Bind) (g1 : AHeap) (v0 : Nat) (n0 : Nat) (g2 : AHeap) : Int → Prop := fun s9 => o0.length = n0
def qfE9 (s1 : Int) (s2 : Int) (s10 : Int) (o0 : List Bind) (g1 : AHeap) (v0 : Nat) (n0 : Nat) (g2 : AHeap) : Int → AExit × St → Prop := fun s9 q => ∃ g, q = (.exit 2, qbz9 s1 s2 s10 o0 g1 v0 n0 g2 s9 g)
set_option maxHeartbeats 60000000 in
theorem qfk9 {s1 : Int} {s2 : Int} {s10 : Int} {o0 : List Bind} {g1 : AHeap} {v0 : Nat} {n0 : Nat} {g2 : AHeap} : SimI C 21268317252094917911888073248812900111 qmU9 (qds9 s1 s2 s10 o0 g1 v0 n0 g2) (qB9 s1 s2 s10 o0) (qbz9 s1 s2 s10 o0 g1 v0 n0 g2) (qfE9 s1 s2 s10 o0 g1 v0 n0 g2) := by
  intro s g r hI hr
  have ⟨s9, hs0⟩ : ∃ y, y = s := ⟨_, rfl⟩
  subst hs0
  have ⟨gt, hg0⟩ : ∃ y, y = g := ⟨_, rfl⟩
  subst hg0
  simp only [qds9] at hI
  have hI0 := hI
  simp only [qB9] at hr
  rcases iteP hr with ⟨h1, hr⟩ | ⟨h1, hr⟩
  obtain ⟨x1, h2, x2, h3, x3, h4, hr⟩ := bs3 hr
  have h2a := eq_true (qa9 h2).1
  have h2b : (s9 < (n0 : Int)) = True := eq_true (by have hb : s9 < (o0.length : Int) := (qa9 h2).2.1; omega)
  have h2c := (qa9 h2).2.2
  have h3a := eq_true (qa9 h3).1
  have h3b : ((w64 (s9 - 1)) < (n0 : Int)) = True := eq_true (by have hb : (w64 (s9 - 1)) < (o0.length : Int) := (qa9 h3).2.1; omega)
  have h3c := (qa9 h3).2.2
  have h4k := fun h => (qv9 h4).o rfl rfl rfl (h := h) (args := [.ag [PI x1.Var, .d (.rd (x1.T.map intD))], .ag [PI x2.Var, .d (.rd (x2.T.map intD))]]) rfl
  try simp only [go_sem] at h4k
  rcases iteP hr with ⟨h5, hr⟩ | ⟨h5, hr⟩
  obtain rfl := oiA hr
  refine xe_of ⟨gt, rfl⟩ ?_
  rotate_left
  obtain rfl := oiA hr
  refine ⟨⟨gt, ?_⟩, (show o0.length = n0 by first | assumption | (simp only [llA, lrA]; first | done | assumption | omega) | omega)⟩
  rotate_left
  obtain rfl := oiA hr
  refine xe_of ⟨gt, rfl⟩ ?_
  rotate_left
  all_goals (simp +decide only [go_sem, qbz9, qmU9, *])
def qbb9 (s1 : Int) (s2 : Int) (g1 : AHeap) (v0 : Nat) (n0 : Nat) (g2 : AHeap) : Int × Int × (List Bind) → AHeap → St := fun (s9, s10, o0) gt => ⟨[(0, .ref g1.length v0 0 n0), (1, PI s1), (2, PI s2), (3, .fn 84 []), (8, PB false), (9, PI s9), (10, PI s10)], (g1 ++ (.row false v0 2 (rowP qc9 o0) :: (g2 ++ gt)))⟩
def qdq9 (s1 : Int) (s2 : Int) (g1 : AHeap) (v0 : Nat) (n0 : Nat) (g2 : AHeap) : Int × Int × (List Bind) → Prop := fun (s9, s10, o0) => o0.length = n0
def qfn9 (s1 : Int) (s2 : Int) (g1 : AHeap) (v0 : Nat) (n0 : Nat) (g2 : AHeap) : ((Bool × (List Bind)) ⊕ (Int × Int × (List Bind))) → AExit × St → Prop
  | .inl r, q => XL C [.tmp 8] (fun vs hp => ∃ hz : AHeap, vs = [PB r.1] ∧ hp = (g1 ++ (.row false v0 2 (rowP qc9 r.2) :: (g2 ++ hz))) ∧ r.2.length = n0) q
  | .inr (s9, s10, o0), q => ∃ g, q = (.exit 0, qbb9 s1 s2 g1 v0 n0 g2 (s9, s10, o0) g) ∧ o0.length = n0
set_option maxHeartbeats 60000000 in
theorem qfA9 {s1 : Int} {s2 : Int} {g1 : AHeap} {v0 : Nat} {n0 : Nat} {g2 : AHeap} : SimI C 21268317252094917911888073248812900111 qmn9 (qdq9 s1 s2 g1 v0 n0 g2) (qH9 s1 s2) (qbb9 s1 s2 g1 v0 n0 g2) (qfn9 s1 s2 g1 v0 n0 g2) := by
  intro s g r hI hr
  obtain ⟨s9, s10, o0⟩ := s
  have ⟨gt, hg0⟩ : ∃ y, y = g := ⟨_, rfl⟩
  subst hg0
  simp only [qdq9] at hI
  have hI0 := hI
  simp only [qH9] at hr
  rcases iteP hr with ⟨h1, hr⟩ | ⟨h1, hr⟩
  obtain ⟨x4, h2, hr⟩ := bsome hr
  obtain ⟨q2, h2L, h2X⟩ := (qfk9 (g1 := g1) (v0 := v0) (n0 := n0) (g2 := (g2 ++ gt))).L (g := []) h2 (show o0.length = n0 by first | assumption | (simp only [llA, lrA]; first | done | assumption | omega) | omega)
  have ⟨x5, hq2⟩ : ∃ y, y = x4 := ⟨_, rfl⟩
  subst hq2
  try dsimp only at hr
  obtain ⟨z6, rfl⟩ := h2X
  simp only [qbz9, go_sem] at h2L
  try simp only [hI0] at h2L
  rcases iteP hr with ⟨h3, hr⟩ | ⟨h3, hr⟩
  obtain rfl := oiA hr
  refine xl_of ⟨(gt ++ z6), rfl, rfl, (show o0.length = n0 by first | assumption | (simp only [llA, lrA]; first | done | assumption | omega) | omega)⟩ ?_
  rotate_left
  rcases iteP hr with ⟨h4, hr⟩ | ⟨h4, hr⟩
  obtain rfl := oiA hr
  refine xl_of ⟨(gt ++ z6), rfl, rfl, (show o0.length = n0 by first | assumption | (simp only [llA, lrA]; first | done | assumption | omega) | omega)⟩ ?_
  rotate_left
  obtain ⟨x7, h5, x8, h6, x9, h7, hr⟩ := bs3 hr
  have h5a := eq_true (qa9 h5).1
  have h5b : ((w64 (x5 - 1)) < (n0 : Int)) = True := eq_true (by have hb : (w64 (x5 - 1)) < (o0.length : Int) := (qa9 h5).2.1; omega)
  have h5c := (qa9 h5).2.2
  have h6a := eq_true (qa9 h6).1
  have h6b : (x5 < (n0 : Int)) = True := eq_true (by have hb : x5 < (o0.length : Int) := (qa9 h6).2.1; omega)
  have h6c := (qa9 h6).2.2
  have h7a := eq_true (qa9 h7).1
  have h7b : ((w64 (x5 - 1)) < (n0 : Int)) = True := eq_true (by have hb : (w64 (x5 - 1)) < ((o0.set (x5).toNat x7).length : Int) := (qa9 h7).2.1; simp only [llA, lrA] at hb; omega)
  have h7c := (qa9 h7).2.2
  rcases iteP hr with ⟨h8, hr⟩ | ⟨h8, hr⟩
  obtain ⟨x14, h9, hr⟩ := bsome hr
  obtain ⟨q9, h9L, h9X⟩ := (qfF9 (g1 := g1) (v0 := v0) (n0 := n0) (g2 := (g2 ++ (gt ++ z6)))).L (g := []) h9 (show ((o0.set (x5).toNat x7).set (w64 (x5 - 1)).toNat x8).length = n0 by first | assumption | (simp only [llA, lrA]; first | done | assumption | omega) | omega)
  have ⟨x15, hq9⟩ : ∃ y, y = x14 := ⟨_, rfl⟩
  subst hq9
  try dsimp only at hr
  obtain ⟨z16, z17, rfl, h9l0⟩ := h9X
  simp only [qcg9, go_sem] at h9L
  try simp only [hI0] at h9L
  rcases iteP hr with ⟨h10, hr⟩ | ⟨h10, hr⟩
  obtain ⟨x22, h11, hr⟩ := bsome hr
  obtain ⟨q11, h11L, h11X⟩ := (qdu9 (g1 := g1) (v0 := v0) (n0 := n0) (g2 := (g2 ++ (gt ++ (z6 ++ z17))))).L (g := []) h11 (show x15.length = n0 by first | assumption | (simp only [llA, lrA]; first | done | assumption | omega) | omega)
  have ⟨x23, hq11⟩ : ∃ y, y = x22 := ⟨_, rfl⟩
  subst hq11
  try dsimp only at hr
  obtain ⟨z24, z25, rfl, h11l0⟩ := h11X
  simp only [qby9, go_sem] at h11L
  try simp only [hI0] at h11L
  obtain rfl := oiA hr
  refine ⟨⟨(gt ++ (z6 ++ (z17 ++ z25))), ?_⟩, (show x23.length = n0 by first | assumption | (simp only [llA, lrA]; first | done | assumption | omega) | omega)⟩
  rotate_left
  obtain rfl := oiA hr
  refine ⟨⟨(gt ++ (z6 ++ z17)), ?_⟩, (show x15.length = n0 by first | assumption | (simp only [llA, lrA]; first | done | assumption | omega) | omega)⟩
  rotate_left
  rcases iteP hr with ⟨h12, hr⟩ | ⟨h12, hr⟩
  obtain ⟨x30, h13, hr⟩ := bsome hr
  obtain ⟨q13, h13L, h13X⟩ := (qdu9 (g1 := g1) (v0 := v0) (n0 := n0) (g2 := (g2 ++ (gt ++ z6)))).L (g := []) h13 (show ((o0.set (x5).toNat x7).set (w64 (x5 - 1)).toNat x8).length = n0 by first | assumption | (simp only [llA, lrA]; first | done | assumption | omega) | omega)
  have ⟨x31, hq13⟩ : ∃ y, y = x30 := ⟨_, rfl⟩
  subst hq13
  try dsimp only at hr
  obtain ⟨z32, z33, rfl, h13l0⟩ := h13X
  simp only [qby9, go_sem] at h13L
  try simp only [hI0] at h13L
  obtain rfl := oiA hr
  refine ⟨⟨(gt ++ (z6 ++ z33)), ?_⟩, (show x31.length = n0 by first | assumption | (simp only [llA, lrA]; first | done | assumption | omega) | omega)⟩
  rotate_left
  obtain rfl := oiA hr
  refine ⟨⟨(gt ++ z6), ?_⟩, (show ((o0.set (x5).toNat x7).set (w64 (x5 - 1)).toNat x8).length = n0 by first | assumption | (simp only [llA, lrA]; first | done | assumption | omega) | omega)⟩
  rotate_left
  obtain rfl := oiA hr
  refine xe_of ⟨gt, rfl, (show o0.length = n0 by first | assumption | (simp only [llA, lrA]; first | done | assumption | omega) | omega)⟩ ?_
  rotate_left
  all_goals (simp +decide only [go_sem, qbb9, qmn9, *])
set_option maxHeartbeats 60000000 in
theorem qdJ9 {s1 : Int} {s2 : Int} {o0 : List Bind} {g1 : AHeap} {v0 : Nat} {n0 : Nat} {g2 : AHeap} (hln0 : o0.length = n0) {r : Bool × (List Bind)} (hr : qO9 s1 s2 o0 = some r) : ∃ hz : AHeap, Lim C 127 [.ref g1.length v0 0 n0, PI s1, PI s2, .fn 84 []] (g1 ++ (.row false v0 2 (rowP qc9 o0) :: g2)) = some (resOf [PB r.1], (g1 ++ (.row false v0 2 (rowP qc9 r.2) :: (g2 ++ hz)))) ∧ r.2.length = n0 := by
  simp only [qO9] at hr
  obtain ⟨x34, h1, hr⟩ := bsome hr
  obtain ⟨q1, h1L, h1X⟩ := (qfA9 (g1 := g1) (v0 := v0) (n0 := n0) (g2 := g2)).L (g := []) h1 (show o0.length = n0 by first | assumption | (simp only [llA, lrA]; first | done | assumption | omega) | omega)
  rcases x34 with x35 | ⟨x36, x37, x38⟩
  try dsimp only at hr
  obtain ⟨st1, _, _, rfl, h1R, y2, rfl, rfl, h1f0⟩ := h1X
  simp only [qbb9, go_sem] at h1L
  try simp only [hln0] at h1L
  obtain rfl := oiA hr
  refine ⟨y2, run_L is127 (nbA rfl) ?_, h1f0⟩
  rotate_left
  try dsimp only at hr
  obtain ⟨z39, rfl, h1l0⟩ := h1X
  simp only [qbb9, go_sem] at h1L
  try simp only [hln0] at h1L
  obtain rfl := oiA hr
  refine ⟨z39, run_L is127 (nbA rfl) ?_, (show x38.length = n0 by first | assumption | (simp only [llA, lrA]; first | done | assumption | omega) | omega)⟩
  rotate_left
  all_goals (simp +decide only [go_sem, c127, *])
def qmq9 : ACode := .seq (.seq (.reg [] [] [.M 123 12, .M 124 13, .T 125 (.bin .leq (.tmp 123) (.tmp 124)), .M 126 125, .MG 127 126 true 4, .MG 128 126 true 0, .MG 129 126 true 13, ⟨some (130, false), .ix 2 (.tmp 128) (.tmp 129), some (126, true), true, false⟩, ⟨some (131, false), .load (some 2) (.tmp 130), some (126, true), true, false⟩, .MG 132 126 true 0, .MG 133 126 true 1, ⟨some (134, false), .ix 2 (.tmp 132) (.tmp 133), some (126, true), true, false⟩, ⟨some (135, false), .load (some 2) (.tmp 134), some (126, true), true, false⟩, ⟨some (136, false), .callV (.tmp 127) [.tmp 131, .tmp 135], some (126, true), true, false⟩, .TG 137 126 true (.bin .lss (.tmp 136) (cI 0)), .TG 138 126 true (.not (.tmp 137)), .K 139 (.pick (.tmp 126) (.tmp 138) (.const (.bool false)))]) (.cond (.tmp 139) (some 139) (.skip) (.exit 8))) (.block 9 696898287454081973172991196020261297061888 (.reg [] [] [.M 140 13, .T 141 (.bin .sub (.tmp 140) (cI 1)), .N 13 141]))
def qms9 : ACode := .seq (.seq (.reg [] [] [.M 105 12, .M 106 13, .T 107 (.bin .leq (.tmp 105) (.tmp 106)), .M 108 107, .MG 109 108 true 4, .MG 110 108 true 0, .MG 111 108 true 12, ⟨some (112, false), .ix 2 (.tmp 110) (.tmp 111), some (108, true), true, false⟩, ⟨some (113, false), .load (some 2) (.tmp 112), some (108, true), true, false⟩, .MG 114 108 true 0, .MG 115 108 true 1, ⟨some (116, false), .ix 2 (.tmp 114) (.tmp 115), some (108, true), true, false⟩, ⟨some (117, false), .load (some 2) (.tmp 116), some (108, true), true, false⟩, ⟨some (118, false), .callV (.tmp 109) [.tmp 113, .tmp 117], some (108, true), true, false⟩, .TG 119 108 true (.bin .lss (.tmp 118) (cI 0)), .K 120 (.pick (.tmp 108) (.tmp 119) (.const (.bool false)))]) (.cond (.tmp 120) (some 120) (.skip) (.exit 6))) (.block 7 1329227995784915872903807060280344576 (.reg [] [] [.M 121 12, .T 122 (.bin .add (.tmp 121) (cI 1)), .N 12 122]))
def qmk9 : ACode := .block 5 22997644815212700899624582372475683083386880 (.seq (.block 6 1329227995784915872903807060280344576 (.loop qms9)) (.seq (.block 8 696899616682077758088864099827321577406464 (.loop qmq9)) (.seq (.seq (.reg [] [] [.M 142 12, .M 143 13, .K 144 (.bin .gtr (.tmp 142) (.tmp 143))]) (.cond (.tmp 144) (some 144) (.exit 4) (.skip))) (.seq (.reg [] [] [.M 145 0, .M 146 12, .M 147 0, .M 148 13, .M 149 0, .M 150 13, ⟨some (151, false), .ix 2 (.tmp 149) (.tmp 150), none, true, false⟩, ⟨some (152, false), .load (some 2) (.tmp 151), none, true, false⟩, .M 153 0, .M 154 12, ⟨some (155, false), .ix 2 (.tmp 153) (.tmp 154), none, true, false⟩, ⟨some (156, false), .load (some 2) (.tmp 155), none, true, false⟩, ⟨some (157, false), .ix 2 (.tmp 145) (.tmp 146), none, true, false⟩, ⟨none, .store 2 (.tmp 157) (.tmp 152), none, false, false⟩, ⟨some (158, false), .ix 2 (.tmp 147) (.tmp 148), none, true, false⟩, ⟨none, .store 2 (.tmp 158) (.tmp 156), none, false, false⟩]) (.seq (.reg [] [] [.M 159 12, .T 160 (.bin .add (.tmp 159) (cI 1)), .N 12 160]) (.reg [] [] [.M 161 13, .T 162 (.bin .sub (.tmp 161) (cI 1)), .N 13 162]))))))
def qmr9 : ACode := .seq (.seq (.reg [] [] [.M 50 12, .M 51 13, .T 52 (.bin .leq (.tmp 50) (.tmp 51)), .M 53 52, .MG 54 53 true 4, .MG 55 53 true 0, .MG 56 53 true 13, ⟨some (57, false), .ix 2 (.tmp 55) (.tmp 56), some (53, true), true, false⟩, ⟨some (58, false), .load (some 2) (.tmp 57), some (53, true), true, false⟩, .MG 59 53 true 0, .MG 60 53 true 1, ⟨some (61, false), .ix 2 (.tmp 59) (.tmp 60), some (53, true), true, false⟩, ⟨some (62, false), .load (some 2) (.tmp 61), some (53, true), true, false⟩, ⟨some (63, false), .callV (.tmp 54) [.tmp 58, .tmp 62], some (53, true), true, false⟩, .TG 64 53 true (.bin .lss (.tmp 63) (cI 0)), .TG 65 53 true (.not (.tmp 64)), .K 66 (.pick (.tmp 53) (.tmp 65) (.const (.bool false)))]) (.cond (.tmp 66) (some 66) (.skip) (.exit 2))) (.block 3 73786976294838206464 (.reg [] [] [.M 67 13, .T 68 (.bin .sub (.tmp 67) (cI 1)), .N 13 68]))
def qmp9 : ACode := .seq (.seq (.reg [] [] [.M 32 12, .M 33 13, .T 34 (.bin .leq (.tmp 32) (.tmp 33)), .M 35 34, .MG 36 35 true 4, .MG 37 35 true 0, .MG 38 35 true 12, ⟨some (39, false), .ix 2 (.tmp 37) (.tmp 38), some (35, true), true, false⟩, ⟨some (40, false), .load (some 2) (.tmp 39), some (35, true), true, false⟩, .MG 41 35 true 0, .MG 42 35 true 1, ⟨some (43, false), .ix 2 (.tmp 41) (.tmp 42), some (35, true), true, false⟩, ⟨some (44, false), .load (some 2) (.tmp 43), some (35, true), true, false⟩, ⟨some (45, false), .callV (.tmp 36) [.tmp 40, .tmp 44], some (35, true), true, false⟩, .TG 46 35 true (.bin .lss (.tmp 45) (cI 0)), .K 47 (.pick (.tmp 35) (.tmp 46) (.const (.bool false)))]) (.cond (.tmp 47) (some 47) (.skip) (.exit 0))) (.block 1 140737488355328 (.reg [] [] [.M 48 12, .T 49 (.bin .add (.tmp 48) (cI 1)), .N 12 49]))
def c129 : ACode := .seq (.reg [] [] [.K 10 (.mv (cI 0)), .K 11 (.mv (.const (.bool false)))]) (.seq (.reg [] [] [.M 14 0, .M 15 1, .M 16 0, .M 17 3, .M 18 0, .M 19 3, ⟨some (20, false), .ix 2 (.tmp 18) (.tmp 19), none, true, false⟩, ⟨some (21, false), .load (some 2) (.tmp 20), none, true, false⟩, .M 22 0, .M 23 1, ⟨some (24, false), .ix 2 (.tmp 22) (.tmp 23), none, true, false⟩, ⟨some (25, false), .load (some 2) (.tmp 24), none, true, false⟩, ⟨some (26, false), .ix 2 (.tmp 14) (.tmp 15), none, true, false⟩, ⟨none, .store 2 (.tmp 26) (.tmp 21), none, false, false⟩, ⟨some (27, false), .ix 2 (.tmp 16) (.tmp 17), none, true, false⟩, ⟨none, .store 2 (.tmp 27) (.tmp 25), none, false, false⟩]) (.seq (.reg [] [] [.M 28 1, .T 29 (.bin .add (.tmp 28) (cI 1)), .M 30 2, .T 31 (.bin .sub (.tmp 30) (cI 1)), .N 12 29, .N 13 31]) (.seq (.block 0 140737488355328 (.loop qmp9)) (.seq (.block 2 73786976294838206464 (.loop qmr9)) (.seq (.seq (.reg [] [] [.M 69 12, .M 70 13, .K 71 (.bin .gtr (.tmp 69) (.tmp 70))]) (.cond (.tmp 71) (some 71) (.seq (.reg [] [] [.M 72 0, .M 73 13, .M 74 0, .M 75 1, .M 76 0, .M 77 1, ⟨some (78, false), .ix 2 (.tmp 76) (.tmp 77), none, true, false⟩, ⟨some (79, false), .load (some 2) (.tmp 78), none, true, false⟩, .M 80 0, .M 81 13, ⟨some (82, false), .ix 2 (.tmp 80) (.tmp 81), none, true, false⟩, ⟨some (83, false), .load (some 2) (.tmp 82), none, true, false⟩, ⟨some (84, false), .ix 2 (.tmp 72) (.tmp 73), none, true, false⟩, ⟨none, .store 2 (.tmp 84) (.tmp 79), none, false, false⟩, ⟨some (85, false), .ix 2 (.tmp 74) (.tmp 75), none, true, false⟩, ⟨none, .store 2 (.tmp 85) (.tmp 83), none, false, false⟩]) (.seq (.reg [] [] [.M 86 13, .N 10 86, .K 11 (.mv (.const (.bool true)))]) (.ret))) (.skip))) (.seq (.reg [] [] [.M 87 0, .M 88 12, .M 89 0, .M 90 13, .M 91 0, .M 92 13, ⟨some (93, false), .ix 2 (.tmp 91) (.tmp 92), none, true, false⟩, ⟨some (94, false), .load (some 2) (.tmp 93), none, true, false⟩, .M 95 0, .M 96 12, ⟨some (97, false), .ix 2 (.tmp 95) (.tmp 96), none, true, false⟩, ⟨some (98, false), .load (some 2) (.tmp 97), none, true, false⟩, ⟨some (99, false), .ix 2 (.tmp 87) (.tmp 88), none, true, false⟩, ⟨none, .store 2 (.tmp 99) (.tmp 94), none, false, false⟩, ⟨some (100, false), .ix 2 (.tmp 89) (.tmp 90), none, true, false⟩, ⟨none, .store 2 (.tmp 100) (.tmp 98), none, false, false⟩]) (.seq (.reg [] [] [.M 101 12, .T 102 (.bin .add (.tmp 101) (cI 1)), .N 12 102]) (.seq (.reg [] [] [.M 103 13, .T 104 (.bin .sub (.tmp 103) (cI 1)), .N 13 104]) (.seq (.block 4 22997644815212700899624582372475683083386880 (.loop qmk9)) (.seq (.reg [] [] [.M 163 0, .M 164 13, .M 165 0, .M 166 1, .M 167 0, .M 168 1, ⟨some (169, false), .ix 2 (.tmp 167) (.tmp 168), none, true, false⟩, ⟨some (170, false), .load (some 2) (.tmp 169), none, true, false⟩, .M 171 0, .M 172 13, ⟨some (173, false), .ix 2 (.tmp 171) (.tmp 172), none, true, false⟩, ⟨some (174, false), .load (some 2) (.tmp 173), none, true, false⟩, ⟨some (175, false), .ix 2 (.tmp 163) (.tmp 164), none, true, false⟩, ⟨none, .store 2 (.tmp 175) (.tmp 170), none, false, false⟩, ⟨some (176, false), .ix 2 (.tmp 165) (.tmp 166), none, true, false⟩, ⟨none, .store 2 (.tmp 176) (.tmp 174), none, false, false⟩]) (.seq (.reg [] [] [.M 177 13, .N 10 177, .K 11 (.mv (.const (.bool false)))]) (.ret))))))))))))
theorem is129 : IsF C 129 178 22997644815212700899627017342834150232570911 c129 [.tmp 10, .tmp 11] := ⟨⟨Tryd.f129, _, C_P ▸ Tryd.func129, rfl, rfl, rfl, by kernel_rfl, rfl⟩⟩
def qcP9 (s1 : Int) (s2 : Int) (s3 : Int) (s12 : Int) (o0 : List Bind) (g1 : AHeap) (v0 : Nat) (n0 : Nat) (g2 : AHeap) : Int → AHeap → St := fun s13 gt => ⟨[(0, .ref g1.length v0 0 n0), (1, PI s1), (2, PI s2), (3, PI s3), (4, .fn 84 []), (10, PI 0), (11, PB false), (12, PI s12), (13, PI s13)], (g1 ++ (.row false v0 2 (rowP qc9 o0) :: (g2 ++ gt)))⟩
def qfC9 (s1 : Int) (s2 : Int) (s3 : Int) (s12 : Int) (o0 : List Bind) (g1 : AHeap) (v0 : Nat) (n0 : Nat) (g2 : AHeap) : Int → Prop := fun s13 => o0.length = n0
def qiM9 (s1 : Int) (s2 : Int) (s3 : Int) (s12 : Int) (o0 : List Bind) (g1 : AHeap) (v0 : Nat) (n0 : Nat) (g2 : AHeap) : Int → AExit × St → Prop := fun s13 q => ∃ g, q = (.exit 8, qcP9 s1 s2 s3 s12 o0 g1 v0 n0 g2 s13 g)
set_option maxHeartbeats 60000000 in
theorem qiO9 {s1 : Int} {s2 : Int} {s3 : Int} {s12 : Int} {o0 : List Bind} {g1 : AHeap} {v0 : Nat} {n0 : Nat} {g2 : AHeap} : SimI C 22997644815212700899627017342834150232570911 qmq9 (qfC9 s1 s2 s3 s12 o0 g1 v0 n0 g2) (qce9 s1 s2 s3 s12 o0) (qcP9 s1 s2 s3 s12 o0 g1 v0 n0 g2) (qiM9 s1 s2 s3 s12 o0 g1 v0 n0 g2) := by
  intro s g r hI hr
  have ⟨s13, hs0⟩ : ∃ y, y = s := ⟨_, rfl⟩
  subst hs0
  have ⟨gt, hg0⟩ : ∃ y, y = g := ⟨_, rfl⟩
  subst hg0
  simp only [qfC9] at hI
  have hI0 := hI
  simp only [qce9] at hr
  rcases iteP hr with ⟨h1, hr⟩ | ⟨h1, hr⟩
  obtain ⟨x28, h2, x29, h3, x30, h4, hr⟩ := bs3 hr
  have h2a := eq_true (qa9 h2).1
  have h2b : (s13 < (n0 : Int)) = True := eq_true (by have hb : s13 < (o0.length : Int) := (qa9 h2).2.1; omega)
  have h2c := (qa9 h2).2.2
  have h3a := eq_true (qa9 h3).1
  have h3b : (s1 < (n0 : Int)) = True := eq_true (by have hb : s1 < (o0.length : Int) := (qa9 h3).2.1; omega)
  have h3c := (qa9 h3).2.2
  have h4k := fun h => (qv9 h4).o rfl rfl rfl (h := h) (args := [.ag [PI x28.Var, .d (.rd (x28.T.map intD))], .ag [PI x29.Var, .d (.rd (x29.T.map intD))]]) rfl
  try simp only [go_sem] at h4k
  rcases iteP hr with ⟨h5, hr⟩ | ⟨h5, hr⟩
  obtain rfl := oiA hr
  refine xe_of ⟨gt, rfl⟩ ?_
  rotate_left
  obtain rfl := oiA hr
  refine ⟨⟨gt, ?_⟩, (show o0.length = n0 by first | assumption | (simp only [llA, lrA]; first | done | assumption | omega) | omega)⟩
  rotate_left
  obtain rfl := oiA hr
  refine xe_of ⟨gt, rfl⟩ ?_
  rotate_left
  all_goals (simp +decide only [go_sem, qcP9, qmq9, *])
def qcL9 (s1 : Int) (s2 : Int) (s3 : Int) (s13 : Int) (o0 : List Bind) (g1 : AHeap) (v0 : Nat) (n0 : Nat) (g2 : AHeap) : Int → AHeap → St := fun s12 gt => ⟨[(0, .ref g1.length v0 0 n0), (1, PI s1), (2, PI s2), (3, PI s3), (4, .fn 84 []), (10, PI 0), (11, PB false), (12, PI s12), (13, PI s13)], (g1 ++ (.row false v0 2 (rowP qc9 o0) :: (g2 ++ gt)))⟩
def qfq9 (s1 : Int) (s2 : Int) (s3 : Int) (s13 : Int) (o0 : List Bind) (g1 : AHeap) (v0 : Nat) (n0 : Nat) (g2 : AHeap) : Int → Prop := fun s12 => o0.length = n0
def qiG9 (s1 : Int) (s2 : Int) (s3 : Int) (s13 : Int) (o0 : List Bind) (g1 : AHeap) (v0 : Nat) (n0 : Nat) (g2 : AHeap) : Int → AExit × St → Prop := fun s12 q => ∃ g, q = (.exit 6, qcL9 s1 s2 s3 s13 o0 g1 v0 n0 g2 s12 g)
set_option maxHeartbeats 60000000 in
theorem qiC9 {s1 : Int} {s2 : Int} {s3 : Int} {s13 : Int} {o0 : List Bind} {g1 : AHeap} {v0 : Nat} {n0 : Nat} {g2 : AHeap} : SimI C 22997644815212700899627017342834150232570911 qms9 (qfq9 s1 s2 s3 s13 o0 g1 v0 n0 g2) (qch9 s1 s2 s3 s13 o0) (qcL9 s1 s2 s3 s13 o0 g1 v0 n0 g2) (qiG9 s1 s2 s3 s13 o0 g1 v0 n0 g2) := by
  intro s g r hI hr
  have ⟨s12, hs0⟩ : ∃ y, y = s := ⟨_, rfl⟩
  subst hs0
  have ⟨gt, hg0⟩ : ∃ y, y = g := ⟨_, rfl⟩
  subst hg0
  simp only [qfq9] at hI
  have hI0 := hI
  simp only [qch9] at hr
  rcases iteP hr with ⟨h1, hr⟩ | ⟨h1, hr⟩
  obtain ⟨x22, h2, x23, h3, x24, h4, hr⟩ := bs3 hr
  have h2a := eq_true (qa9 h2).1
  have h2b : (s12 < (n0 : Int)) = True := eq_true (by have hb : s12 < (o0.length : Int) := (qa9 h2).2.1; omega)
  have h2c := (qa9 h2).2.2
  have h3a := eq_true (qa9 h3).1
  have h3b : (s1 < (n0 : Int)) = True := eq_true (by have hb : s1 < (o0.length : Int) := (qa9 h3).2.1; omega)
  have h3c := (qa9 h3).2.2
  have h4k := fun h => (qv9 h4).o rfl rfl rfl (h := h) (args := [.ag [PI x22.Var, .d (.rd (x22.T.map intD))], .ag [PI x23.Var, .d (.rd (x23.T.map intD))]]) rfl
  try simp only [go_sem] at h4k
  rcases iteP hr with ⟨h5, hr⟩ | ⟨h5, hr⟩
  obtain rfl := oiA hr
  refine ⟨⟨gt, ?_⟩, (show o0.length = n0 by first | assumption | (simp only [llA, lrA]; first | done | assumption | omega) | omega)⟩
  rotate_left
  obtain rfl := oiA hr
  refine xe_of ⟨gt, rfl⟩ ?_
  rotate_left
  obtain rfl := oiA hr
  refine xe_of ⟨gt, rfl⟩ ?_
  rotate_left
  all_goals (simp +decide only [go_sem, qcL9, qms9, *])
def qcN9 (s1 : Int) (s2 : Int) (s3 : Int) (g1 : AHeap) (v0 : Nat) (n0 : Nat) (g2 : AHeap) : Int × Int × (List Bind) → AHeap → St := fun (s12, s13, o0) gt => ⟨[(0, .ref g1.length v0 0 n0), (1, PI s1), (2, PI s2), (3, PI s3), (4, .fn 84 []), (10, PI 0), (11, PB false), (12, PI s12), (13, PI s13)], (g1 ++ (.row false v0 2 (rowP qc9 o0) :: (g2 ++ gt)))⟩
def qfo9 (s1 : Int) (s2 : Int) (s3 : Int) (g1 : AHeap) (v0 : Nat) (n0 : Nat) (g2 : AHeap) : Int × Int × (List Bind) → Prop := fun (s12, s13, o0) => o0.length = n0
def qiL9 (s1 : Int) (s2 : Int) (s3 : Int) (g1 : AHeap) (v0 : Nat) (n0 : Nat) (g2 : AHeap) : (Int × Int × (List Bind)) → AExit × St → Prop := fun (s12, s13, o0) q => ∃ g, q = (.exit 4, qcN9 s1 s2 s3 g1 v0 n0 g2 (s12, s13, o0) g) ∧ o0.length = n0
set_option maxHeartbeats 60000000 in
theorem qiP9 {s1 : Int} {s2 : Int} {s3 : Int} {g1 : AHeap} {v0 : Nat} {n0 : Nat} {g2 : AHeap} : SimI C 22997644815212700899627017342834150232570911 qmk9 (qfo9 s1 s2 s3 g1 v0 n0 g2) (qbc9 s1 s2 s3) (qcN9 s1 s2 s3 g1 v0 n0 g2) (qiL9 s1 s2 s3 g1 v0 n0 g2) := by
  intro s g r hI hr
  obtain ⟨s12, s13, o0⟩ := s
  have ⟨gt, hg0⟩ : ∃ y, y = g := ⟨_, rfl⟩
  subst hg0
  simp only [qfo9] at hI
  have hI0 := hI
  simp only [qbc9] at hr
  obtain ⟨x25, h1, hr⟩ := bsome hr
  obtain ⟨q1, h1L, h1X⟩ := (qiC9 (g1 := g1) (v0 := v0) (n0 := n0) (g2 := (g2 ++ gt))).L (g := []) h1 (show o0.length = n0 by first | assumption | (simp only [llA, lrA]; first | done | assumption | omega) | omega)
  have ⟨x26, hq1⟩ : ∃ y, y = x25 := ⟨_, rfl⟩
  subst hq1
  try dsimp only at hr
  obtain ⟨z27, rfl⟩ := h1X
  simp only [qcL9, go_sem] at h1L
  try simp only [hI0] at h1L
  obtain ⟨x31, h2, hr⟩ := bsome hr
  obtain ⟨q2, h2L, h2X⟩ := (qiO9 (g1 := g1) (v0 := v0) (n0 := n0) (g2 := (g2 ++ (gt ++ z27)))).L (g := []) h2 (show o0.length = n0 by first | assumption | (simp only [llA, lrA]; first | done | assumption | omega) | omega)
  have ⟨x32, hq2⟩ : ∃ y, y = x31 := ⟨_, rfl⟩
  subst hq2
  try dsimp only at hr
  obtain ⟨z33, rfl⟩ := h2X
  simp only [qcP9, go_sem] at h2L
  try simp only [hI0] at h2L
  rcases iteP hr with ⟨h3, hr⟩ | ⟨h3, hr⟩
  obtain rfl := oiA hr
  refine xe_of ⟨(gt ++ (z27 ++ z33)), rfl, (show o0.length = n0 by first | assumption | (simp only [llA, lrA]; first | done | assumption | omega) | omega)⟩ ?_
  rotate_left
  obtain ⟨x34, h4, x35, h5, x36, h6, hr⟩ := bs3 hr
  have h4a := eq_true (qa9 h4).1
  have h4b : (x32 < (n0 : Int)) = True := eq_true (by have hb : x32 < (o0.length : Int) := (qa9 h4).2.1; omega)
  have h4c := (qa9 h4).2.2
  have h5a := eq_true (qa9 h5).1
  have h5b : (x26 < (n0 : Int)) = True := eq_true (by have hb : x26 < (o0.length : Int) := (qa9 h5).2.1; omega)
  have h5c := (qa9 h5).2.2
  have h6a := eq_true (qa9 h6).1
  have h6b : (x32 < (n0 : Int)) = True := eq_true (by have hb : x32 < ((o0.set (x26).toNat x34).length : Int) := (qa9 h6).2.1; simp only [llA, lrA] at hb; omega)
  have h6c := (qa9 h6).2.2
  obtain rfl := oiA hr
  refine ⟨⟨(gt ++ (z27 ++ z33)), ?_⟩, (show ((o0.set (x26).toNat x34).set (x32).toNat x35).length = n0 by first | assumption | (simp only [llA, lrA]; first | done | assumption | omega) | omega)⟩
  rotate_left
  all_goals (simp +decide only [go_sem, qcN9, qmk9, *])
def qcR9 (s1 : Int) (s2 : Int) (s3 : Int) (s12 : Int) (o0 : List Bind) (g1 : AHeap) (v0 : Nat) (n0 : Nat) (g2 : AHeap) : Int → AHeap → St := fun s13 gt => ⟨[(0, .ref g1.length v0 0 n0), (1, PI s1), (2, PI s2), (3, PI s3), (4, .fn 84 []), (10, PI 0), (11, PB false), (12, PI s12), (13, PI s13)], (g1 ++ (.row false v0 2 (rowP qc9 o0) :: (g2 ++ gt)))⟩
def qfH9 (s1 : Int) (s2 : Int) (s3 : Int) (s12 : Int) (o0 : List Bind) (g1 : AHeap) (v0 : Nat) (n0 : Nat) (g2 : AHeap) : Int → Prop := fun s13 => o0.length = n0
def qiJ9 (s1 : Int) (s2 : Int) (s3 : Int) (s12 : Int) (o0 : List Bind) (g1 : AHeap) (v0 : Nat) (n0 : Nat) (g2 : AHeap) : Int → AExit × St → Prop := fun s13 q => ∃ g, q = (.exit 2, qcR9 s1 s2 s3 s12 o0 g1 v0 n0 g2 s13 g)
set_option maxHeartbeats 60000000 in
theorem qiH9 {s1 : Int} {s2 : Int} {s3 : Int} {s12 : Int} {o0 : List Bind} {g1 : AHeap} {v0 : Nat} {n0 : Nat} {g2 : AHeap} : SimI C 22997644815212700899627017342834150232570911 qmr9 (qfH9 s1 s2 s3 s12 o0 g1 v0 n0 g2) (qcj9 s1 s2 s3 s12 o0) (qcR9 s1 s2 s3 s12 o0 g1 v0 n0 g2) (qiJ9 s1 s2 s3 s12 o0 g1 v0 n0 g2) := by
  intro s g r hI hr
  have ⟨s13, hs0⟩ : ∃ y, y = s := ⟨_, rfl⟩
  subst hs0
  have ⟨gt, hg0⟩ : ∃ y, y = g := ⟨_, rfl⟩
  subst hg0
  simp only [qfH9] at hI
  have hI0 := hI
  simp only [qcj9] at hr
  rcases iteP hr with ⟨h1, hr⟩ | ⟨h1, hr⟩
  obtain ⟨x10, h2, x11, h3, x12, h4, hr⟩ := bs3 hr
  have h2a := eq_true (qa9 h2).1
  have h2b : (s13 < (n0 : Int)) = True := eq_true (by have hb : s13 < (o0.length : Int) := (qa9 h2).2.1; omega)
  have h2c := (qa9 h2).2.2
  have h3a := eq_true (qa9 h3).1
  have h3b : (s1 < (n0 : Int)) = True := eq_true (by have hb : s1 < (o0.length : Int) := (qa9 h3).2.1; omega)
  have h3c := (qa9 h3).2.2
  have h4k := fun h => (qv9 h4).o rfl rfl rfl (h := h) (args := [.ag [PI x10.Var, .d (.rd (x10.T.map intD))], .ag [PI x11.Var, .d (.rd (x11.T.map intD))]]) rfl
  try simp only [go_sem] at h4k
  rcases iteP hr with ⟨h5, hr⟩ | ⟨h5, hr⟩
  obtain rfl := oiA hr
  refine xe_of ⟨gt, rfl⟩ ?_
  rotate_left
  obtain rfl := oiA hr
  refine ⟨⟨gt, ?_⟩, (show o0.length = n0 by first | assumption | (simp only [llA, lrA]; first | done | assumption | omega) | omega)⟩
  rotate_left
  obtain rfl := oiA hr
  refine xe_of ⟨gt, rfl⟩ ?_
  rotate_left
  all_goals (simp +decide only [go_sem, qcR9, qmr9, *])
def qcQ9 (s1 : Int) (s2 : Int) (s3 : Int) (s13 : Int) (o0 : List Bind) (g1 : AHeap) (v0 : Nat) (n0 : Nat) (g2 : AHeap) : Int → AHeap → St := fun s12 gt => ⟨[(0, .ref g1.length v0 0 n0), (1, PI s1), (2, PI s2), (3, PI s3), (4, .fn 84 []), (10, PI 0), (11, PB false), (12, PI s12), (13, PI s13)], (g1 ++ (.row false v0 2 (rowP qc9 o0) :: (g2 ++ gt)))⟩
def qfB9 (s1 : Int) (s2 : Int) (s3 : Int) (s13 : Int) (o0 : List Bind) (g1 : AHeap) (v0 : Nat) (n0 : Nat) (g2 : AHeap) : Int → Prop := fun s12 => o0.length = n0
def qiE9 (s1 : Int) (s2 : Int) (s3 : Int) (s13 : Int) (o0 : List Bind) (g1 : AHeap) (v0 : Nat) (n0 : Nat) (g2 : AHeap) : Int → AExit × St → Prop := fun s12 q => ∃ g, q = (.exit 0, qcQ9 s1 s2 s3 s13 o0 g1 v0 n0 g2 s12 g)
set_option maxHeartbeats 60000000 in
theorem qiQ9 {s1 : Int} {s2 : Int} {s3 : Int} {s13 : Int} {o0 : List Bind} {g1 : AHeap} {v0 : Nat} {n0 : Nat} {g2 : AHeap} : SimI C 22997644815212700899627017342834150232570911 qmp9 (qfB9 s1 s2 s3 s13 o0 g1 v0 n0 g2) (qcd9 s1 s2 s3 s13 o0) (qcQ9 s1 s2 s3 s13 o0 g1 v0 n0 g2) (qiE9 s1 s2 s3 s13 o0 g1 v0 n0 g2) := by
  intro s g r hI hr
  have ⟨s12, hs0⟩ : ∃ y, y = s := ⟨_, rfl⟩
  subst hs0
  have ⟨gt, hg0⟩ : ∃ y, y = g := ⟨_, rfl⟩
  subst hg0
  simp only [qfB9] at hI
  have hI0 := hI
  simp only [qcd9] at hr
  rcases iteP hr with ⟨h1, hr⟩ | ⟨h1, hr⟩
  obtain ⟨x4, h2, x5, h3, x6, h4, hr⟩ := bs3 hr
  have h2a := eq_true (qa9 h2).1
  have h2b : (s12 < (n0 : Int)) = True := eq_true (by have hb : s12 < (o0.length : Int) := (qa9 h2).2.1; omega)
  have h2c := (qa9 h2).2.2
  have h3a := eq_true (qa9 h3).1
  have h3b : (s1 < (n0 : Int)) = True := eq_true (by have hb : s1 < (o0.length : Int) := (qa9 h3).2.1; omega)
  have h3c := (qa9 h3).2.2
  have h4k := fun h => (qv9 h4).o rfl rfl rfl (h := h) (args := [.ag [PI x4.Var, .d (.rd (x4.T.map intD))], .ag [PI x5.Var, .d (.rd (x5.T.map intD))]]) rfl
  try simp only [go_sem] at h4k
  rcases iteP hr with ⟨h5, hr⟩ | ⟨h5, hr⟩
  obtain rfl := oiA hr
  refine ⟨⟨gt, ?_⟩, (show o0.length = n0 by first | assumption | (simp only [llA, lrA]; first | done | assumption | omega) | omega)⟩
  rotate_left
  obtain rfl := oiA hr
  refine xe_of ⟨gt, rfl⟩ ?_
  rotate_left
  obtain rfl := oiA hr
  refine xe_of ⟨gt, rfl⟩ ?_
  rotate_left
  all_goals (simp +decide only [go_sem, qcQ9, qmp9, *])
set_option maxHeartbeats 60000000 in
theorem qy9 {s1 : Int} {s2 : Int} {s3 : Int} {o0 : List Bind} {g1 : AHeap} {v0 : Nat} {n0 : Nat} {g2 : AHeap} (hln0 : o0.length = n0) {r : Int × Bool × (List Bind)} (hr : qp9 s1 s2 s3 o0 = some r) : ∃ hz : AHeap, Lim C 129 [.ref g1.length v0 0 n0, PI s1, PI s2, PI s3, .fn 84 []] (g1 ++ (.row false v0 2 (rowP qc9 o0) :: g2)) = some (resOf [PI r.1, PB r.2.1], (g1 ++ (.row false v0 2 (rowP qc9 r.2.2) :: (g2 ++ hz)))) ∧ r.2.2.length = n0 := by
  simp only [qp9] at hr
  obtain ⟨x1, h1, x2, h2, x3, h3, hr⟩ := bs3 hr
  have h1a := eq_true (qa9 h1).1
  have h1b : (s3 < (n0 : Int)) = True := eq_true (by have hb : s3 < (o0.length : Int) := (qa9 h1).2.1; omega)
  have h1c := (qa9 h1).2.2
  have h2a := eq_true (qa9 h2).1
  have h2b : (s1 < (n0 : Int)) = True := eq_true (by have hb : s1 < (o0.length : Int) := (qa9 h2).2.1; omega)
  have h2c := (qa9 h2).2.2
  have h3a := eq_true (qa9 h3).1
  have h3b : (s3 < (n0 : Int)) = True := eq_true (by have hb : s3 < ((o0.set (s1).toNat x1).length : Int) := (qa9 h3).2.1; simp only [llA, lrA] at hb; omega)
  have h3c := (qa9 h3).2.2
  obtain ⟨x7, h4, hr⟩ := bsome hr
  obtain ⟨q4, h4L, h4X⟩ := (qiQ9 (g1 := g1) (v0 := v0) (n0 := n0) (g2 := g2)).L (g := []) h4 (show ((o0.set (s1).toNat x1).set (s3).toNat x2).length = n0 by first | assumption | (simp only [llA, lrA]; first | done | assumption | omega) | omega)
  have ⟨x8, hq4⟩ : ∃ y, y = x7 := ⟨_, rfl⟩
  subst hq4
  try dsimp only at hr
  obtain ⟨z9, rfl⟩ := h4X
  simp only [qcQ9, go_sem] at h4L
  try simp only [hln0] at h4L
  obtain ⟨x13, h5, hr⟩ := bsome hr
  obtain ⟨q5, h5L, h5X⟩ := (qiH9 (g1 := g1) (v0 := v0) (n0 := n0) (g2 := (g2 ++ z9))).L (g := []) h5 (show ((o0.set (s1).toNat x1).set (s3).toNat x2).length = n0 by first | assumption | (simp only [llA, lrA]; first | done | assumption | omega) | omega)
  have ⟨x14, hq5⟩ : ∃ y, y = x13 := ⟨_, rfl⟩
  subst hq5
  try dsimp only at hr
  obtain ⟨z15, rfl⟩ := h5X
  simp only [qcR9, go_sem] at h5L
  try simp only [hln0] at h5L
  rcases iteP hr with ⟨h6, hr⟩ | ⟨h6, hr⟩
  obtain ⟨x16, h7, x17, h8, x18, h9, hr⟩ := bs3 hr
  have h7a := eq_true (qa9 h7).1
  have h7b : (s1 < (n0 : Int)) = True := eq_true (by have hb : s1 < (((o0.set (s1).toNat x1).set (s3).toNat x2).length : Int) := (qa9 h7).2.1; simp only [llA, lrA] at hb; omega)
  have h7c := (qa9 h7).2.2
  have h8a := eq_true (qa9 h8).1
  have h8b : (x14 < (n0 : Int)) = True := eq_true (by have hb : x14 < (((o0.set (s1).toNat x1).set (s3).toNat x2).length : Int) := (qa9 h8).2.1; simp only [llA, lrA] at hb; omega)
  have h8c := (qa9 h8).2.2
  have h9a := eq_true (qa9 h9).1
  have h9b : (s1 < (n0 : Int)) = True := eq_true (by have hb : s1 < ((((o0.set (s1).toNat x1).set (s3).toNat x2).set (x14).toNat x16).length : Int) := (qa9 h9).2.1; simp only [llA, lrA] at hb; omega)
  have h9c := (qa9 h9).2.2
  obtain rfl := oiA hr
  refine ⟨(z9 ++ z15), run_L is129 (nbA rfl) ?_, (show ((((o0.set (s1).toNat x1).set (s3).toNat x2).set (x14).toNat x16).set (s1).toNat x17).length = n0 by first | assumption | (simp only [llA, lrA]; first | done | assumption | omega) | omega)⟩
  rotate_left
  obtain ⟨x19, h10, x20, h11, x21, h12, hr⟩ := bs3 hr
  have h10a := eq_true (qa9 h10).1
  have h10b : (x14 < (n0 : Int)) = True := eq_true (by have hb : x14 < (((o0.set (s1).toNat x1).set (s3).toNat x2).length : Int) := (qa9 h10).2.1; simp only [llA, lrA] at hb; omega)
  have h10c := (qa9 h10).2.2
  have h11a := eq_true (qa9 h11).1
  have h11b : (x8 < (n0 : Int)) = True := eq_true (by have hb : x8 < (((o0.set (s1).toNat x1).set (s3).toNat x2).length : Int) := (qa9 h11).2.1; simp only [llA, lrA] at hb; omega)
  have h11c := (qa9 h11).2.2
  have h12a := eq_true (qa9 h12).1
  have h12b : (x14 < (n0 : Int)) = True := eq_true (by have hb : x14 < ((((o0.set (s1).toNat x1).set (s3).toNat x2).set (x8).toNat x19).length : Int) := (qa9 h12).2.1; simp only [llA, lrA] at hb; omega)
  have h12c := (qa9 h12).2.2
  obtain ⟨x37, h13, hr⟩ := bsome hr
  obtain ⟨q13, h13L, h13X⟩ := (qiP9 (g1 := g1) (v0 := v0) (n0 := n0) (g2 := (g2 ++ (z9 ++ z15)))).L (g := []) h13 (show ((((o0.set (s1).toNat x1).set (s3).toNat x2).set (x8).toNat x19).set (x14).toNat x20).length = n0 by first | assumption | (simp only [llA, lrA]; first | done | assumption | omega) | omega)
  obtain ⟨x38, x39, x40⟩ := x37
  try dsimp only at hr
  obtain ⟨z41, rfl, h13l0⟩ := h13X
  simp only [qcN9, go_sem] at h13L
  try simp only [hln0] at h13L
  obtain ⟨x42, h14, x43, h15, x44, h16, hr⟩ := bs3 hr
  have h14a := eq_true (qa9 h14).1
  have h14b : (s1 < (n0 : Int)) = True := eq_true (by have hb : s1 < (x40.length : Int) := (qa9 h14).2.1; omega)
  have h14c := (qa9 h14).2.2
  have h15a := eq_true (qa9 h15).1
  have h15b : (x39 < (n0 : Int)) = True := eq_true (by have hb : x39 < (x40.length : Int) := (qa9 h15).2.1; omega)
  have h15c := (qa9 h15).2.2
  have h16a := eq_true (qa9 h16).1
  have h16b : (s1 < (n0 : Int)) = True := eq_true (by have hb : s1 < ((x40.set (x39).toNat x42).length : Int) := (qa9 h16).2.1; simp only [llA, lrA] at hb; omega)
  have h16c := (qa9 h16).2.2
  obtain rfl := oiA hr
  refine ⟨(z9 ++ (z15 ++ z41)), run_L is129 (nbA rfl) ?_, (show ((x40.set (x39).toNat x42).set (s1).toNat x43).length = n0 by first | assumption | (simp only [llA, lrA]; first | done | assumption | omega) | omega)⟩
  rotate_left
  all_goals (simp +decide only [go_sem, c129, *])
def c137 : ACode := .seq (.reg [] [] [.K 2 (.mv (.const (.int .u64 0)))]) (.seq (.reg [] [] [.M 3 0, .T 4 (.wrap .u64 (.tmp 3)), .T 5 (.call 106 [.tmp 4]), .T 6 (.sh .shl (.const (.int .u64 1)) (.tmp 5)), .N 2 6]) (.ret))
theorem is137 : IsF C 137 7 5 c137 [.tmp 2] := ⟨⟨Tryd.f137, _, C_P ▸ Tryd.func137, rfl, rfl, rfl, by kernel_rfl, rfl⟩⟩
set_option maxHeartbeats 60000000 in
theorem qip9 {a0 : Int} {r : Int} (hr : qct9 a0 = some r) : Res C 137 [.v (.int .i64 a0)] (.d (.v (.int .u64 r))) := by
  simp only [qct9] at hr
  obtain ⟨x1, h1, x2, h2, hr⟩ := bs2 hr
  have h1k := fun h => qiy9 (h := h) h1
  try simp only [go_sem] at h1k
  obtain rfl := oiA hr
  refine run_V is137 (nbA rfl) ?_
  rotate_left
  all_goals (simp +decide only [go_sem, c137, *])
end Ld

import Derived.Test.YtfjgfcnhklopdaaDoorWKW3
set_option maxHeartbeats 4000000
set_option linter.unusedVariables false
set_option linter.unusedSimpArgs false
namespace Ld
open Go Go.Proofs Go.Abs
set_option maxRecDepth 8000
def qmG9 : ACode := .seq (.seq (.reg [] [] [.M 50 11, .M 51 12, .T 52 (.bin .leq (.tmp 50) (.tmp 51)), .M 53 52, .MG 54 53 true 4, .MG 55 53 true 0, .MG 56 53 true 1, ⟨some (57, false), .ix 2 (.tmp 55) (.tmp 56), some (53, true), true, false⟩, ⟨some (58, false), .load (some 2) (.tmp 57), some (53, true), true, false⟩, .MG 59 53 true 0, .MG 60 53 true 12, ⟨some (61, false), .ix 2 (.tmp 59) (.tmp 60), some (53, true), true, false⟩, ⟨some (62, false), .load (some 2) (.tmp 61), some (53, true), true, false⟩, ⟨some (63, false), .callV (.tmp 54) [.tmp 58, .tmp 62], some (53, true), true, false⟩, .TG 64 53 true (.bin .lss (.tmp 63) (cI 0)), .K 65 (.pick (.tmp 53) (.tmp 64) (.const (.bool false)))]) (.cond (.tmp 65) (some 65) (.skip) (.exit 4))) (.block 5 36893488147419103232 (.reg [] [] [.M 66 12, .T 67 (.bin .sub (.tmp 66) (cI 1)), .N 12 67]))
def qmx9 : ACode := .seq (.seq (.reg [] [] [.M 31 11, .M 32 12, .T 33 (.bin .leq (.tmp 31) (.tmp 32)), .M 34 33, .MG 35 34 true 4, .MG 36 34 true 0, .MG 37 34 true 1, ⟨some (38, false), .ix 2 (.tmp 36) (.tmp 37), some (34, true), true, false⟩, ⟨some (39, false), .load (some 2) (.tmp 38), some (34, true), true, false⟩, .MG 40 34 true 0, .MG 41 34 true 11, ⟨some (42, false), .ix 2 (.tmp 40) (.tmp 41), some (34, true), true, false⟩, ⟨some (43, false), .load (some 2) (.tmp 42), some (34, true), true, false⟩, ⟨some (44, false), .callV (.tmp 35) [.tmp 39, .tmp 43], some (34, true), true, false⟩, .TG 45 34 true (.bin .lss (.tmp 44) (cI 0)), .TG 46 34 true (.not (.tmp 45)), .K 47 (.pick (.tmp 34) (.tmp 46) (.const (.bool false)))]) (.cond (.tmp 47) (some 47) (.skip) (.exit 2))) (.block 3 140737488355328 (.reg [] [] [.M 48 11, .T 49 (.bin .add (.tmp 48) (cI 1)), .N 11 49]))
def qmi9 : ACode := .block 1 1217485249602318761984 (.seq (.block 2 140737488355328 (.loop qmx9)) (.seq (.block 4 36893628884907458560 (.loop qmG9)) (.seq (.seq (.reg [] [] [.M 68 11, .M 69 12, .K 70 (.bin .gtr (.tmp 68) (.tmp 69))]) (.cond (.tmp 70) (some 70) (.exit 0) (.skip))) (.seq (.reg [] [] [.M 71 0, .M 72 11, .M 73 0, .M 74 12, .M 75 0, .M 76 12, ⟨some (77, false), .ix 2 (.tmp 75) (.tmp 76), none, true, false⟩, ⟨some (78, false), .load (some 2) (.tmp 77), none, true, false⟩, .M 79 0, .M 80 11, ⟨some (81, false), .ix 2 (.tmp 79) (.tmp 80), none, true, false⟩, ⟨some (82, false), .load (some 2) (.tmp 81), none, true, false⟩, ⟨some (83, false), .ix 2 (.tmp 71) (.tmp 72), none, true, false⟩, ⟨none, .store 2 (.tmp 83) (.tmp 78), none, false, false⟩, ⟨some (84, false), .ix 2 (.tmp 73) (.tmp 74), none, true, false⟩, ⟨none, .store 2 (.tmp 84) (.tmp 82), none, false, false⟩]) (.seq (.reg [] [] [.M 85 11, .T 86 (.bin .add (.tmp 85) (cI 1)), .N 11 86]) (.reg [] [] [.M 87 12, .T 88 (.bin .sub (.tmp 87) (cI 1)), .N 12 88]))))))
def c128 : ACode := .seq (.reg [] [] [.K 10 (.mv (cI 0))]) (.seq (.reg [] [] [.M 13 0, .M 14 1, .M 15 0, .M 16 3, .M 17 0, .M 18 3, ⟨some (19, false), .ix 2 (.tmp 17) (.tmp 18), none, true, false⟩, ⟨some (20, false), .load (some 2) (.tmp 19), none, true, false⟩, .M 21 0, .M 22 1, ⟨some (23, false), .ix 2 (.tmp 21) (.tmp 22), none, true, false⟩, ⟨some (24, false), .load (some 2) (.tmp 23), none, true, false⟩, ⟨some (25, false), .ix 2 (.tmp 13) (.tmp 14), none, true, false⟩, ⟨none, .store 2 (.tmp 25) (.tmp 20), none, false, false⟩, ⟨some (26, false), .ix 2 (.tmp 15) (.tmp 16), none, true, false⟩, ⟨none, .store 2 (.tmp 26) (.tmp 24), none, false, false⟩]) (.seq (.reg [] [] [.M 27 1, .T 28 (.bin .add (.tmp 27) (cI 1)), .M 29 2, .T 30 (.bin .sub (.tmp 29) (cI 1)), .N 11 28, .N 12 30]) (.seq (.block 0 1217485249602318761984 (.loop qmi9)) (.seq (.reg [] [] [.M 89 11, .N 10 89]) (.ret)))))
theorem is128 : IsF C 128 90 1217485249602318769183 c128 [.tmp 10] := ⟨⟨Tryd.f128, _, C_P ▸ Tryd.func128, rfl, rfl, rfl, by kernel_rfl, rfl⟩⟩
def qbY9 (s1 : Int) (s2 : Int) (s3 : Int) (s11 : Int) (o0 : List Bind) (g1 : AHeap) (v0 : Nat) (n0 : Nat) (g2 : AHeap) : Int → AHeap → St := fun s12 gt => ⟨[(0, .ref g1.length v0 0 n0), (1, PI s1), (2, PI s2), (3, PI s3), (4, .fn 84 []), (10, PI 0), (11, PI s11), (12, PI s12)], (g1 ++ (.row false v0 2 (rowP qc9 o0) :: (g2 ++ gt)))⟩
def qeh9 (s1 : Int) (s2 : Int) (s3 : Int) (s11 : Int) (o0 : List Bind) (g1 : AHeap) (v0 : Nat) (n0 : Nat) (g2 : AHeap) : Int → Prop := fun s12 => o0.length = n0
def qhh9 (s1 : Int) (s2 : Int) (s3 : Int) (s11 : Int) (o0 : List Bind) (g1 : AHeap) (v0 : Nat) (n0 : Nat) (g2 : AHeap) : Int → AExit × St → Prop := fun s12 q => ∃ g, q = (.exit 4, qbY9 s1 s2 s3 s11 o0 g1 v0 n0 g2 s12 g)
set_option maxHeartbeats 60000000 in
theorem qhm9 {s1 : Int} {s2 : Int} {s3 : Int} {s11 : Int} {o0 : List Bind} {g1 : AHeap} {v0 : Nat} {n0 : Nat} {g2 : AHeap} : SimI C 1217485249602318769183 qmG9 (qeh9 s1 s2 s3 s11 o0 g1 v0 n0 g2) (qbB9 s1 s2 s3 s11 o0) (qbY9 s1 s2 s3 s11 o0 g1 v0 n0 g2) (qhh9 s1 s2 s3 s11 o0 g1 v0 n0 g2) := by
  intro s g r hI hr
  have ⟨s12, hs0⟩ : ∃ y, y = s := ⟨_, rfl⟩
  subst hs0
  have ⟨gt, hg0⟩ : ∃ y, y = g := ⟨_, rfl⟩
  subst hg0
  simp only [qeh9] at hI
  have hI0 := hI
  simp only [qbB9] at hr
  rcases iteP hr with ⟨h1, hr⟩ | ⟨h1, hr⟩
  obtain ⟨x10, h2, x11, h3, x12, h4, hr⟩ := bs3 hr
  have h2a := eq_true (qa9 h2).1
  have h2b : (s1 < (n0 : Int)) = True := eq_true (by have hb : s1 < (o0.length : Int) := (qa9 h2).2.1; omega)
  have h2c := (qa9 h2).2.2
  have h3a := eq_true (qa9 h3).1
  have h3b : (s12 < (n0 : Int)) = True := eq_true (by have hb : s12 < (o0.length : Int) := (qa9 h3).2.1; omega)
  have h3c := (qa9 h3).2.2
  have h4k := fun h => (qv9 h4).o rfl rfl rfl (h := h) (args := [.ag [PI x10.Var, .d (.rd (x10.T.map intD))], .ag [PI x11.Var, .d (.rd (x11.T.map intD))]]) rfl
  try simp only [go_sem] at h4k
  rcases iteP hr with ⟨h5, hr⟩ | ⟨h5, hr⟩
  obtain rfl := oiA hr
  refine ⟨⟨gt, ?_⟩, (show o0.length = n0 by first | assumption | (simp only [llA, lrA]; first | done | assumption | omega) | omega)⟩
  rotate_left
  obtain rfl := oiA hr
  refine xe_of ⟨gt, rfl⟩ ?_
  rotate_left
  obtain rfl := oiA hr
  refine xe_of ⟨gt, rfl⟩ ?_
  rotate_left
  all_goals (simp +decide only [go_sem, qbY9, qmG9, *])
def qcc9 (s1 : Int) (s2 : Int) (s3 : Int) (s12 : Int) (o0 : List Bind) (g1 : AHeap) (v0 : Nat) (n0 : Nat) (g2 : AHeap) : Int → AHeap → St := fun s11 gt => ⟨[(0, .ref g1.length v0 0 n0), (1, PI s1), (2, PI s2), (3, PI s3), (4, .fn 84 []), (10, PI 0), (11, PI s11), (12, PI s12)], (g1 ++ (.row false v0 2 (rowP qc9 o0) :: (g2 ++ gt)))⟩
def qei9 (s1 : Int) (s2 : Int) (s3 : Int) (s12 : Int) (o0 : List Bind) (g1 : AHeap) (v0 : Nat) (n0 : Nat) (g2 : AHeap) : Int → Prop := fun s11 => o0.length = n0
def qhe9 (s1 : Int) (s2 : Int) (s3 : Int) (s12 : Int) (o0 : List Bind) (g1 : AHeap) (v0 : Nat) (n0 : Nat) (g2 : AHeap) : Int → AExit × St → Prop := fun s11 q => ∃ g, q = (.exit 2, qcc9 s1 s2 s3 s12 o0 g1 v0 n0 g2 s11 g)
set_option maxHeartbeats 60000000 in
theorem qhv9 {s1 : Int} {s2 : Int} {s3 : Int} {s12 : Int} {o0 : List Bind} {g1 : AHeap} {v0 : Nat} {n0 : Nat} {g2 : AHeap} : SimI C 1217485249602318769183 qmx9 (qei9 s1 s2 s3 s12 o0 g1 v0 n0 g2) (qbA9 s1 s2 s3 s12 o0) (qcc9 s1 s2 s3 s12 o0 g1 v0 n0 g2) (qhe9 s1 s2 s3 s12 o0 g1 v0 n0 g2) := by
  intro s g r hI hr
  have ⟨s11, hs0⟩ : ∃ y, y = s := ⟨_, rfl⟩
  subst hs0
  have ⟨gt, hg0⟩ : ∃ y, y = g := ⟨_, rfl⟩
  subst hg0
  simp only [qei9] at hI
  have hI0 := hI
  simp only [qbA9] at hr
  rcases iteP hr with ⟨h1, hr⟩ | ⟨h1, hr⟩
  obtain ⟨x4, h2, x5, h3, x6, h4, hr⟩ := bs3 hr
  have h2a := eq_true (qa9 h2).1
  have h2b : (s1 < (n0 : Int)) = True := eq_true (by have hb : s1 < (o0.length : Int) := (qa9 h2).2.1; omega)
  have h2c := (qa9 h2).2.2
  have h3a := eq_true (qa9 h3).1
  have h3b : (s11 < (n0 : Int)) = True := eq_true (by have hb : s11 < (o0.length : Int) := (qa9 h3).2.1; omega)
  have h3c := (qa9 h3).2.2
  have h4k := fun h => (qv9 h4).o rfl rfl rfl (h := h) (args := [.ag [PI x4.Var, .d (.rd (x4.T.map intD))], .ag [PI x5.Var, .d (.rd (x5.T.map intD))]]) rfl
  try simp only [go_sem] at h4k
  rcases iteP hr with ⟨h5, hr⟩ | ⟨h5, hr⟩
  obtain rfl := oiA hr
  refine xe_of ⟨gt, rfl⟩ ?_
  rotate_left
  obtain rfl := oiA hr
  refine ⟨⟨gt, ?_⟩, (show o0.length = n0 by first | assumption | (simp only [llA, lrA]; first | done | assumption | omega) | omega)⟩
  rotate_left
  obtain rfl := oiA hr
  refine xe_of ⟨gt, rfl⟩ ?_
  rotate_left
  all_goals (simp +decide only [go_sem, qcc9, qmx9, *])
def qbX9 (s1 : Int) (s2 : Int) (s3 : Int) (g1 : AHeap) (v0 : Nat) (n0 : Nat) (g2 : AHeap) : Int × Int × (List Bind) → AHeap → St := fun (s11, s12, o0) gt => ⟨[(0, .ref g1.length v0 0 n0), (1, PI s1), (2, PI s2), (3, PI s3), (4, .fn 84 []), (10, PI 0), (11, PI s11), (12, PI s12)], (g1 ++ (.row false v0 2 (rowP qc9 o0) :: (g2 ++ gt)))⟩
def qej9 (s1 : Int) (s2 : Int) (s3 : Int) (g1 : AHeap) (v0 : Nat) (n0 : Nat) (g2 : AHeap) : Int × Int × (List Bind) → Prop := fun (s11, s12, o0) => o0.length = n0
def qho9 (s1 : Int) (s2 : Int) (s3 : Int) (g1 : AHeap) (v0 : Nat) (n0 : Nat) (g2 : AHeap) : (Int × Int × (List Bind)) → AExit × St → Prop := fun (s11, s12, o0) q => ∃ g, q = (.exit 0, qbX9 s1 s2 s3 g1 v0 n0 g2 (s11, s12, o0) g) ∧ o0.length = n0
set_option maxHeartbeats 60000000 in
theorem qhl9 {s1 : Int} {s2 : Int} {s3 : Int} {g1 : AHeap} {v0 : Nat} {n0 : Nat} {g2 : AHeap} : SimI C 1217485249602318769183 qmi9 (qej9 s1 s2 s3 g1 v0 n0 g2) (qN9 s1 s2 s3) (qbX9 s1 s2 s3 g1 v0 n0 g2) (qho9 s1 s2 s3 g1 v0 n0 g2) := by
  intro s g r hI hr
  obtain ⟨s11, s12, o0⟩ := s
  have ⟨gt, hg0⟩ : ∃ y, y = g := ⟨_, rfl⟩
  subst hg0
  simp only [qej9] at hI
  have hI0 := hI
  simp only [qN9] at hr
  obtain ⟨x7, h1, hr⟩ := bsome hr
  obtain ⟨q1, h1L, h1X⟩ := (qhv9 (g1 := g1) (v0 := v0) (n0 := n0) (g2 := (g2 ++ gt))).L (g := []) h1 (show o0.length = n0 by first | assumption | (simp only [llA, lrA]; first | done | assumption | omega) | omega)
  have ⟨x8, hq1⟩ : ∃ y, y = x7 := ⟨_, rfl⟩
  subst hq1
  try dsimp only at hr
  obtain ⟨z9, rfl⟩ := h1X
  simp only [qcc9, go_sem] at h1L
  try simp only [hI0] at h1L
  obtain ⟨x13, h2, hr⟩ := bsome hr
  obtain ⟨q2, h2L, h2X⟩ := (qhm9 (g1 := g1) (v0 := v0) (n0 := n0) (g2 := (g2 ++ (gt ++ z9)))).L (g := []) h2 (show o0.length = n0 by first | assumption | (simp only [llA, lrA]; first | done | assumption | omega) | omega)
  have ⟨x14, hq2⟩ : ∃ y, y = x13 := ⟨_, rfl⟩
  subst hq2
  try dsimp only at hr
  obtain ⟨z15, rfl⟩ := h2X
  simp only [qbY9, go_sem] at h2L
  try simp only [hI0] at h2L
  rcases iteP hr with ⟨h3, hr⟩ | ⟨h3, hr⟩
  obtain rfl := oiA hr
  refine xe_of ⟨(gt ++ (z9 ++ z15)), rfl, (show o0.length = n0 by first | assumption | (simp only [llA, lrA]; first | done | assumption | omega) | omega)⟩ ?_
  rotate_left
  obtain ⟨x16, h4, x17, h5, x18, h6, hr⟩ := bs3 hr
  have h4a := eq_true (qa9 h4).1
  have h4b : (x14 < (n0 : Int)) = True := eq_true (by have hb : x14 < (o0.length : Int) := (qa9 h4).2.1; omega)
  have h4c := (qa9 h4).2.2
  have h5a := eq_true (qa9 h5).1
  have h5b : (x8 < (n0 : Int)) = True := eq_true (by have hb : x8 < (o0.length : Int) := (qa9 h5).2.1; omega)
  have h5c := (qa9 h5).2.2
  have h6a := eq_true (qa9 h6).1
  have h6b : (x14 < (n0 : Int)) = True := eq_true (by have hb : x14 < ((o0.set (x8).toNat x16).length : Int) := (qa9 h6).2.1; simp only [llA, lrA] at hb; omega)
  have h6c := (qa9 h6).2.2
  obtain rfl := oiA hr
  refine ⟨⟨(gt ++ (z9 ++ z15)), ?_⟩, (show ((o0.set (x8).toNat x16).set (x14).toNat x17).length = n0 by first | assumption | (simp only [llA, lrA]; first | done | assumption | omega) | omega)⟩
  rotate_left
  all_goals (simp +decide only [go_sem, qbX9, qmi9, *])
set_option maxHeartbeats 60000000 in
theorem qU9 {s1 : Int} {s2 : Int} {s3 : Int} {o0 : List Bind} {g1 : AHeap} {v0 : Nat} {n0 : Nat} {g2 : AHeap} (hln0 : o0.length = n0) {r : Int × (List Bind)} (hr : qz9 s1 s2 s3 o0 = some r) : ∃ hz : AHeap, Lim C 128 [.ref g1.length v0 0 n0, PI s1, PI s2, PI s3, .fn 84 []] (g1 ++ (.row false v0 2 (rowP qc9 o0) :: g2)) = some (resOf [PI r.1], (g1 ++ (.row false v0 2 (rowP qc9 r.2) :: (g2 ++ hz)))) ∧ r.2.length = n0 := by
  simp only [qz9] at hr
  obtain ⟨x1, h1, x2, h2, x3, h3, hr⟩ := bs3 hr
  have h1a := eq_true (qa9 h1).1
  have h1b : (s3 < (n0 : Int)) = True := eq_true (by have hb : s3 < (o0.length : Int) := (qa9 h1).2.1; omega)
  have h1c := (qa9 h1).2.2
  have h2a := eq_true (qa9 h2).1
  have h2b : (s1 < (n0 : Int)) = True := eq_true (by have hb : s1 < (o0.length : Int) := (qa9 h2).2.1; omega)
  have h2c := (qa9 h2).2.2
  have h3a := eq_true (qa9 h3).1
  have h3b : (s3 < (n0 : Int)) = True := eq_true (by have hb : s3 < ((o0.set (s1).toNat x1).length : Int) := (qa9 h3).2.1; simp only [llA, lrA] at hb; omega)
  have h3c := (qa9 h3).2.2
  obtain ⟨x19, h4, hr⟩ := bsome hr
  obtain ⟨q4, h4L, h4X⟩ := (qhl9 (g1 := g1) (v0 := v0) (n0 := n0) (g2 := g2)).L (g := []) h4 (show ((o0.set (s1).toNat x1).set (s3).toNat x2).length = n0 by first | assumption | (simp only [llA, lrA]; first | done | assumption | omega) | omega)
  obtain ⟨x20, x21, x22⟩ := x19
  try dsimp only at hr
  obtain ⟨z23, rfl, h4l0⟩ := h4X
  simp only [qbX9, go_sem] at h4L
  try simp only [hln0] at h4L
  obtain rfl := oiA hr
  refine ⟨z23, run_L is128 (nbA rfl) ?_, (show x22.length = n0 by first | assumption | (simp only [llA, lrA]; first | done | assumption | omega) | omega)⟩
  rotate_left
  all_goals (simp +decide only [go_sem, c128, *])
def c138 : ACode := .seq (.reg [] [] [.K 2 (.mv (.const (.int .u64 0)))]) (.seq (.reg [] [] [.M 3 0, .T 4 (.nilC (.tmp 3)), ⟨some (5, false), .load none (.tmp 4), none, true, false⟩, .M 6 0, .T 7 (.nilC (.tmp 6)), ⟨some (8, false), .load none (.tmp 7), none, true, false⟩, .T 9 (.sh .shl (.tmp 8) (.const (.int .u64 13))), .T 10 (.binM .xor (.tmp 5) (.tmp 9)), .T 11 (.nilC (.tmp 3)), ⟨none, .store 1 (.tmp 11) (.tmp 10), none, false, false⟩]) (.seq (.reg [] [] [.M 12 0, .T 13 (.nilC (.tmp 12)), ⟨some (14, false), .load none (.tmp 13), none, true, false⟩, .M 15 0, .T 16 (.nilC (.tmp 15)), ⟨some (17, false), .load none (.tmp 16), none, true, false⟩, .T 18 (.sh .shr (.tmp 17) (.const (.int .u64 7))), .T 19 (.binM .xor (.tmp 14) (.tmp 18)), .T 20 (.nilC (.tmp 12)), ⟨none, .store 1 (.tmp 20) (.tmp 19), none, false, false⟩]) (.seq (.reg [] [] [.M 21 0, .T 22 (.nilC (.tmp 21)), ⟨some (23, false), .load none (.tmp 22), none, true, false⟩, .M 24 0, .T 25 (.nilC (.tmp 24)), ⟨some (26, false), .load none (.tmp 25), none, true, false⟩, .T 27 (.sh .shl (.tmp 26) (.const (.int .u64 17))), .T 28 (.binM .xor (.tmp 23) (.tmp 27)), .T 29 (.nilC (.tmp 21)), ⟨none, .store 1 (.tmp 29) (.tmp 28), none, false, false⟩]) (.seq (.reg [] [] [.M 30 0, .T 31 (.nilC (.tmp 30)), .T 32 (.load none (.tmp 31)), .N 2 32]) (.ret)))))
theorem is138 : IsF C 138 33 5 c138 [.tmp 2] := ⟨⟨Tryd.f138, _, C_P ▸ Tryd.func138, rfl, rfl, rfl, by kernel_rfl, rfl⟩⟩
set_option maxHeartbeats 60000000 in
theorem qiN9 {b0_0 : Int} {g1 : AHeap} {g2 : AHeap} {r : Int × Int} (hr : qcG9 b0_0 = some r) : Lim C 138 [.ptr g1.length 0 0 0] (g1 ++ (.row false 0 1 [[.d (.v (.int .u64 b0_0))]] :: g2)) = some (resOf [.d (.v (.int .u64 r.1))], (g1 ++ (.row false 0 1 [[.d (.v (.int .u64 r.2))]] :: g2))) := by
  simp only [qcG9] at hr
  obtain ⟨x1, h1, x2, h2, x3, h3, hr⟩ := bs3 hr
  obtain rfl := oiA hr
  refine run_L is138 (nbA rfl) ?_
  rotate_left
  all_goals (simp +decide only [go_sem, c138, *])
def qmO9 : ACode := .seq (.seq (.reg [] [] [.M 28 11, .M 29 1, .M 30 8, .T 31 (.binM .quo (.tmp 30) (cI 4)), .T 32 (.bin .mul (.tmp 31) (cI 2)), .T 33 (.bin .add (.tmp 29) (.tmp 32)), .T 34 (.bin .add (.tmp 33) (cI 1)), .K 35 (.bin .leq (.tmp 28) (.tmp 34))]) (.cond (.tmp 35) (some 35) (.skip) (.exit 0))) (.seq (.block 1 35218731831296 (.seq (.reg [] [] [.T 38 (.call 138 [.tmp 9]), .M 39 10, .T 40 (.bin .sub (.tmp 39) (.const (.int .u64 1))), .T 41 (.binM .and (.tmp 38) (.tmp 40)), .T 42 (.wrap .i64 (.tmp 41)), .N 12 42]) (.seq (.seq (.reg [] [] [.M 43 12, .M 44 8, .K 45 (.bin .geq (.tmp 43) (.tmp 44))]) (.cond (.tmp 45) (some 45) (.reg [] [] [.M 46 12, .M 47 8, .T 48 (.bin .sub (.tmp 46) (.tmp 47)), .N 12 48]) (.skip))) (.reg [] [] [.M 49 0, .M 50 11, .M 51 0, .M 52 1, .M 53 12, .T 54 (.bin .add (.tmp 52) (.tmp 53)), .M 55 0, .M 56 1, .M 57 12, .T 58 (.bin .add (.tmp 56) (.tmp 57)), ⟨some (59, false), .ix 2 (.tmp 55) (.tmp 58), none, true, false⟩, ⟨some (60, false), .load (some 2) (.tmp 59), none, true, false⟩, .M 61 0, .M 62 11, ⟨some (63, false), .ix 2 (.tmp 61) (.tmp 62), none, true, false⟩, ⟨some (64, false), .load (some 2) (.tmp 63), none, true, false⟩, ⟨some (65, false), .ix 2 (.tmp 49) (.tmp 50), none, true, false⟩, ⟨none, .store 2 (.tmp 65) (.tmp 60), none, false, false⟩, ⟨some (66, false), .ix 2 (.tmp 51) (.tmp 54), none, true, false⟩, ⟨none, .store 2 (.tmp 66) (.tmp 64), none, false, false⟩])))) (.reg [] [] [.M 36 11, .T 37 (.bin .add (.tmp 36) (cI 1)), .N 11 37]))
def c124 : ACode := .seq (.reg [] [] [.M 13 2, .M 14 1, .T 15 (.bin .sub (.tmp 13) (.tmp 14)), .N 8 15]) (.seq (.reg [] [] [.M 16 8, .K 17 (.bin .geq (.tmp 16) (cI 8))]) (.cond (.tmp 17) (some 17) (.seq (.reg [] [] [.M 18 8, .T 19 (.wrap .u64 (.tmp 18)), .K 9 (.alloc [.d (.v (.int .u64 0))] 1), ⟨none, .store 1 (.tmp 9) (.tmp 19), none, false, false⟩]) (.seq (.reg [] [] [.M 20 8, .T 21 (.call 137 [.tmp 20]), .N 10 21]) (.seq (.reg [] [] [.M 22 1, .M 23 8, .T 24 (.binM .quo (.tmp 23) (cI 4)), .T 25 (.bin .mul (.tmp 24) (cI 2)), .T 26 (.bin .add (.tmp 22) (.tmp 25)), .T 27 (.bin .sub (.tmp 26) (cI 1)), .N 11 27]) (.block 0 35218731831296 (.loop qmO9))))) (.skip)))
theorem is124 : IsF C 124 67 35218731966215 c124 [] := ⟨⟨Tryd.f124, _, C_P ▸ Tryd.func124, rfl, rfl, rfl, by kernel_rfl, rfl⟩⟩
def qcm9 (s1 : Int) (s2 : Int) (s8 : Int) (s10 : Int) (g1 : AHeap) (v0 : Nat) (n0 : Nat) (g2 : AHeap) : Int × (List Bind) × Int → AHeap → St := fun (s11, o0, b9_0) gt => ⟨[(0, .ref g1.length v0 0 n0), (1, PI s1), (2, PI s2), (8, PI s8), (9, .ptr (g1.length + g2.length + 1) 0 0 0), (10, .d (.v (.int .u64 s10))), (11, PI s11)], (g1 ++ (.row false v0 2 (rowP qc9 o0) :: (g2 ++ (.row false 0 1 [[.d (.v (.int .u64 b9_0))]] :: gt))))⟩
def qez9 (s1 : Int) (s2 : Int) (s8 : Int) (s10 : Int) (g1 : AHeap) (v0 : Nat) (n0 : Nat) (g2 : AHeap) : Int × (List Bind) × Int → Prop := fun (s11, o0, b9_0) => o0.length = n0
def qhz9 (s1 : Int) (s2 : Int) (s8 : Int) (s10 : Int) (g1 : AHeap) (v0 : Nat) (n0 : Nat) (g2 : AHeap) : (Int × (List Bind) × Int) → AExit × St → Prop := fun (s11, o0, b9_0) q => ∃ g, q = (.exit 0, qcm9 s1 s2 s8 s10 g1 v0 n0 g2 (s11, o0, b9_0) g) ∧ o0.length = n0
set_option maxHeartbeats 60000000 in
theorem qhC9 {s1 : Int} {s2 : Int} {s8 : Int} {s10 : Int} {g1 : AHeap} {v0 : Nat} {n0 : Nat} {g2 : AHeap} : SimI C 35218731966215 qmO9 (qez9 s1 s2 s8 s10 g1 v0 n0 g2) (qF9 s1 s2 s8 s10) (qcm9 s1 s2 s8 s10 g1 v0 n0 g2) (qhz9 s1 s2 s8 s10 g1 v0 n0 g2) := by
  intro s g r hI hr
  obtain ⟨s11, o0, b9_0⟩ := s
  have ⟨gt, hg0⟩ : ∃ y, y = g := ⟨_, rfl⟩
  subst hg0
  simp only [qez9] at hI
  have hI0 := hI
  simp only [qF9] at hr
  obtain ⟨x3, h1, hr⟩ := bsome hr
  rcases iteP hr with ⟨h2, hr⟩ | ⟨h2, hr⟩
  obtain ⟨x4, h3, hr⟩ := bsome hr
  have h3k := qh9 rfl rfl rfl (qiN9 (g1 := (g1 ++ (.row false v0 2 (rowP qc9 o0) :: g2))) (g2 := gt) h3)
  try simp only [go_sem] at h3k
  rcases iteP hr with ⟨h4, hr⟩ | ⟨h4, hr⟩
  obtain ⟨x5, h5, x6, h6, x7, h7, hr⟩ := bs3 hr
  have h5a := eq_true (qa9 h5).1
  have h5b : ((w64 (s1 + (w64 ((w64 (andV .u64 x4.1 (IntKind.u64.wrap (s10 - 1)))) - s8)))) < (n0 : Int)) = True := eq_true (by have hb : (w64 (s1 + (w64 ((w64 (andV .u64 x4.1 (IntKind.u64.wrap (s10 - 1)))) - s8)))) < (o0.length : Int) := (qa9 h5).2.1; omega)
  have h5c := (qa9 h5).2.2
  have h6a := eq_true (qa9 h6).1
  have h6b : (s11 < (n0 : Int)) = True := eq_true (by have hb : s11 < (o0.length : Int) := (qa9 h6).2.1; omega)
  have h6c := (qa9 h6).2.2
  have h7a := eq_true (qa9 h7).1
  have h7b : ((w64 (s1 + (w64 ((w64 (andV .u64 x4.1 (IntKind.u64.wrap (s10 - 1)))) - s8)))) < (n0 : Int)) = True := eq_true (by have hb : (w64 (s1 + (w64 ((w64 (andV .u64 x4.1 (IntKind.u64.wrap (s10 - 1)))) - s8)))) < ((o0.set (s11).toNat x5).length : Int) := (qa9 h7).2.1; simp only [llA, lrA] at hb; omega)
  have h7c := (qa9 h7).2.2
  obtain rfl := oiA hr
  refine ⟨⟨gt, ?_⟩, (show ((o0.set (s11).toNat x5).set (w64 (s1 + (w64 ((w64 (andV .u64 x4.1 (IntKind.u64.wrap (s10 - 1)))) - s8)))).toNat x6).length = n0 by first | assumption | (simp only [llA, lrA]; first | done | assumption | omega) | omega)⟩
  rotate_left
  obtain ⟨x8, h8, x9, h9, x10, h10, hr⟩ := bs3 hr
  have h8a := eq_true (qa9 h8).1
  have h8b : ((w64 (s1 + (w64 (andV .u64 x4.1 (IntKind.u64.wrap (s10 - 1)))))) < (n0 : Int)) = True := eq_true (by have hb : (w64 (s1 + (w64 (andV .u64 x4.1 (IntKind.u64.wrap (s10 - 1)))))) < (o0.length : Int) := (qa9 h8).2.1; omega)
  have h8c := (qa9 h8).2.2
  have h9a := eq_true (qa9 h9).1
  have h9b : (s11 < (n0 : Int)) = True := eq_true (by have hb : s11 < (o0.length : Int) := (qa9 h9).2.1; omega)
  have h9c := (qa9 h9).2.2
  have h10a := eq_true (qa9 h10).1
  have h10b : ((w64 (s1 + (w64 (andV .u64 x4.1 (IntKind.u64.wrap (s10 - 1)))))) < (n0 : Int)) = True := eq_true (by have hb : (w64 (s1 + (w64 (andV .u64 x4.1 (IntKind.u64.wrap (s10 - 1)))))) < ((o0.set (s11).toNat x8).length : Int) := (qa9 h10).2.1; simp only [llA, lrA] at hb; omega)
  have h10c := (qa9 h10).2.2
  obtain rfl := oiA hr
  refine ⟨⟨gt, ?_⟩, (show ((o0.set (s11).toNat x8).set (w64 (s1 + (w64 (andV .u64 x4.1 (IntKind.u64.wrap (s10 - 1)))))).toNat x9).length = n0 by first | assumption | (simp only [llA, lrA]; first | done | assumption | omega) | omega)⟩
  rotate_left
  obtain rfl := oiA hr
  refine xe_of ⟨gt, rfl, (show o0.length = n0 by first | assumption | (simp only [llA, lrA]; first | done | assumption | omega) | omega)⟩ ?_
  rotate_left
  all_goals (simp +decide only [go_sem, qcm9, qmO9, *])
set_option maxHeartbeats 60000000 in
theorem qhN9 {s1 : Int} {s2 : Int} {o0 : List Bind} {g1 : AHeap} {v0 : Nat} {n0 : Nat} {g2 : AHeap} (hln0 : o0.length = n0) {r : (List Bind)} (hr : qbV9 s1 s2 o0 = some r) : ∃ hz : AHeap, Lim C 124 [.ref g1.length v0 0 n0, PI s1, PI s2, .fn 84 []] (g1 ++ (.row false v0 2 (rowP qc9 o0) :: g2)) = some (resOf [], (g1 ++ (.row false v0 2 (rowP qc9 r) :: (g2 ++ hz)))) ∧ r.length = n0 := by
  simp only [qbV9] at hr
  rcases iteP hr with ⟨h1, hr⟩ | ⟨h1, hr⟩
  obtain ⟨x1, h2, x2, h3, hr⟩ := bs2 hr
  have h2k := (qip9 h2).k rfl rfl rfl
  try simp only [go_sem] at h2k
  obtain ⟨x11, h4, hr⟩ := bsome hr
  obtain ⟨q4, h4L, h4X⟩ := (qhC9 (g1 := g1) (v0 := v0) (n0 := n0) (g2 := g2)).L (g := []) h4 (show o0.length = n0 by first | assumption | (simp only [llA, lrA]; first | done | assumption | omega) | omega)
  obtain ⟨x12, x13, x14⟩ := x11
  try dsimp only at hr
  obtain ⟨z15, rfl, h4l0⟩ := h4X
  simp only [qcm9, go_sem] at h4L
  try simp only [hln0] at h4L
  obtain rfl := oiA hr
  refine ⟨(.row false 0 1 [[.d (.v (.int .u64 x14))]] :: z15), run_L is124 (nbA rfl) ?_, (show x13.length = n0 by first | assumption | (simp only [llA, lrA]; first | done | assumption | omega) | omega)⟩
  rotate_left
  obtain rfl := oiA hr
  refine ⟨[], run_L is124 (nbA rfl) ?_, (show o0.length = n0 by first | assumption | (simp only [llA, lrA]; first | done | assumption | omega) | omega)⟩
  rotate_left
  all_goals (simp +decide only [go_sem, c124, *])
def qnb9 : ACode := .block 1 42535296023574879666274036850519699456 (.seq (.reg [] [] [.M 21 2, .M 22 1, .T 23 (.bin .sub (.tmp 21) (.tmp 22)), .N 12 23]) (.seq (.seq (.reg [] [] [.M 24 12, .K 25 (.bin .leq (.tmp 24) (cI 12))]) (.cond (.tmp 25) (some 25) (.seq (.reg [] [] [.M 26 0, .M 27 1, .M 28 2, .M 29 4, .T 30 (.call 122 [.tmp 26, .tmp 27, .tmp 28, .tmp 29])]) (.ret)) (.skip))) (.seq (.seq (.reg [] [] [.M 31 3, .K 32 (.bin .eql (.tmp 31) (cI 0))]) (.cond (.tmp 32) (some 32) (.seq (.reg [] [] [.M 33 0, .M 34 1, .M 35 2, .M 36 4, .T 37 (.call 123 [.tmp 33, .tmp 34, .tmp 35, .tmp 36])]) (.ret)) (.skip))) (.seq (.seq (.reg [] [] [.M 38 10, .K 39 (.not (.tmp 38))]) (.cond (.tmp 39) (some 39) (.seq (.reg [] [] [.M 40 0, .M 41 1, .M 42 2, .M 43 4, .T 44 (.call 124 [.tmp 40, .tmp 41, .tmp 42, .tmp 43])]) (.reg [] [] [.M 45 3, .T 46 (.bin .sub (.tmp 45) (cI 1)), .N 3 46])) (.skip))) (.seq (.reg [] [] [.M 48 0, .M 49 1, .M 50 2, .M 51 4, .T 52 (.call 125 [.tmp 48, .tmp 49, .tmp 50, .tmp 51]), .M 47 52, .T 53 (.ext (.tmp 47) 0), .T 54 (.ext (.tmp 47) 1), .N 13 53, .N 14 54]) (.seq (.seq (.reg [] [] [.M 55 14, .K 56 (.bin .eql (.tmp 55) (cI 2))]) (.cond (.tmp 56) (some 56) (.seq (.reg [] [] [.M 57 0, .M 58 1, .M 59 2, .M 60 4, .T 61 (.call 126 [.tmp 57, .tmp 58, .tmp 59, .tmp 60])]) (.seq (.reg [] [] [.M 62 2, .T 63 (.bin .sub (.tmp 62) (cI 1)), .M 64 13, .M 65 1, .T 66 (.bin .sub (.tmp 64) (.tmp 65)), .T 67 (.bin .sub (.tmp 63) (.tmp 66)), .N 13 67]) (.reg [] [] [.K 14 (.mv (cI 1))]))) (.skip))) (.seq (.seq (.reg [] [] [.M 68 10, .M 69 68, .MG 70 69 true 11, .T 71 (.pick (.tmp 69) (.tmp 70) (.const (.bool false))), .M 72 71, .MG 73 72 true 14, .TG 74 72 true (.bin .eql (.tmp 73) (cI 1)), .K 75 (.pick (.tmp 72) (.tmp 74) (.const (.bool false)))]) (.cond (.tmp 75) (some 75) (.seq (.reg [] [] [.M 76 0, .M 77 1, .M 78 2, .M 79 4, .K 80 (.call 127 [.tmp 76, .tmp 77, .tmp 78, .tmp 79])]) (.cond (.tmp 80) (some 80) (.ret) (.skip))) (.skip))) (.seq (.seq (.reg [] [] [.M 81 1, .T 82 (.bin .gtr (.tmp 81) (cI 0)), .M 83 82, .MG 84 83 true 4, .MG 85 83 true 0, .MG 86 83 true 1, .TG 87 83 true (.bin .sub (.tmp 86) (cI 1)), ⟨some (88, false), .ix 2 (.tmp 85) (.tmp 87), some (83, true), true, false⟩, ⟨some (89, false), .load (some 2) (.tmp 88), some (83, true), true, false⟩, .MG 90 83 true 0, .MG 91 83 true 13, ⟨some (92, false), .ix 2 (.tmp 90) (.tmp 91), some (83, true), true, false⟩, ⟨some (93, false), .load (some 2) (.tmp 92), some (83, true), true, false⟩, ⟨some (94, false), .callV (.tmp 84) [.tmp 89, .tmp 93], some (83, true), true, false⟩, .TG 95 83 true (.bin .lss (.tmp 94) (cI 0)), .TG 96 83 true (.not (.tmp 95)), .K 97 (.pick (.tmp 83) (.tmp 96) (.const (.bool false)))]) (.cond (.tmp 97) (some 97) (.seq (.reg [] [] [.M 98 0, .M 99 1, .M 100 2, .M 101 13, .M 102 4, .T 103 (.call 128 [.tmp 98, .tmp 99, .tmp 100, .tmp 101, .tmp 102]), .N 15 103]) (.seq (.reg [] [] [.M 104 15, .N 1 104]) (.exit 1))) (.skip))) (.seq (.reg [] [] [.M 106 0, .M 107 1, .M 108 2, .M 109 13, .M 110 4, .T 111 (.call 129 [.tmp 106, .tmp 107, .tmp 108, .tmp 109, .tmp 110]), .M 105 111, .T 112 (.ext (.tmp 105) 0), .T 113 (.ext (.tmp 105) 1), .N 16 112, .N 17 113]) (.seq (.reg [] [] [.M 114 17, .N 11 114]) (.seq (.reg [] [] [.M 115 16, .M 116 1, .T 117 (.bin .sub (.tmp 115) (.tmp 116)), .M 118 2, .M 119 16, .T 120 (.bin .sub (.tmp 118) (.tmp 119)), .N 18 117, .N 19 120]) (.seq (.reg [] [] [.M 121 12, .T 122 (.binM .quo (.tmp 121) (cI 8)), .N 20 122]) (.seq (.reg [] [] [.M 123 18, .M 124 19, .K 125 (.bin .lss (.tmp 123) (.tmp 124))]) (.cond (.tmp 125) (some 125) (.seq (.reg [] [] [.M 126 18, .M 127 20, .T 128 (.bin .geq (.tmp 126) (.tmp 127)), .N 10 128]) (.seq (.reg [] [] [.M 129 0, .M 130 1, .M 131 16, .M 132 3, .M 133 4, .T 134 (.call 105 [.tmp 129, .tmp 130, .tmp 131, .tmp 132, .tmp 133])]) (.reg [] [] [.M 135 16, .T 136 (.bin .add (.tmp 135) (cI 1)), .N 1 136]))) (.seq (.reg [] [] [.M 137 19, .M 138 20, .T 139 (.bin .geq (.tmp 137) (.tmp 138)), .N 10 139]) (.seq (.reg [] [] [.M 140 0, .M 141 16, .T 142 (.bin .add (.tmp 141) (cI 1)), .M 143 2, .M 144 3, .M 145 4, .T 146 (.call 105 [.tmp 140, .tmp 142, .tmp 143, .tmp 144, .tmp 145])]) (.reg [] [] [.M 147 16, .N 2 147])))))))))))))))))
def c105 : ACode := .seq (.reg [] [] [.K 10 (.mv (.const (.bool true)))]) (.seq (.reg [] [] [.K 11 (.mv (.const (.bool true)))]) (.block 0 42535296023574879666274036850519699456 (.loop qnb9)))
theorem is105 : IsF C 105 148 42535296023574879666274036850519702559 c105 [] := ⟨⟨Tryd.f105, _, C_P ▸ Tryd.func105, rfl, rfl, rfl, by kernel_rfl, rfl⟩⟩
def qer9 (g1 : AHeap) (v0 : Nat) (n0 : Nat) (g2 : AHeap) : Int × Int × Int × Bool × Bool × (List Bind) → AHeap → St := fun (s1, s2, s3, s10, s11, o0) gt => ⟨[(0, .ref g1.length v0 0 n0), (1, PI s1), (2, PI s2), (3, PI s3), (4, .fn 84 []), (10, PB s10), (11, PB s11)], (g1 ++ (.row false v0 2 (rowP qc9 o0) :: (g2 ++ gt)))⟩
def qgD9 (g1 : AHeap) (v0 : Nat) (n0 : Nat) (g2 : AHeap) : Int × Int × Int × Bool × Bool × (List Bind) → Prop := fun (s1, s2, s3, s10, s11, o0) => o0.length = n0
def qjE9 (g1 : AHeap) (v0 : Nat) (n0 : Nat) (g2 : AHeap) : ((List Bind)) → AExit × St → Prop := fun r q => XL C [] (fun vs hp => ∃ hz : AHeap, vs = [] ∧ hp = (g1 ++ (.row false v0 2 (rowP qc9 r) :: (g2 ++ hz))) ∧ r.length = n0) q
set_option maxHeartbeats 60000000 in
theorem qjo9 {rec : Int × Int × Int × (List Bind) → Option ((List Bind))} (hrec : ∀ {s1 : Int} {s2 : Int} {s3 : Int} {o0 : List Bind} {g1 : AHeap} {v0 : Nat} {n0 : Nat} {g2 : AHeap} (hln0 : o0.length = n0) {r : (List Bind)} (_ : rec (s1, s2, s3, o0) = some r), ∃ hz : AHeap, callP C (Lim C) 105 [.ref g1.length v0 0 n0, PI s1, PI s2, PI s3, .fn 84 []] (g1 ++ (.row false v0 2 (rowP qc9 o0) :: g2)) = some (resOf [], (g1 ++ (.row false v0 2 (rowP qc9 r) :: (g2 ++ hz)))) ∧ r.length = n0) {g1 : AHeap} {v0 : Nat} {n0 : Nat} {g2 : AHeap} : SimI C 42535296023574879666274036850519702559 qnb9 (qgD9 g1 v0 n0 g2) (qn9 rec) (qer9 g1 v0 n0 g2) (qjE9 g1 v0 n0 g2) := by
  intro s g r hI hr
  obtain ⟨s1, s2, s3, s10, s11, o0⟩ := s
  have ⟨gt, hg0⟩ : ∃ y, y = g := ⟨_, rfl⟩
  subst hg0
  simp only [qgD9] at hI
  have hI0 := hI
  simp only [qn9] at hr
  rcases iteP hr with ⟨h1, hr⟩ | ⟨h1, hr⟩
  obtain ⟨x1, h2, hr⟩ := bsome hr
  obtain ⟨z2, h2k, h2l0⟩ := qhJ9 (g1 := g1) (v0 := v0) (n0 := n0) (g2 := (g2 ++ gt)) (show o0.length = n0 by first | assumption | (simp only [llA, lrA]; first | done | assumption | omega) | omega) h2
  replace h2k := qh9 rfl rfl rfl h2k
  try simp only [go_sem] at h2k
  obtain rfl := oiA hr
  refine xl_of ⟨(gt ++ z2), rfl, rfl, (show x1.length = n0 by first | assumption | (simp only [llA, lrA]; first | done | assumption | omega) | omega)⟩ ?_
  rotate_left
  rcases iteP hr with ⟨h3, hr⟩ | ⟨h3, hr⟩
  obtain ⟨x3, h4, hr⟩ := bsome hr
  obtain ⟨z4, h4k, h4l0⟩ := qjm9 (g1 := g1) (v0 := v0) (n0 := n0) (g2 := (g2 ++ gt)) (show o0.length = n0 by first | assumption | (simp only [llA, lrA]; first | done | assumption | omega) | omega) h4
  replace h4k := qh9 rfl rfl rfl h4k
  try simp only [go_sem] at h4k
  obtain rfl := oiA hr
  refine xl_of ⟨(gt ++ z4), rfl, rfl, (show x3.length = n0 by first | assumption | (simp only [llA, lrA]; first | done | assumption | omega) | omega)⟩ ?_
  rotate_left
  rcases iteB hr with ⟨h5, hr⟩ | ⟨h5, hr⟩
  simp only [h5] at hr
  obtain ⟨x5, h6, hr⟩ := bsome hr
  obtain ⟨z6, h6k⟩ := qfj9 (g1 := g1) (v0 := v0) (n0 := n0) (g2 := (g2 ++ gt)) (show o0.length = n0 by first | assumption | (simp only [llA, lrA]; first | done | assumption | omega) | omega) h6
  replace h6k := qh9 rfl rfl rfl h6k
  try simp only [go_sem] at h6k
  rcases iteP hr with ⟨h7, hr⟩ | ⟨h7, hr⟩
  obtain ⟨x7, h8, hr⟩ := bsome hr
  obtain ⟨h8k, h8l0⟩ := qfa9 (g1 := g1) (v0 := v0) (n0 := n0) (g2 := (g2 ++ (gt ++ z6))) (show o0.length = n0 by first | assumption | (simp only [llA, lrA]; first | done | assumption | omega) | omega) h8
  replace h8k := qh9 rfl rfl rfl h8k
  try simp only [go_sem] at h8k
  rcases iteB hr with ⟨h9, hr⟩ | ⟨h9, hr⟩
  simp only [h9] at hr
  obtain ⟨x8, h10, hr⟩ := bsome hr
  obtain ⟨z9, h10k, h10l0⟩ := qdJ9 (g1 := g1) (v0 := v0) (n0 := n0) (g2 := (g2 ++ (gt ++ z6))) (show x7.length = n0 by first | assumption | (simp only [llA, lrA]; first | done | assumption | omega) | omega) h10
  replace h10k := qh9 rfl rfl rfl h10k
  try simp only [go_sem] at h10k
  rcases iteB hr with ⟨h11, hr⟩ | ⟨h11, hr⟩
  obtain rfl := oiA hr
  refine xl_of ⟨(gt ++ (z6 ++ z9)), rfl, rfl, (show x8.2.length = n0 by first | assumption | (simp only [llA, lrA]; first | done | assumption | omega) | omega)⟩ ?_
  rotate_left
  rcases iteP hr with ⟨h12, hr⟩ | ⟨h12, hr⟩
  obtain ⟨x10, h13, x11, h14, x12, h15, hr⟩ := bs3 hr
  have h13a := eq_true (qa9 h13).1
  have h13b : ((w64 (s1 - 1)) < (n0 : Int)) = True := eq_true (by have hb : (w64 (s1 - 1)) < (x8.2.length : Int) := (qa9 h13).2.1; omega)
  have h13c := (qa9 h13).2.2
  have h14a := eq_true (qa9 h14).1
  have h14b : ((w64 ((w64 (s2 - 1)) - (w64 (x5.1 - s1)))) < (n0 : Int)) = True := eq_true (by have hb : (w64 ((w64 (s2 - 1)) - (w64 (x5.1 - s1)))) < (x8.2.length : Int) := (qa9 h14).2.1; omega)
  have h14c := (qa9 h14).2.2
  have h15k := fun h => (qv9 h15).o rfl rfl rfl (h := h) (args := [.ag [PI x10.Var, .d (.rd (x10.T.map intD))], .ag [PI x11.Var, .d (.rd (x11.T.map intD))]]) rfl
  try simp only [go_sem] at h15k
  rcases iteP hr with ⟨h16, hr⟩ | ⟨h16, hr⟩
  obtain ⟨x13, h17, x15, h18, hr⟩ := bs2 hr
  obtain ⟨z14, h17k, h17l0⟩ := qy9 (g1 := g1) (v0 := v0) (n0 := n0) (g2 := (g2 ++ (gt ++ (z6 ++ z9)))) (show x8.2.length = n0 by first | assumption | (simp only [llA, lrA]; first | done | assumption | omega) | omega) h17
  replace h17k := qh9 rfl rfl rfl h17k
  try simp only [go_sem] at h17k
  rcases iteP hr with ⟨h19, hr⟩ | ⟨h19, hr⟩
  obtain ⟨x16, h20, hr⟩ := bsome hr
  obtain ⟨z17, h20k, h20l0⟩ := hrec (g1 := g1) (v0 := v0) (n0 := n0) (g2 := (g2 ++ (gt ++ (z6 ++ (z9 ++ z14))))) (show x13.2.2.length = n0 by first | assumption | (simp only [llA, lrA]; first | done | assumption | omega) | omega) h20
  try simp only [go_sem] at h20k
  obtain rfl := oiA hr
  refine ⟨⟨(gt ++ (z6 ++ (z9 ++ (z14 ++ z17)))), ?_⟩, (show x16.length = n0 by first | assumption | (simp only [llA, lrA]; first | done | assumption | omega) | omega)⟩
  rotate_left
  obtain ⟨x18, h21, hr⟩ := bsome hr
  obtain ⟨z19, h21k, h21l0⟩ := hrec (g1 := g1) (v0 := v0) (n0 := n0) (g2 := (g2 ++ (gt ++ (z6 ++ (z9 ++ z14))))) (show x13.2.2.length = n0 by first | assumption | (simp only [llA, lrA]; first | done | assumption | omega) | omega) h21
  try simp only [go_sem] at h21k
  obtain rfl := oiA hr
  refine ⟨⟨(gt ++ (z6 ++ (z9 ++ (z14 ++ z19)))), ?_⟩, (show x18.length = n0 by first | assumption | (simp only [llA, lrA]; first | done | assumption | omega) | omega)⟩
  rotate_left
  obtain ⟨x20, h22, hr⟩ := bsome hr
  obtain ⟨z21, h22k, h22l0⟩ := qU9 (g1 := g1) (v0 := v0) (n0 := n0) (g2 := (g2 ++ (gt ++ (z6 ++ z9)))) (show x8.2.length = n0 by first | assumption | (simp only [llA, lrA]; first | done | assumption | omega) | omega) h22
  replace h22k := qh9 rfl rfl rfl h22k
  try simp only [go_sem] at h22k
  obtain rfl := oiA hr
  refine ⟨⟨(gt ++ (z6 ++ (z9 ++ z21))), ?_⟩, (show x20.2.length = n0 by first | assumption | (simp only [llA, lrA]; first | done | assumption | omega) | omega)⟩
  rotate_left
  obtain ⟨x22, h23, x24, h24, hr⟩ := bs2 hr
  obtain ⟨z23, h23k, h23l0⟩ := qy9 (g1 := g1) (v0 := v0) (n0 := n0) (g2 := (g2 ++ (gt ++ (z6 ++ z9)))) (show x8.2.length = n0 by first | assumption | (simp only [llA, lrA]; first | done | assumption | omega) | omega) h23
  replace h23k := qh9 rfl rfl rfl h23k
  try simp only [go_sem] at h23k
  rcases iteP hr with ⟨h25, hr⟩ | ⟨h25, hr⟩
  obtain ⟨x25, h26, hr⟩ := bsome hr
  obtain ⟨z26, h26k, h26l0⟩ := hrec (g1 := g1) (v0 := v0) (n0 := n0) (g2 := (g2 ++ (gt ++ (z6 ++ (z9 ++ z23))))) (show x22.2.2.length = n0 by first | assumption | (simp only [llA, lrA]; first | done | assumption | omega) | omega) h26
  try simp only [go_sem] at h26k
  obtain rfl := oiA hr
  refine ⟨⟨(gt ++ (z6 ++ (z9 ++ (z23 ++ z26)))), ?_⟩, (show x25.length = n0 by first | assumption | (simp only [llA, lrA]; first | done | assumption | omega) | omega)⟩
  rotate_left
  obtain ⟨x27, h27, hr⟩ := bsome hr
  obtain ⟨z28, h27k, h27l0⟩ := hrec (g1 := g1) (v0 := v0) (n0 := n0) (g2 := (g2 ++ (gt ++ (z6 ++ (z9 ++ z23))))) (show x22.2.2.length = n0 by first | assumption | (simp only [llA, lrA]; first | done | assumption | omega) | omega) h27
  try simp only [go_sem] at h27k
  obtain rfl := oiA hr
  refine ⟨⟨(gt ++ (z6 ++ (z9 ++ (z23 ++ z28)))), ?_⟩, (show x27.length = n0 by first | assumption | (simp only [llA, lrA]; first | done | assumption | omega) | omega)⟩
  rotate_left
  simp only [h9] at hr
  rcases iteP hr with ⟨h28, hr⟩ | ⟨h28, hr⟩
  obtain ⟨x29, h29, x30, h30, x31, h31, hr⟩ := bs3 hr
  have h29a := eq_true (qa9 h29).1
  have h29b : ((w64 (s1 - 1)) < (n0 : Int)) = True := eq_true (by have hb : (w64 (s1 - 1)) < (x7.length : Int) := (qa9 h29).2.1; omega)
  have h29c := (qa9 h29).2.2
  have h30a := eq_true (qa9 h30).1
  have h30b : ((w64 ((w64 (s2 - 1)) - (w64 (x5.1 - s1)))) < (n0 : Int)) = True := eq_true (by have hb : (w64 ((w64 (s2 - 1)) - (w64 (x5.1 - s1)))) < (x7.length : Int) := (qa9 h30).2.1; omega)
  have h30c := (qa9 h30).2.2
  have h31k := fun h => (qv9 h31).o rfl rfl rfl (h := h) (args := [.ag [PI x29.Var, .d (.rd (x29.T.map intD))], .ag [PI x30.Var, .d (.rd (x30.T.map intD))]]) rfl
  try simp only [go_sem] at h31k
  rcases iteP hr with ⟨h32, hr⟩ | ⟨h32, hr⟩
  obtain ⟨x32, h33, x34, h34, hr⟩ := bs2 hr
  obtain ⟨z33, h33k, h33l0⟩ := qy9 (g1 := g1) (v0 := v0) (n0 := n0) (g2 := (g2 ++ (gt ++ z6))) (show x7.length = n0 by first | assumption | (simp only [llA, lrA]; first | done | assumption | omega) | omega) h33
  replace h33k := qh9 rfl rfl rfl h33k
  try simp only [go_sem] at h33k
  rcases iteP hr with ⟨h35, hr⟩ | ⟨h35, hr⟩
  obtain ⟨x35, h36, hr⟩ := bsome hr
  obtain ⟨z36, h36k, h36l0⟩ := hrec (g1 := g1) (v0 := v0) (n0 := n0) (g2 := (g2 ++ (gt ++ (z6 ++ z33)))) (show x32.2.2.length = n0 by first | assumption | (simp only [llA, lrA]; first | done | assumption | omega) | omega) h36
  try simp only [go_sem] at h36k
  obtain rfl := oiA hr
  refine ⟨⟨(gt ++ (z6 ++ (z33 ++ z36))), ?_⟩, (show x35.length = n0 by first | assumption | (simp only [llA, lrA]; first | done | assumption | omega) | omega)⟩
  rotate_left
  obtain ⟨x37, h37, hr⟩ := bsome hr
  obtain ⟨z38, h37k, h37l0⟩ := hrec (g1 := g1) (v0 := v0) (n0 := n0) (g2 := (g2 ++ (gt ++ (z6 ++ z33)))) (show x32.2.2.length = n0 by first | assumption | (simp only [llA, lrA]; first | done | assumption | omega) | omega) h37
  try simp only [go_sem] at h37k
  obtain rfl := oiA hr
  refine ⟨⟨(gt ++ (z6 ++ (z33 ++ z38))), ?_⟩, (show x37.length = n0 by first | assumption | (simp only [llA, lrA]; first | done | assumption | omega) | omega)⟩
  rotate_left
  obtain ⟨x39, h38, hr⟩ := bsome hr
  obtain ⟨z40, h38k, h38l0⟩ := qU9 (g1 := g1) (v0 := v0) (n0 := n0) (g2 := (g2 ++ (gt ++ z6))) (show x7.length = n0 by first | assumption | (simp only [llA, lrA]; first | done | assumption | omega) | omega) h38
  replace h38k := qh9 rfl rfl rfl h38k
  try simp only [go_sem] at h38k
  obtain rfl := oiA hr
  refine ⟨⟨(gt ++ (z6 ++ z40)), ?_⟩, (show x39.2.length = n0 by first | assumption | (simp only [llA, lrA]; first | done | assumption | omega) | omega)⟩
  rotate_left
  obtain ⟨x41, h39, x43, h40, hr⟩ := bs2 hr
  obtain ⟨z42, h39k, h39l0⟩ := qy9 (g1 := g1) (v0 := v0) (n0 := n0) (g2 := (g2 ++ (gt ++ z6))) (show x7.length = n0 by first | assumption | (simp only [llA, lrA]; first | done | assumption | omega) | omega) h39
  replace h39k := qh9 rfl rfl rfl h39k
  try simp only [go_sem] at h39k
  rcases iteP hr with ⟨h41, hr⟩ | ⟨h41, hr⟩
  obtain ⟨x44, h42, hr⟩ := bsome hr
  obtain ⟨z45, h42k, h42l0⟩ := hrec (g1 := g1) (v0 := v0) (n0 := n0) (g2 := (g2 ++ (gt ++ (z6 ++ z42)))) (show x41.2.2.length = n0 by first | assumption | (simp only [llA, lrA]; first | done | assumption | omega) | omega) h42
  try simp only [go_sem] at h42k
  obtain rfl := oiA hr
  refine ⟨⟨(gt ++ (z6 ++ (z42 ++ z45))), ?_⟩, (show x44.length = n0 by first | assumption | (simp only [llA, lrA]; first | done | assumption | omega) | omega)⟩
  rotate_left
  obtain ⟨x46, h43, hr⟩ := bsome hr
  obtain ⟨z47, h43k, h43l0⟩ := hrec (g1 := g1) (v0 := v0) (n0 := n0) (g2 := (g2 ++ (gt ++ (z6 ++ z42)))) (show x41.2.2.length = n0 by first | assumption | (simp only [llA, lrA]; first | done | assumption | omega) | omega) h43
  try simp only [go_sem] at h43k
  obtain rfl := oiA hr
  refine ⟨⟨(gt ++ (z6 ++ (z42 ++ z47))), ?_⟩, (show x46.length = n0 by first | assumption | (simp only [llA, lrA]; first | done | assumption | omega) | omega)⟩
  rotate_left
  rcases iteB hr with ⟨h44, hr⟩ | ⟨h44, hr⟩
  simp only [h44] at hr
  rcases iteP hr with ⟨h45, hr⟩ | ⟨h45, hr⟩
  obtain ⟨x48, h46, hr⟩ := bsome hr
  obtain ⟨z49, h46k, h46l0⟩ := qdJ9 (g1 := g1) (v0 := v0) (n0 := n0) (g2 := (g2 ++ (gt ++ z6))) (show o0.length = n0 by first | assumption | (simp only [llA, lrA]; first | done | assumption | omega) | omega) h46
  replace h46k := qh9 rfl rfl rfl h46k
  try simp only [go_sem] at h46k
  rcases iteB hr with ⟨h47, hr⟩ | ⟨h47, hr⟩
  obtain rfl := oiA hr
  refine xl_of ⟨(gt ++ (z6 ++ z49)), rfl, rfl, (show x48.2.length = n0 by first | assumption | (simp only [llA, lrA]; first | done | assumption | omega) | omega)⟩ ?_
  rotate_left
  rcases iteP hr with ⟨h48, hr⟩ | ⟨h48, hr⟩
  obtain ⟨x50, h49, x51, h50, x52, h51, hr⟩ := bs3 hr
  have h49a := eq_true (qa9 h49).1
  have h49b : ((w64 (s1 - 1)) < (n0 : Int)) = True := eq_true (by have hb : (w64 (s1 - 1)) < (x48.2.length : Int) := (qa9 h49).2.1; omega)
  have h49c := (qa9 h49).2.2
  have h50a := eq_true (qa9 h50).1
  have h50b : (x5.1 < (n0 : Int)) = True := eq_true (by have hb : x5.1 < (x48.2.length : Int) := (qa9 h50).2.1; omega)
  have h50c := (qa9 h50).2.2
  have h51k := fun h => (qv9 h51).o rfl rfl rfl (h := h) (args := [.ag [PI x50.Var, .d (.rd (x50.T.map intD))], .ag [PI x51.Var, .d (.rd (x51.T.map intD))]]) rfl
  try simp only [go_sem] at h51k
  rcases iteP hr with ⟨h52, hr⟩ | ⟨h52, hr⟩
  obtain ⟨x53, h53, x55, h54, hr⟩ := bs2 hr
  obtain ⟨z54, h53k, h53l0⟩ := qy9 (g1 := g1) (v0 := v0) (n0 := n0) (g2 := (g2 ++ (gt ++ (z6 ++ z49)))) (show x48.2.length = n0 by first | assumption | (simp only [llA, lrA]; first | done | assumption | omega) | omega) h53
  replace h53k := qh9 rfl rfl rfl h53k
  try simp only [go_sem] at h53k
  rcases iteP hr with ⟨h55, hr⟩ | ⟨h55, hr⟩
  obtain ⟨x56, h56, hr⟩ := bsome hr
  obtain ⟨z57, h56k, h56l0⟩ := hrec (g1 := g1) (v0 := v0) (n0 := n0) (g2 := (g2 ++ (gt ++ (z6 ++ (z49 ++ z54))))) (show x53.2.2.length = n0 by first | assumption | (simp only [llA, lrA]; first | done | assumption | omega) | omega) h56
  try simp only [go_sem] at h56k
  obtain rfl := oiA hr
  refine ⟨⟨(gt ++ (z6 ++ (z49 ++ (z54 ++ z57)))), ?_⟩, (show x56.length = n0 by first | assumption | (simp only [llA, lrA]; first | done | assumption | omega) | omega)⟩
  rotate_left
  obtain ⟨x58, h57, hr⟩ := bsome hr
  obtain ⟨z59, h57k, h57l0⟩ := hrec (g1 := g1) (v0 := v0) (n0 := n0) (g2 := (g2 ++ (gt ++ (z6 ++ (z49 ++ z54))))) (show x53.2.2.length = n0 by first | assumption | (simp only [llA, lrA]; first | done | assumption | omega) | omega) h57
  try simp only [go_sem] at h57k
  obtain rfl := oiA hr
  refine ⟨⟨(gt ++ (z6 ++ (z49 ++ (z54 ++ z59)))), ?_⟩, (show x58.length = n0 by first | assumption | (simp only [llA, lrA]; first | done | assumption | omega) | omega)⟩
  rotate_left
  obtain ⟨x60, h58, hr⟩ := bsome hr
  obtain ⟨z61, h58k, h58l0⟩ := qU9 (g1 := g1) (v0 := v0) (n0 := n0) (g2 := (g2 ++ (gt ++ (z6 ++ z49)))) (show x48.2.length = n0 by first | assumption | (simp only [llA, lrA]; first | done | assumption | omega) | omega) h58
  replace h58k := qh9 rfl rfl rfl h58k
  try simp only [go_sem] at h58k
  obtain rfl := oiA hr
  refine ⟨⟨(gt ++ (z6 ++ (z49 ++ z61))), ?_⟩, (show x60.2.length = n0 by first | assumption | (simp only [llA, lrA]; first | done | assumption | omega) | omega)⟩
  rotate_left
  obtain ⟨x62, h59, x64, h60, hr⟩ := bs2 hr
  obtain ⟨z63, h59k, h59l0⟩ := qy9 (g1 := g1) (v0 := v0) (n0 := n0) (g2 := (g2 ++ (gt ++ (z6 ++ z49)))) (show x48.2.length = n0 by first | assumption | (simp only [llA, lrA]; first | done | assumption | omega) | omega) h59
  replace h59k := qh9 rfl rfl rfl h59k
  try simp only [go_sem] at h59k
  rcases iteP hr with ⟨h61, hr⟩ | ⟨h61, hr⟩
  obtain ⟨x65, h62, hr⟩ := bsome hr
  obtain ⟨z66, h62k, h62l0⟩ := hrec (g1 := g1) (v0 := v0) (n0 := n0) (g2 := (g2 ++ (gt ++ (z6 ++ (z49 ++ z63))))) (show x62.2.2.length = n0 by first | assumption | (simp only [llA, lrA]; first | done | assumption | omega) | omega) h62
  try simp only [go_sem] at h62k
  obtain rfl := oiA hr
  refine ⟨⟨(gt ++ (z6 ++ (z49 ++ (z63 ++ z66)))), ?_⟩, (show x65.length = n0 by first | assumption | (simp only [llA, lrA]; first | done | assumption | omega) | omega)⟩
  rotate_left
  obtain ⟨x67, h63, hr⟩ := bsome hr
  obtain ⟨z68, h63k, h63l0⟩ := hrec (g1 := g1) (v0 := v0) (n0 := n0) (g2 := (g2 ++ (gt ++ (z6 ++ (z49 ++ z63))))) (show x62.2.2.length = n0 by first | assumption | (simp only [llA, lrA]; first | done | assumption | omega) | omega) h63
  try simp only [go_sem] at h63k
  obtain rfl := oiA hr
  refine ⟨⟨(gt ++ (z6 ++ (z49 ++ (z63 ++ z68)))), ?_⟩, (show x67.length = n0 by first | assumption | (simp only [llA, lrA]; first | done | assumption | omega) | omega)⟩
  rotate_left
  rcases iteP hr with ⟨h64, hr⟩ | ⟨h64, hr⟩
  obtain ⟨x69, h65, x70, h66, x71, h67, hr⟩ := bs3 hr
  have h65a := eq_true (qa9 h65).1
  have h65b : ((w64 (s1 - 1)) < (n0 : Int)) = True := eq_true (by have hb : (w64 (s1 - 1)) < (o0.length : Int) := (qa9 h65).2.1; omega)
  have h65c := (qa9 h65).2.2
  have h66a := eq_true (qa9 h66).1
  have h66b : (x5.1 < (n0 : Int)) = True := eq_true (by have hb : x5.1 < (o0.length : Int) := (qa9 h66).2.1; omega)
  have h66c := (qa9 h66).2.2
  have h67k := fun h => (qv9 h67).o rfl rfl rfl (h := h) (args := [.ag [PI x69.Var, .d (.rd (x69.T.map intD))], .ag [PI x70.Var, .d (.rd (x70.T.map intD))]]) rfl
  try simp only [go_sem] at h67k
  rcases iteP hr with ⟨h68, hr⟩ | ⟨h68, hr⟩
  obtain ⟨x72, h69, x74, h70, hr⟩ := bs2 hr
  obtain ⟨z73, h69k, h69l0⟩ := qy9 (g1 := g1) (v0 := v0) (n0 := n0) (g2 := (g2 ++ (gt ++ z6))) (show o0.length = n0 by first | assumption | (simp only [llA, lrA]; first | done | assumption | omega) | omega) h69
  replace h69k := qh9 rfl rfl rfl h69k
  try simp only [go_sem] at h69k
  rcases iteP hr with ⟨h71, hr⟩ | ⟨h71, hr⟩
  obtain ⟨x75, h72, hr⟩ := bsome hr
  obtain ⟨z76, h72k, h72l0⟩ := hrec (g1 := g1) (v0 := v0) (n0 := n0) (g2 := (g2 ++ (gt ++ (z6 ++ z73)))) (show x72.2.2.length = n0 by first | assumption | (simp only [llA, lrA]; first | done | assumption | omega) | omega) h72
  try simp only [go_sem] at h72k
  obtain rfl := oiA hr
  refine ⟨⟨(gt ++ (z6 ++ (z73 ++ z76))), ?_⟩, (show x75.length = n0 by first | assumption | (simp only [llA, lrA]; first | done | assumption | omega) | omega)⟩
  rotate_left
  obtain ⟨x77, h73, hr⟩ := bsome hr
  obtain ⟨z78, h73k, h73l0⟩ := hrec (g1 := g1) (v0 := v0) (n0 := n0) (g2 := (g2 ++ (gt ++ (z6 ++ z73)))) (show x72.2.2.length = n0 by first | assumption | (simp only [llA, lrA]; first | done | assumption | omega) | omega) h73
  try simp only [go_sem] at h73k
  obtain rfl := oiA hr
  refine ⟨⟨(gt ++ (z6 ++ (z73 ++ z78))), ?_⟩, (show x77.length = n0 by first | assumption | (simp only [llA, lrA]; first | done | assumption | omega) | omega)⟩
  rotate_left
  obtain ⟨x79, h74, hr⟩ := bsome hr
  obtain ⟨z80, h74k, h74l0⟩ := qU9 (g1 := g1) (v0 := v0) (n0 := n0) (g2 := (g2 ++ (gt ++ z6))) (show o0.length = n0 by first | assumption | (simp only [llA, lrA]; first | done | assumption | omega) | omega) h74
  replace h74k := qh9 rfl rfl rfl h74k
  try simp only [go_sem] at h74k
  obtain rfl := oiA hr
  refine ⟨⟨(gt ++ (z6 ++ z80)), ?_⟩, (show x79.2.length = n0 by first | assumption | (simp only [llA, lrA]; first | done | assumption | omega) | omega)⟩
  rotate_left
  obtain ⟨x81, h75, x83, h76, hr⟩ := bs2 hr
  obtain ⟨z82, h75k, h75l0⟩ := qy9 (g1 := g1) (v0 := v0) (n0 := n0) (g2 := (g2 ++ (gt ++ z6))) (show o0.length = n0 by first | assumption | (simp only [llA, lrA]; first | done | assumption | omega) | omega) h75
  replace h75k := qh9 rfl rfl rfl h75k
  try simp only [go_sem] at h75k
  rcases iteP hr with ⟨h77, hr⟩ | ⟨h77, hr⟩
  obtain ⟨x84, h78, hr⟩ := bsome hr
  obtain ⟨z85, h78k, h78l0⟩ := hrec (g1 := g1) (v0 := v0) (n0 := n0) (g2 := (g2 ++ (gt ++ (z6 ++ z82)))) (show x81.2.2.length = n0 by first | assumption | (simp only [llA, lrA]; first | done | assumption | omega) | omega) h78
  try simp only [go_sem] at h78k
  obtain rfl := oiA hr
  refine ⟨⟨(gt ++ (z6 ++ (z82 ++ z85))), ?_⟩, (show x84.length = n0 by first | assumption | (simp only [llA, lrA]; first | done | assumption | omega) | omega)⟩
  rotate_left
  obtain ⟨x86, h79, hr⟩ := bsome hr
  obtain ⟨z87, h79k, h79l0⟩ := hrec (g1 := g1) (v0 := v0) (n0 := n0) (g2 := (g2 ++ (gt ++ (z6 ++ z82)))) (show x81.2.2.length = n0 by first | assumption | (simp only [llA, lrA]; first | done | assumption | omega) | omega) h79
  try simp only [go_sem] at h79k
  obtain rfl := oiA hr
  refine ⟨⟨(gt ++ (z6 ++ (z82 ++ z87))), ?_⟩, (show x86.length = n0 by first | assumption | (simp only [llA, lrA]; first | done | assumption | omega) | omega)⟩
  rotate_left
  simp only [h44] at hr
  rcases iteP hr with ⟨h80, hr⟩ | ⟨h80, hr⟩
  obtain ⟨x88, h81, x89, h82, x90, h83, hr⟩ := bs3 hr
  have h81a := eq_true (qa9 h81).1
  have h81b : ((w64 (s1 - 1)) < (n0 : Int)) = True := eq_true (by have hb : (w64 (s1 - 1)) < (o0.length : Int) := (qa9 h81).2.1; omega)
  have h81c := (qa9 h81).2.2
  have h82a := eq_true (qa9 h82).1
  have h82b : (x5.1 < (n0 : Int)) = True := eq_true (by have hb : x5.1 < (o0.length : Int) := (qa9 h82).2.1; omega)
  have h82c := (qa9 h82).2.2
  have h83k := fun h => (qv9 h83).o rfl rfl rfl (h := h) (args := [.ag [PI x88.Var, .d (.rd (x88.T.map intD))], .ag [PI x89.Var, .d (.rd (x89.T.map intD))]]) rfl
  try simp only [go_sem] at h83k
  rcases iteP hr with ⟨h84, hr⟩ | ⟨h84, hr⟩
  obtain ⟨x91, h85, x93, h86, hr⟩ := bs2 hr
  obtain ⟨z92, h85k, h85l0⟩ := qy9 (g1 := g1) (v0 := v0) (n0 := n0) (g2 := (g2 ++ (gt ++ z6))) (show o0.length = n0 by first | assumption | (simp only [llA, lrA]; first | done | assumption | omega) | omega) h85
  replace h85k := qh9 rfl rfl rfl h85k
  try simp only [go_sem] at h85k
  rcases iteP hr with ⟨h87, hr⟩ | ⟨h87, hr⟩
  obtain ⟨x94, h88, hr⟩ := bsome hr
  obtain ⟨z95, h88k, h88l0⟩ := hrec (g1 := g1) (v0 := v0) (n0 := n0) (g2 := (g2 ++ (gt ++ (z6 ++ z92)))) (show x91.2.2.length = n0 by first | assumption | (simp only [llA, lrA]; first | done | assumption | omega) | omega) h88
  try simp only [go_sem] at h88k
  obtain rfl := oiA hr
  refine ⟨⟨(gt ++ (z6 ++ (z92 ++ z95))), ?_⟩, (show x94.length = n0 by first | assumption | (simp only [llA, lrA]; first | done | assumption | omega) | omega)⟩
  rotate_left
  obtain ⟨x96, h89, hr⟩ := bsome hr
  obtain ⟨z97, h89k, h89l0⟩ := hrec (g1 := g1) (v0 := v0) (n0 := n0) (g2 := (g2 ++ (gt ++ (z6 ++ z92)))) (show x91.2.2.length = n0 by first | assumption | (simp only [llA, lrA]; first | done | assumption | omega) | omega) h89
  try simp only [go_sem] at h89k
  obtain rfl := oiA hr
  refine ⟨⟨(gt ++ (z6 ++ (z92 ++ z97))), ?_⟩, (show x96.length = n0 by first | assumption | (simp only [llA, lrA]; first | done | assumption | omega) | omega)⟩
  rotate_left
  obtain ⟨x98, h90, hr⟩ := bsome hr
  obtain ⟨z99, h90k, h90l0⟩ := qU9 (g1 := g1) (v0 := v0) (n0 := n0) (g2 := (g2 ++ (gt ++ z6))) (show o0.length = n0 by first | assumption | (simp only [llA, lrA]; first | done | assumption | omega) | omega) h90
  replace h90k := qh9 rfl rfl rfl h90k
  try simp only [go_sem] at h90k
  obtain rfl := oiA hr
  refine ⟨⟨(gt ++ (z6 ++ z99)), ?_⟩, (show x98.2.length = n0 by first | assumption | (simp only [llA, lrA]; first | done | assumption | omega) | omega)⟩
  rotate_left
  obtain ⟨x100, h91, x102, h92, hr⟩ := bs2 hr
  obtain ⟨z101, h91k, h91l0⟩ := qy9 (g1 := g1) (v0 := v0) (n0 := n0) (g2 := (g2 ++ (gt ++ z6))) (show o0.length = n0 by first | assumption | (simp only [llA, lrA]; first | done | assumption | omega) | omega) h91
  replace h91k := qh9 rfl rfl rfl h91k
  try simp only [go_sem] at h91k
  rcases iteP hr with ⟨h93, hr⟩ | ⟨h93, hr⟩
  obtain ⟨x103, h94, hr⟩ := bsome hr
  obtain ⟨z104, h94k, h94l0⟩ := hrec (g1 := g1) (v0 := v0) (n0 := n0) (g2 := (g2 ++ (gt ++ (z6 ++ z101)))) (show x100.2.2.length = n0 by first | assumption | (simp only [llA, lrA]; first | done | assumption | omega) | omega) h94
  try simp only [go_sem] at h94k
  obtain rfl := oiA hr
  refine ⟨⟨(gt ++ (z6 ++ (z101 ++ z104))), ?_⟩, (show x103.length = n0 by first | assumption | (simp only [llA, lrA]; first | done | assumption | omega) | omega)⟩
  rotate_left
  obtain ⟨x105, h95, hr⟩ := bsome hr
  obtain ⟨z106, h95k, h95l0⟩ := hrec (g1 := g1) (v0 := v0) (n0 := n0) (g2 := (g2 ++ (gt ++ (z6 ++ z101)))) (show x100.2.2.length = n0 by first | assumption | (simp only [llA, lrA]; first | done | assumption | omega) | omega) h95
  try simp only [go_sem] at h95k
  obtain rfl := oiA hr
  refine ⟨⟨(gt ++ (z6 ++ (z101 ++ z106))), ?_⟩, (show x105.length = n0 by first | assumption | (simp only [llA, lrA]; first | done | assumption | omega) | omega)⟩
  rotate_left
  simp only [h5] at hr
  obtain ⟨x107, h96, x109, h97, hr⟩ := bs2 hr
  obtain ⟨z108, h96k, h96l0⟩ := qhN9 (g1 := g1) (v0 := v0) (n0 := n0) (g2 := (g2 ++ gt)) (show o0.length = n0 by first | assumption | (simp only [llA, lrA]; first | done | assumption | omega) | omega) h96
  replace h96k := qh9 rfl rfl rfl h96k
  try simp only [go_sem] at h96k
  obtain ⟨z110, h97k⟩ := qfj9 (g1 := g1) (v0 := v0) (n0 := n0) (g2 := (g2 ++ (gt ++ z108))) (show x107.length = n0 by first | assumption | (simp only [llA, lrA]; first | done | assumption | omega) | omega) h97
  replace h97k := qh9 rfl rfl rfl h97k
  try simp only [go_sem] at h97k
  rcases iteP hr with ⟨h98, hr⟩ | ⟨h98, hr⟩
  obtain ⟨x111, h99, hr⟩ := bsome hr
  obtain ⟨h99k, h99l0⟩ := qfa9 (g1 := g1) (v0 := v0) (n0 := n0) (g2 := (g2 ++ (gt ++ (z108 ++ z110)))) (show x107.length = n0 by first | assumption | (simp only [llA, lrA]; first | done | assumption | omega) | omega) h99
  replace h99k := qh9 rfl rfl rfl h99k
  try simp only [go_sem] at h99k
  rcases iteP hr with ⟨h100, hr⟩ | ⟨h100, hr⟩
  obtain ⟨x112, h101, x113, h102, x114, h103, hr⟩ := bs3 hr
  have h101a := eq_true (qa9 h101).1
  have h101b : ((w64 (s1 - 1)) < (n0 : Int)) = True := eq_true (by have hb : (w64 (s1 - 1)) < (x111.length : Int) := (qa9 h101).2.1; omega)
  have h101c := (qa9 h101).2.2
  have h102a := eq_true (qa9 h102).1
  have h102b : ((w64 ((w64 (s2 - 1)) - (w64 (x109.1 - s1)))) < (n0 : Int)) = True := eq_true (by have hb : (w64 ((w64 (s2 - 1)) - (w64 (x109.1 - s1)))) < (x111.length : Int) := (qa9 h102).2.1; omega)
  have h102c := (qa9 h102).2.2
  have h103k := fun h => (qv9 h103).o rfl rfl rfl (h := h) (args := [.ag [PI x112.Var, .d (.rd (x112.T.map intD))], .ag [PI x113.Var, .d (.rd (x113.T.map intD))]]) rfl
  try simp only [go_sem] at h103k
  rcases iteP hr with ⟨h104, hr⟩ | ⟨h104, hr⟩
  obtain ⟨x115, h105, x117, h106, hr⟩ := bs2 hr
  obtain ⟨z116, h105k, h105l0⟩ := qy9 (g1 := g1) (v0 := v0) (n0 := n0) (g2 := (g2 ++ (gt ++ (z108 ++ z110)))) (show x111.length = n0 by first | assumption | (simp only [llA, lrA]; first | done | assumption | omega) | omega) h105
  replace h105k := qh9 rfl rfl rfl h105k
  try simp only [go_sem] at h105k
  rcases iteP hr with ⟨h107, hr⟩ | ⟨h107, hr⟩
  obtain ⟨x118, h108, hr⟩ := bsome hr
  obtain ⟨z119, h108k, h108l0⟩ := hrec (g1 := g1) (v0 := v0) (n0 := n0) (g2 := (g2 ++ (gt ++ (z108 ++ (z110 ++ z116))))) (show x115.2.2.length = n0 by first | assumption | (simp only [llA, lrA]; first | done | assumption | omega) | omega) h108
  try simp only [go_sem] at h108k
  obtain rfl := oiA hr
  refine ⟨⟨(gt ++ (z108 ++ (z110 ++ (z116 ++ z119)))), ?_⟩, (show x118.length = n0 by first | assumption | (simp only [llA, lrA]; first | done | assumption | omega) | omega)⟩
  rotate_left
  obtain ⟨x120, h109, hr⟩ := bsome hr
  obtain ⟨z121, h109k, h109l0⟩ := hrec (g1 := g1) (v0 := v0) (n0 := n0) (g2 := (g2 ++ (gt ++ (z108 ++ (z110 ++ z116))))) (show x115.2.2.length = n0 by first | assumption | (simp only [llA, lrA]; first | done | assumption | omega) | omega) h109
  try simp only [go_sem] at h109k
  obtain rfl := oiA hr
  refine ⟨⟨(gt ++ (z108 ++ (z110 ++ (z116 ++ z121)))), ?_⟩, (show x120.length = n0 by first | assumption | (simp only [llA, lrA]; first | done | assumption | omega) | omega)⟩
  rotate_left
  obtain ⟨x122, h110, hr⟩ := bsome hr
  obtain ⟨z123, h110k, h110l0⟩ := qU9 (g1 := g1) (v0 := v0) (n0 := n0) (g2 := (g2 ++ (gt ++ (z108 ++ z110)))) (show x111.length = n0 by first | assumption | (simp only [llA, lrA]; first | done | assumption | omega) | omega) h110
  replace h110k := qh9 rfl rfl rfl h110k
  try simp only [go_sem] at h110k
  obtain rfl := oiA hr
  refine ⟨⟨(gt ++ (z108 ++ (z110 ++ z123))), ?_⟩, (show x122.2.length = n0 by first | assumption | (simp only [llA, lrA]; first | done | assumption | omega) | omega)⟩
  rotate_left
  obtain ⟨x124, h111, x126, h112, hr⟩ := bs2 hr
  obtain ⟨z125, h111k, h111l0⟩ := qy9 (g1 := g1) (v0 := v0) (n0 := n0) (g2 := (g2 ++ (gt ++ (z108 ++ z110)))) (show x111.length = n0 by first | assumption | (simp only [llA, lrA]; first | done | assumption | omega) | omega) h111
  replace h111k := qh9 rfl rfl rfl h111k
  try simp only [go_sem] at h111k
  rcases iteP hr with ⟨h113, hr⟩ | ⟨h113, hr⟩
  obtain ⟨x127, h114, hr⟩ := bsome hr
  obtain ⟨z128, h114k, h114l0⟩ := hrec (g1 := g1) (v0 := v0) (n0 := n0) (g2 := (g2 ++ (gt ++ (z108 ++ (z110 ++ z125))))) (show x124.2.2.length = n0 by first | assumption | (simp only [llA, lrA]; first | done | assumption | omega) | omega) h114
  try simp only [go_sem] at h114k
  obtain rfl := oiA hr
  refine ⟨⟨(gt ++ (z108 ++ (z110 ++ (z125 ++ z128)))), ?_⟩, (show x127.length = n0 by first | assumption | (simp only [llA, lrA]; first | done | assumption | omega) | omega)⟩
  rotate_left
  obtain ⟨x129, h115, hr⟩ := bsome hr
  obtain ⟨z130, h115k, h115l0⟩ := hrec (g1 := g1) (v0 := v0) (n0 := n0) (g2 := (g2 ++ (gt ++ (z108 ++ (z110 ++ z125))))) (show x124.2.2.length = n0 by first | assumption | (simp only [llA, lrA]; first | done | assumption | omega) | omega) h115
  try simp only [go_sem] at h115k
  obtain rfl := oiA hr
  refine ⟨⟨(gt ++ (z108 ++ (z110 ++ (z125 ++ z130)))), ?_⟩, (show x129.length = n0 by first | assumption | (simp only [llA, lrA]; first | done | assumption | omega) | omega)⟩
  rotate_left
  rcases iteP hr with ⟨h116, hr⟩ | ⟨h116, hr⟩
  obtain ⟨x131, h117, x132, h118, x133, h119, hr⟩ := bs3 hr
  have h117a := eq_true (qa9 h117).1
  have h117b : ((w64 (s1 - 1)) < (n0 : Int)) = True := eq_true (by have hb : (w64 (s1 - 1)) < (x107.length : Int) := (qa9 h117).2.1; omega)
  have h117c := (qa9 h117).2.2
  have h118a := eq_true (qa9 h118).1
  have h118b : (x109.1 < (n0 : Int)) = True := eq_true (by have hb : x109.1 < (x107.length : Int) := (qa9 h118).2.1; omega)
  have h118c := (qa9 h118).2.2
  have h119k := fun h => (qv9 h119).o rfl rfl rfl (h := h) (args := [.ag [PI x131.Var, .d (.rd (x131.T.map intD))], .ag [PI x132.Var, .d (.rd (x132.T.map intD))]]) rfl
  try simp only [go_sem] at h119k
  rcases iteP hr with ⟨h120, hr⟩ | ⟨h120, hr⟩
  obtain ⟨x134, h121, x136, h122, hr⟩ := bs2 hr
  obtain ⟨z135, h121k, h121l0⟩ := qy9 (g1 := g1) (v0 := v0) (n0 := n0) (g2 := (g2 ++ (gt ++ (z108 ++ z110)))) (show x107.length = n0 by first | assumption | (simp only [llA, lrA]; first | done | assumption | omega) | omega) h121
  replace h121k := qh9 rfl rfl rfl h121k
  try simp only [go_sem] at h121k
  rcases iteP hr with ⟨h123, hr⟩ | ⟨h123, hr⟩
  obtain ⟨x137, h124, hr⟩ := bsome hr
  obtain ⟨z138, h124k, h124l0⟩ := hrec (g1 := g1) (v0 := v0) (n0 := n0) (g2 := (g2 ++ (gt ++ (z108 ++ (z110 ++ z135))))) (show x134.2.2.length = n0 by first | assumption | (simp only [llA, lrA]; first | done | assumption | omega) | omega) h124
  try simp only [go_sem] at h124k
  obtain rfl := oiA hr
  refine ⟨⟨(gt ++ (z108 ++ (z110 ++ (z135 ++ z138)))), ?_⟩, (show x137.length = n0 by first | assumption | (simp only [llA, lrA]; first | done | assumption | omega) | omega)⟩
  rotate_left
  obtain ⟨x139, h125, hr⟩ := bsome hr
  obtain ⟨z140, h125k, h125l0⟩ := hrec (g1 := g1) (v0 := v0) (n0 := n0) (g2 := (g2 ++ (gt ++ (z108 ++ (z110 ++ z135))))) (show x134.2.2.length = n0 by first | assumption | (simp only [llA, lrA]; first | done | assumption | omega) | omega) h125
  try simp only [go_sem] at h125k
  obtain rfl := oiA hr
  refine ⟨⟨(gt ++ (z108 ++ (z110 ++ (z135 ++ z140)))), ?_⟩, (show x139.length = n0 by first | assumption | (simp only [llA, lrA]; first | done | assumption | omega) | omega)⟩
  rotate_left
  obtain ⟨x141, h126, hr⟩ := bsome hr
  obtain ⟨z142, h126k, h126l0⟩ := qU9 (g1 := g1) (v0 := v0) (n0 := n0) (g2 := (g2 ++ (gt ++ (z108 ++ z110)))) (show x107.length = n0 by first | assumption | (simp only [llA, lrA]; first | done | assumption | omega) | omega) h126
  replace h126k := qh9 rfl rfl rfl h126k
  try simp only [go_sem] at h126k
  obtain rfl := oiA hr
  refine ⟨⟨(gt ++ (z108 ++ (z110 ++ z142))), ?_⟩, (show x141.2.length = n0 by first | assumption | (simp only [llA, lrA]; first | done | assumption | omega) | omega)⟩
  rotate_left
  obtain ⟨x143, h127, x145, h128, hr⟩ := bs2 hr
  obtain ⟨z144, h127k, h127l0⟩ := qy9 (g1 := g1) (v0 := v0) (n0 := n0) (g2 := (g2 ++ (gt ++ (z108 ++ z110)))) (show x107.length = n0 by first | assumption | (simp only [llA, lrA]; first | done | assumption | omega) | omega) h127
  replace h127k := qh9 rfl rfl rfl h127k
  try simp only [go_sem] at h127k
  rcases iteP hr with ⟨h129, hr⟩ | ⟨h129, hr⟩
  obtain ⟨x146, h130, hr⟩ := bsome hr
  obtain ⟨z147, h130k, h130l0⟩ := hrec (g1 := g1) (v0 := v0) (n0 := n0) (g2 := (g2 ++ (gt ++ (z108 ++ (z110 ++ z144))))) (show x143.2.2.length = n0 by first | assumption | (simp only [llA, lrA]; first | done | assumption | omega) | omega) h130
  try simp only [go_sem] at h130k
  obtain rfl := oiA hr
  refine ⟨⟨(gt ++ (z108 ++ (z110 ++ (z144 ++ z147)))), ?_⟩, (show x146.length = n0 by first | assumption | (simp only [llA, lrA]; first | done | assumption | omega) | omega)⟩
  rotate_left
  obtain ⟨x148, h131, hr⟩ := bsome hr
  obtain ⟨z149, h131k, h131l0⟩ := hrec (g1 := g1) (v0 := v0) (n0 := n0) (g2 := (g2 ++ (gt ++ (z108 ++ (z110 ++ z144))))) (show x143.2.2.length = n0 by first | assumption | (simp only [llA, lrA]; first | done | assumption | omega) | omega) h131
  try simp only [go_sem] at h131k
  obtain rfl := oiA hr
  refine ⟨⟨(gt ++ (z108 ++ (z110 ++ (z144 ++ z149)))), ?_⟩, (show x148.length = n0 by first | assumption | (simp only [llA, lrA]; first | done | assumption | omega) | omega)⟩
  rotate_left
  all_goals (simp +decide only [go_sem, qer9, qnb9, *])
set_option maxHeartbeats 60000000 in
theorem qjv9 {rec : Int × Int × Int × (List Bind) → Option ((List Bind))} (hrec : ∀ {s1 : Int} {s2 : Int} {s3 : Int} {o0 : List Bind} {g1 : AHeap} {v0 : Nat} {n0 : Nat} {g2 : AHeap} (hln0 : o0.length = n0) {r : (List Bind)} (_ : rec (s1, s2, s3, o0) = some r), ∃ hz : AHeap, callP C (Lim C) 105 [.ref g1.length v0 0 n0, PI s1, PI s2, PI s3, .fn 84 []] (g1 ++ (.row false v0 2 (rowP qc9 o0) :: g2)) = some (resOf [], (g1 ++ (.row false v0 2 (rowP qc9 r) :: (g2 ++ hz)))) ∧ r.length = n0) {s1 : Int} {s2 : Int} {s3 : Int} {o0 : List Bind} {g1 : AHeap} {v0 : Nat} {n0 : Nat} {g2 : AHeap} (hln0 : o0.length = n0) {r : (List Bind)} (hr : qbq9 rec s1 s2 s3 o0 = some r) : ∃ hz : AHeap, Lim C 105 [.ref g1.length v0 0 n0, PI s1, PI s2, PI s3, .fn 84 []] (g1 ++ (.row false v0 2 (rowP qc9 o0) :: g2)) = some (resOf [], (g1 ++ (.row false v0 2 (rowP qc9 r) :: (g2 ++ hz)))) ∧ r.length = n0 := by
  simp only [qbq9] at hr
  obtain ⟨x150, h1, hr⟩ := bsome hr
  obtain ⟨q1, h1L, h1X⟩ := (qjo9 hrec (g1 := g1) (v0 := v0) (n0 := n0) (g2 := g2)).L (g := []) h1 (show o0.length = n0 by first | assumption | (simp only [llA, lrA]; first | done | assumption | omega) | omega)
  have ⟨x151, hq1⟩ : ∃ y, y = x150 := ⟨_, rfl⟩
  subst hq1
  try dsimp only at hr
  obtain ⟨st1, _, _, rfl, h1R, y3, rfl, rfl, h1f0⟩ := h1X
  simp only [qer9, go_sem] at h1L
  try simp only [hln0] at h1L
  obtain rfl := oiA hr
  refine ⟨y3, run_L is105 (nbA rfl) ?_, h1f0⟩
  rotate_left
  all_goals (simp +decide only [go_sem, c105, *])
theorem qjJ9 {s1 : Int} {s2 : Int} {s3 : Int} {o0 : List Bind} {g1 : AHeap} {v0 : Nat} {n0 : Nat} {g2 : AHeap} (hln0 : o0.length = n0) {r : (List Bind)} (hr : qdU9 s1 s2 s3 o0 = some r) : ∃ hz : AHeap, Lim C 105 [.ref g1.length v0 0 n0, PI s1, PI s2, PI s3, .fn 84 []] (g1 ++ (.row false v0 2 (rowP qc9 o0) :: g2)) = some (resOf [], (g1 ++ (.row false v0 2 (rowP qc9 r) :: (g2 ++ hz)))) ∧ r.length = n0 := by
  obtain ⟨n, hn⟩ := qjM9 hr
  clear hr
  induction n generalizing s1 s2 s3 o0 g1 v0 n0 g2 r with
  | zero => cases hn
  | succ n ih =>
    refine qjv9 (rec := fixN _ n) (fun {s1} {s2} {s3} {o0} {g1} {v0} {n0} {g2} hln0 {r} hr => ?_) hln0 (g1 := g1) (v0 := v0) (n0 := n0) (g2 := g2) hn
    obtain ⟨hz, h1, f0⟩ := ih hln0 (g1 := g1) (v0 := v0) (n0 := n0) (g2 := g2) hr
    exact ⟨hz, qh9 rfl rfl rfl h1, f0⟩
def c83 : ACode := .seq (.reg [] [] [.M 5 0, .T 6 (.len (.tmp 5)), .N 4 6]) (.reg [] [] [.M 7 0, .M 8 4, .M 9 4, .T 10 (.wrap .u64 (.tmp 9)), .T 11 (.call 106 [.tmp 10]), .M 12 1, .T 13 (.call 105 [.tmp 7, .const (.int .i64 0), .tmp 8, .tmp 11, .tmp 12])])
theorem is83 : IsF C 83 14 19 c83 [] := ⟨⟨Tryd.f83, _, C_P ▸ Tryd.func83, rfl, rfl, rfl, by kernel_rfl, rfl⟩⟩
set_option maxHeartbeats 60000000 in
theorem qjs9 {o0 : List Bind} {g1 : AHeap} {v0 : Nat} {n0 : Nat} {g2 : AHeap} (hln0 : o0.length = n0) {r : (List Bind)} (hr : qcy9 o0 = some r) : ∃ hz : AHeap, Lim C 83 [.ref g1.length v0 0 n0, .fn 84 []] (g1 ++ (.row false v0 2 (rowP qc9 o0) :: g2)) = some (resOf [], (g1 ++ (.row false v0 2 (rowP qc9 r) :: (g2 ++ hz)))) ∧ r.length = n0 := by
  simp only [qcy9] at hr
  obtain ⟨x1, h1, x2, h2, hr⟩ := bs2 hr
  have h1k := fun h => qiy9 (h := h) h1
  try simp only [go_sem] at h1k
  try simp only [hln0] at h1k
  obtain ⟨z3, h2k, h2l0⟩ := qjJ9 (g1 := g1) (v0 := v0) (n0 := n0) (g2 := g2) (show o0.length = n0 by first | assumption | (simp only [llA, lrA]; first | done | assumption | omega) | omega) h2
  replace h2k := qh9 rfl rfl rfl h2k
  try simp only [go_sem] at h2k
  try simp only [hln0] at h2k
  obtain rfl := oiA hr
  refine ⟨z3, run_L is83 (nbA rfl) ?_, (show x2.length = n0 by first | assumption | (simp only [llA, lrA]; first | done | assumption | omega) | omega)⟩
  rotate_left
  all_goals (simp +decide only [go_sem, c83, *])
end Ld

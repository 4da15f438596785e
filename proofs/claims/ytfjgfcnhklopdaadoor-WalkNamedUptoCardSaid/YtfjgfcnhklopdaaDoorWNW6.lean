import Derived.Test.YtfjgfcnhklopdaaDoorWNW4
set_option maxHeartbeats 4000000
set_option linter.unusedVariables false
set_option linter.unusedSimpArgs false
namespace Ld
open Go Go.Proofs Go.Abs
set_option maxRecDepth 8000
def qnb9 : ACode := .seq (.seq (.reg [] [] [.M 50 11, .M 51 12, .T 52 (.bin .leq (.tmp 50) (.tmp 51)), .M 53 52, .MG 54 53 true 4, .MG 55 53 true 0, .MG 56 53 true 1, ⟨some (57, false), .ix 2 (.tmp 55) (.tmp 56), some (53, true), true, false⟩, ⟨some (58, false), .load (some 2) (.tmp 57), some (53, true), true, false⟩, .MG 59 53 true 0, .MG 60 53 true 12, ⟨some (61, false), .ix 2 (.tmp 59) (.tmp 60), some (53, true), true, false⟩, ⟨some (62, false), .load (some 2) (.tmp 61), some (53, true), true, false⟩, ⟨some (63, false), .callV (.tmp 54) [.tmp 58, .tmp 62], some (53, true), true, false⟩, .TG 64 53 true (.bin .lss (.tmp 63) (cI 0)), .K 65 (.pick (.tmp 53) (.tmp 64) (.const (.bool false)))]) (.cond (.tmp 65) (some 65) (.skip) (.exit 4))) (.block 5 36893488147419103232 (.reg [] [] [.M 66 12, .T 67 (.bin .sub (.tmp 66) (cI 1)), .N 12 67]))
def qmZ9 : ACode := .seq (.seq (.reg [] [] [.M 31 11, .M 32 12, .T 33 (.bin .leq (.tmp 31) (.tmp 32)), .M 34 33, .MG 35 34 true 4, .MG 36 34 true 0, .MG 37 34 true 1, ⟨some (38, false), .ix 2 (.tmp 36) (.tmp 37), some (34, true), true, false⟩, ⟨some (39, false), .load (some 2) (.tmp 38), some (34, true), true, false⟩, .MG 40 34 true 0, .MG 41 34 true 11, ⟨some (42, false), .ix 2 (.tmp 40) (.tmp 41), some (34, true), true, false⟩, ⟨some (43, false), .load (some 2) (.tmp 42), some (34, true), true, false⟩, ⟨some (44, false), .callV (.tmp 35) [.tmp 39, .tmp 43], some (34, true), true, false⟩, .TG 45 34 true (.bin .lss (.tmp 44) (cI 0)), .TG 46 34 true (.not (.tmp 45)), .K 47 (.pick (.tmp 34) (.tmp 46) (.const (.bool false)))]) (.cond (.tmp 47) (some 47) (.skip) (.exit 2))) (.block 3 140737488355328 (.reg [] [] [.M 48 11, .T 49 (.bin .add (.tmp 48) (cI 1)), .N 11 49]))
def qmR9 : ACode := .block 1 1217485249602318761984 (.seq (.block 2 140737488355328 (.loop qmZ9)) (.seq (.block 4 36893628884907458560 (.loop qnb9)) (.seq (.seq (.reg [] [] [.M 68 11, .M 69 12, .K 70 (.bin .gtr (.tmp 68) (.tmp 69))]) (.cond (.tmp 70) (some 70) (.exit 0) (.skip))) (.seq (.reg [] [] [.M 71 0, .M 72 11, .M 73 0, .M 74 12, .M 75 0, .M 76 12, ⟨some (77, false), .ix 2 (.tmp 75) (.tmp 76), none, true, false⟩, ⟨some (78, false), .load (some 2) (.tmp 77), none, true, false⟩, .M 79 0, .M 80 11, ⟨some (81, false), .ix 2 (.tmp 79) (.tmp 80), none, true, false⟩, ⟨some (82, false), .load (some 2) (.tmp 81), none, true, false⟩, ⟨some (83, false), .ix 2 (.tmp 71) (.tmp 72), none, true, false⟩, ⟨none, .store 2 (.tmp 83) (.tmp 78), none, false, false⟩, ⟨some (84, false), .ix 2 (.tmp 73) (.tmp 74), none, true, false⟩, ⟨none, .store 2 (.tmp 84) (.tmp 82), none, false, false⟩]) (.seq (.reg [] [] [.M 85 11, .T 86 (.bin .add (.tmp 85) (cI 1)), .N 11 86]) (.reg [] [] [.M 87 12, .T 88 (.bin .sub (.tmp 87) (cI 1)), .N 12 88]))))))
def c128 : ACode := .seq (.reg [] [] [.K 10 (.mv (cI 0))]) (.seq (.reg [] [] [.M 13 0, .M 14 1, .M 15 0, .M 16 3, .M 17 0, .M 18 3, ⟨some (19, false), .ix 2 (.tmp 17) (.tmp 18), none, true, false⟩, ⟨some (20, false), .load (some 2) (.tmp 19), none, true, false⟩, .M 21 0, .M 22 1, ⟨some (23, false), .ix 2 (.tmp 21) (.tmp 22), none, true, false⟩, ⟨some (24, false), .load (some 2) (.tmp 23), none, true, false⟩, ⟨some (25, false), .ix 2 (.tmp 13) (.tmp 14), none, true, false⟩, ⟨none, .store 2 (.tmp 25) (.tmp 20), none, false, false⟩, ⟨some (26, false), .ix 2 (.tmp 15) (.tmp 16), none, true, false⟩, ⟨none, .store 2 (.tmp 26) (.tmp 24), none, false, false⟩]) (.seq (.reg [] [] [.M 27 1, .T 28 (.bin .add (.tmp 27) (cI 1)), .M 29 2, .T 30 (.bin .sub (.tmp 29) (cI 1)), .N 11 28, .N 12 30]) (.seq (.block 0 1217485249602318761984 (.loop qmR9)) (.seq (.reg [] [] [.M 89 11, .N 10 89]) (.ret)))))
theorem is128 : IsF C 128 90 1217485249602318769183 c128 [.tmp 10] := ⟨⟨Tryd.f128, _, C_P ▸ Tryd.func128, rfl, rfl, rfl, by kernel_rfl, rfl⟩⟩
def qbQ9 (s1 : Int) (s2 : Int) (s3 : Int) (s11 : Int) (o0 : List Bind) (g1 : AHeap) (v0 : Nat) (n0 : Nat) (g2 : AHeap) : Int → AHeap → St := fun s12 gt => ⟨[(0, .ref g1.length v0 0 n0), (1, PI s1), (2, PI s2), (3, PI s3), (4, .fn 84 []), (10, PI 0), (11, PI s11), (12, PI s12)], (g1 ++ (.row false v0 2 (rowP qc9 o0) :: (g2 ++ gt)))⟩
def qeg9 (s1 : Int) (s2 : Int) (s3 : Int) (s11 : Int) (o0 : List Bind) (g1 : AHeap) (v0 : Nat) (n0 : Nat) (g2 : AHeap) : Int → Prop := fun s12 => o0.length = n0
def qho9 (s1 : Int) (s2 : Int) (s3 : Int) (s11 : Int) (o0 : List Bind) (g1 : AHeap) (v0 : Nat) (n0 : Nat) (g2 : AHeap) : Int → AExit × St → Prop := fun s12 q => ∃ g, q = (.exit 4, qbQ9 s1 s2 s3 s11 o0 g1 v0 n0 g2 s12 g)
theorem qhu9 {s1 : Int} {s2 : Int} {s3 : Int} {s11 : Int} {o0 : List Bind} {g1 : AHeap} {v0 : Nat} {n0 : Nat} {g2 : AHeap} : SimI C 1217485249602318769183 qnb9 (qeg9 s1 s2 s3 s11 o0 g1 v0 n0 g2) (qbv9 s1 s2 s3 s11 o0) (qbQ9 s1 s2 s3 s11 o0 g1 v0 n0 g2) (qho9 s1 s2 s3 s11 o0 g1 v0 n0 g2) := by
  intro s g r hI hr
  have ⟨s12, hs0⟩ : ∃ y, y = s := ⟨_, rfl⟩
  subst hs0
  have ⟨gt, hg0⟩ : ∃ y, y = g := ⟨_, rfl⟩
  subst hg0
  simp only [qeg9] at hI
  have hI0 := hI
  simp only [qbv9] at hr
  rcases iteP hr with ⟨h1, hr⟩ | ⟨h1, hr⟩
  obtain ⟨x10, h2, x11, h3, x12, h4, hr⟩ := bs3 hr
  have h2a := eq_true (qa9 h2).1
  have h2b : (s1 < (n0 : Int)) = True := eq_true (by have hb : s1 < (o0.length : Int) := (qa9 h2).2.1; omega)
  have h2c := (qa9 h2).2.2
  have h3a := eq_true (qa9 h3).1
  have h3b : (s12 < (n0 : Int)) = True := eq_true (by have hb : s12 < (o0.length : Int) := (qa9 h3).2.1; omega)
  have h3c := (qa9 h3).2.2
  have h4k := fun h => (qu9 h4).o rfl rfl rfl (h := h) (args := [.ag [PI x10.Var, .d (.rd (x10.T.map intD))], .ag [PI x11.Var, .d (.rd (x11.T.map intD))]]) rfl
  try simp only [go_sem] at h4k
  rcases iteP hr with ⟨h5, hr⟩ | ⟨h5, hr⟩
  obtain rfl := oiA hr
  refine ⟨⟨gt, ?_⟩, (show o0.length = n0 by first | assumption | (simp only [llA, lrA]; first | done | assumption | omega) | omega)⟩
  rotate_left
  obtain rfl := oiA hr
  refine xe_of ⟨gt, rfl⟩ ?_
  rotate_left
  obtain rfl := oiA hr
  refine xe_of ⟨gt, rfl⟩ ?_
  rotate_left
  all_goals (simp +decide only [go_sem, qbQ9, qnb9, *])
def qbT9 (s1 : Int) (s2 : Int) (s3 : Int) (s12 : Int) (o0 : List Bind) (g1 : AHeap) (v0 : Nat) (n0 : Nat) (g2 : AHeap) : Int → AHeap → St := fun s11 gt => ⟨[(0, .ref g1.length v0 0 n0), (1, PI s1), (2, PI s2), (3, PI s3), (4, .fn 84 []), (10, PI 0), (11, PI s11), (12, PI s12)], (g1 ++ (.row false v0 2 (rowP qc9 o0) :: (g2 ++ gt)))⟩
def qei9 (s1 : Int) (s2 : Int) (s3 : Int) (s12 : Int) (o0 : List Bind) (g1 : AHeap) (v0 : Nat) (n0 : Nat) (g2 : AHeap) : Int → Prop := fun s11 => o0.length = n0
def qhi9 (s1 : Int) (s2 : Int) (s3 : Int) (s12 : Int) (o0 : List Bind) (g1 : AHeap) (v0 : Nat) (n0 : Nat) (g2 : AHeap) : Int → AExit × St → Prop := fun s11 q => ∃ g, q = (.exit 2, qbT9 s1 s2 s3 s12 o0 g1 v0 n0 g2 s11 g)
theorem qhg9 {s1 : Int} {s2 : Int} {s3 : Int} {s12 : Int} {o0 : List Bind} {g1 : AHeap} {v0 : Nat} {n0 : Nat} {g2 : AHeap} : SimI C 1217485249602318769183 qmZ9 (qei9 s1 s2 s3 s12 o0 g1 v0 n0 g2) (qbu9 s1 s2 s3 s12 o0) (qbT9 s1 s2 s3 s12 o0 g1 v0 n0 g2) (qhi9 s1 s2 s3 s12 o0 g1 v0 n0 g2) := by
  intro s g r hI hr
  have ⟨s11, hs0⟩ : ∃ y, y = s := ⟨_, rfl⟩
  subst hs0
  have ⟨gt, hg0⟩ : ∃ y, y = g := ⟨_, rfl⟩
  subst hg0
  simp only [qei9] at hI
  have hI0 := hI
  simp only [qbu9] at hr
  rcases iteP hr with ⟨h1, hr⟩ | ⟨h1, hr⟩
  obtain ⟨x4, h2, x5, h3, x6, h4, hr⟩ := bs3 hr
  have h2a := eq_true (qa9 h2).1
  have h2b : (s1 < (n0 : Int)) = True := eq_true (by have hb : s1 < (o0.length : Int) := (qa9 h2).2.1; omega)
  have h2c := (qa9 h2).2.2
  have h3a := eq_true (qa9 h3).1
  have h3b : (s11 < (n0 : Int)) = True := eq_true (by have hb : s11 < (o0.length : Int) := (qa9 h3).2.1; omega)
  have h3c := (qa9 h3).2.2
  have h4k := fun h => (qu9 h4).o rfl rfl rfl (h := h) (args := [.ag [PI x4.Var, .d (.rd (x4.T.map intD))], .ag [PI x5.Var, .d (.rd (x5.T.map intD))]]) rfl
  try simp only [go_sem] at h4k
  rcases iteP hr with ⟨h5, hr⟩ | ⟨h5, hr⟩
  obtain rfl := oiA hr
  refine xe_of ⟨gt, rfl⟩ ?_
  rotate_left
  obtain rfl := oiA hr
  refine ⟨⟨gt, ?_⟩, (show o0.length = n0 by first | assumption | (simp only [llA, lrA]; first | done | assumption | omega) | omega)⟩
  rotate_left
  obtain rfl := oiA hr
  refine xe_of ⟨gt, rfl⟩ ?_
  rotate_left
  all_goals (simp +decide only [go_sem, qbT9, qmZ9, *])
def qbS9 (s1 : Int) (s2 : Int) (s3 : Int) (g1 : AHeap) (v0 : Nat) (n0 : Nat) (g2 : AHeap) : Int × Int × (List Bind) → AHeap → St := fun (s11, s12, o0) gt => ⟨[(0, .ref g1.length v0 0 n0), (1, PI s1), (2, PI s2), (3, PI s3), (4, .fn 84 []), (10, PI 0), (11, PI s11), (12, PI s12)], (g1 ++ (.row false v0 2 (rowP qc9 o0) :: (g2 ++ gt)))⟩
def qef9 (s1 : Int) (s2 : Int) (s3 : Int) (g1 : AHeap) (v0 : Nat) (n0 : Nat) (g2 : AHeap) : Int × Int × (List Bind) → Prop := fun (s11, s12, o0) => o0.length = n0
def qhq9 (s1 : Int) (s2 : Int) (s3 : Int) (g1 : AHeap) (v0 : Nat) (n0 : Nat) (g2 : AHeap) : (Int × Int × (List Bind)) → AExit × St → Prop := fun (s11, s12, o0) q => ∃ g, q = (.exit 0, qbS9 s1 s2 s3 g1 v0 n0 g2 (s11, s12, o0) g) ∧ o0.length = n0
theorem qhs9 {s1 : Int} {s2 : Int} {s3 : Int} {g1 : AHeap} {v0 : Nat} {n0 : Nat} {g2 : AHeap} : SimI C 1217485249602318769183 qmR9 (qef9 s1 s2 s3 g1 v0 n0 g2) (qM9 s1 s2 s3) (qbS9 s1 s2 s3 g1 v0 n0 g2) (qhq9 s1 s2 s3 g1 v0 n0 g2) := by
  intro s g r hI hr
  obtain ⟨s11, s12, o0⟩ := s
  have ⟨gt, hg0⟩ : ∃ y, y = g := ⟨_, rfl⟩
  subst hg0
  simp only [qef9] at hI
  have hI0 := hI
  simp only [qM9] at hr
  obtain ⟨x7, h1, hr⟩ := bsome hr
  obtain ⟨q1, h1L, h1X⟩ := (qhg9 (g1 := g1) (v0 := v0) (n0 := n0) (g2 := (g2 ++ gt))).L (g := []) h1 (show o0.length = n0 by first | assumption | (simp only [llA, lrA]; first | done | assumption | omega) | omega)
  have ⟨x8, hq1⟩ : ∃ y, y = x7 := ⟨_, rfl⟩
  subst hq1
  try dsimp only at hr
  obtain ⟨z9, rfl⟩ := h1X
  simp only [qbT9, go_sem] at h1L
  try simp only [hI0] at h1L
  obtain ⟨x13, h2, hr⟩ := bsome hr
  obtain ⟨q2, h2L, h2X⟩ := (qhu9 (g1 := g1) (v0 := v0) (n0 := n0) (g2 := (g2 ++ (gt ++ z9)))).L (g := []) h2 (show o0.length = n0 by first | assumption | (simp only [llA, lrA]; first | done | assumption | omega) | omega)
  have ⟨x14, hq2⟩ : ∃ y, y = x13 := ⟨_, rfl⟩
  subst hq2
  try dsimp only at hr
  obtain ⟨z15, rfl⟩ := h2X
  simp only [qbQ9, go_sem] at h2L
  try simp only [hI0] at h2L
  rcases iteP hr with ⟨h3, hr⟩ | ⟨h3, hr⟩
  obtain rfl := oiA hr
  refine xe_of ⟨(gt ++ (z9 ++ z15)), rfl, (show o0.length = n0 by first | assumption | (simp only [llA, lrA]; first | done | assumption | omega) | omega)⟩ ?_
  rotate_left
  obtain ⟨x16, h4, x17, h5, x18, h6, hr⟩ := bs3 hr
  have h4a := eq_true (qa9 h4).1
  have h4b : (x14 < (n0 : Int)) = True := eq_true (by have hb : x14 < (o0.length : Int) := (qa9 h4).2.1; omega)
  have h4c := (qa9 h4).2.2
  have h5a := eq_true (qa9 h5).1
  have h5b : (x8 < (n0 : Int)) = True := eq_true (by have hb : x8 < (o0.length : Int) := (qa9 h5).2.1; omega)
  have h5c := (qa9 h5).2.2
  have h6a := eq_true (qa9 h6).1
  have h6b : (x14 < (n0 : Int)) = True := eq_true (by have hb : x14 < ((o0.set (x8).toNat x16).length : Int) := (qa9 h6).2.1; simp only [llA, lrA] at hb; omega)
  have h6c := (qa9 h6).2.2
  obtain rfl := oiA hr
  refine ⟨⟨(gt ++ (z9 ++ z15)), ?_⟩, (show ((o0.set (x8).toNat x16).set (x14).toNat x17).length = n0 by first | assumption | (simp only [llA, lrA]; first | done | assumption | omega) | omega)⟩
  rotate_left
  all_goals (simp +decide only [go_sem, qbS9, qmR9, *])
theorem qT9 {s1 : Int} {s2 : Int} {s3 : Int} {o0 : List Bind} {g1 : AHeap} {v0 : Nat} {n0 : Nat} {g2 : AHeap} (hln0 : o0.length = n0) {r : Int × (List Bind)} (hr : qz9 s1 s2 s3 o0 = some r) : ∃ hz : AHeap, Lim C 128 [.ref g1.length v0 0 n0, PI s1, PI s2, PI s3, .fn 84 []] (g1 ++ (.row false v0 2 (rowP qc9 o0) :: g2)) = some (resOf [PI r.1], (g1 ++ (.row false v0 2 (rowP qc9 r.2) :: (g2 ++ hz)))) ∧ r.2.length = n0 := by
  simp only [qz9] at hr
  obtain ⟨x1, h1, x2, h2, x3, h3, hr⟩ := bs3 hr
  have h1a := eq_true (qa9 h1).1
  have h1b : (s3 < (n0 : Int)) = True := eq_true (by have hb : s3 < (o0.length : Int) := (qa9 h1).2.1; omega)
  have h1c := (qa9 h1).2.2
  have h2a := eq_true (qa9 h2).1
  have h2b : (s1 < (n0 : Int)) = True := eq_true (by have hb : s1 < (o0.length : Int) := (qa9 h2).2.1; omega)
  have h2c := (qa9 h2).2.2
  have h3a := eq_true (qa9 h3).1
  have h3b : (s3 < (n0 : Int)) = True := eq_true (by have hb : s3 < ((o0.set (s1).toNat x1).length : Int) := (qa9 h3).2.1; simp only [llA, lrA] at hb; omega)
  have h3c := (qa9 h3).2.2
  obtain ⟨x19, h4, hr⟩ := bsome hr
  obtain ⟨q4, h4L, h4X⟩ := (qhs9 (g1 := g1) (v0 := v0) (n0 := n0) (g2 := g2)).L (g := []) h4 (show ((o0.set (s1).toNat x1).set (s3).toNat x2).length = n0 by first | assumption | (simp only [llA, lrA]; first | done | assumption | omega) | omega)
  obtain ⟨x20, x21, x22⟩ := x19
  try dsimp only at hr
  obtain ⟨z23, rfl, h4l0⟩ := h4X
  simp only [qbS9, go_sem] at h4L
  try simp only [hln0] at h4L
  obtain rfl := oiA hr
  refine ⟨z23, run_L is128 (nbA rfl) ?_, (show x22.length = n0 by first | assumption | (simp only [llA, lrA]; first | done | assumption | omega) | omega)⟩
  rotate_left
  all_goals (simp +decide only [go_sem, c128, *])
def qmi9 : ACode := .seq (.seq (.reg [] [] [.M 28 11, .M 29 1, .M 30 8, .T 31 (.binM .quo (.tmp 30) (cI 4)), .T 32 (.bin .mul (.tmp 31) (cI 2)), .T 33 (.bin .add (.tmp 29) (.tmp 32)), .T 34 (.bin .add (.tmp 33) (cI 1)), .K 35 (.bin .leq (.tmp 28) (.tmp 34))]) (.cond (.tmp 35) (some 35) (.skip) (.exit 0))) (.seq (.block 1 35218731831296 (.seq (.reg [] [] [.T 38 (.call 138 [.tmp 9]), .M 39 10, .T 40 (.bin .sub (.tmp 39) (.const (.int .u64 1))), .T 41 (.binM .and (.tmp 38) (.tmp 40)), .T 42 (.wrap .i64 (.tmp 41)), .N 12 42]) (.seq (.seq (.reg [] [] [.M 43 12, .M 44 8, .K 45 (.bin .geq (.tmp 43) (.tmp 44))]) (.cond (.tmp 45) (some 45) (.reg [] [] [.M 46 12, .M 47 8, .T 48 (.bin .sub (.tmp 46) (.tmp 47)), .N 12 48]) (.skip))) (.reg [] [] [.M 49 0, .M 50 11, .M 51 0, .M 52 1, .M 53 12, .T 54 (.bin .add (.tmp 52) (.tmp 53)), .M 55 0, .M 56 1, .M 57 12, .T 58 (.bin .add (.tmp 56) (.tmp 57)), ⟨some (59, false), .ix 2 (.tmp 55) (.tmp 58), none, true, false⟩, ⟨some (60, false), .load (some 2) (.tmp 59), none, true, false⟩, .M 61 0, .M 62 11, ⟨some (63, false), .ix 2 (.tmp 61) (.tmp 62), none, true, false⟩, ⟨some (64, false), .load (some 2) (.tmp 63), none, true, false⟩, ⟨some (65, false), .ix 2 (.tmp 49) (.tmp 50), none, true, false⟩, ⟨none, .store 2 (.tmp 65) (.tmp 60), none, false, false⟩, ⟨some (66, false), .ix 2 (.tmp 51) (.tmp 54), none, true, false⟩, ⟨none, .store 2 (.tmp 66) (.tmp 64), none, false, false⟩])))) (.reg [] [] [.M 36 11, .T 37 (.bin .add (.tmp 36) (cI 1)), .N 11 37]))
def c124 : ACode := .seq (.reg [] [] [.M 13 2, .M 14 1, .T 15 (.bin .sub (.tmp 13) (.tmp 14)), .N 8 15]) (.seq (.reg [] [] [.M 16 8, .K 17 (.bin .geq (.tmp 16) (cI 8))]) (.cond (.tmp 17) (some 17) (.seq (.reg [] [] [.M 18 8, .T 19 (.wrap .u64 (.tmp 18)), .K 9 (.alloc [.d (.v (.int .u64 0))] 1), ⟨none, .store 1 (.tmp 9) (.tmp 19), none, false, false⟩]) (.seq (.reg [] [] [.M 20 8, .T 21 (.call 137 [.tmp 20]), .N 10 21]) (.seq (.reg [] [] [.M 22 1, .M 23 8, .T 24 (.binM .quo (.tmp 23) (cI 4)), .T 25 (.bin .mul (.tmp 24) (cI 2)), .T 26 (.bin .add (.tmp 22) (.tmp 25)), .T 27 (.bin .sub (.tmp 26) (cI 1)), .N 11 27]) (.block 0 35218731831296 (.loop qmi9))))) (.skip)))
theorem is124 : IsF C 124 67 35218731966215 c124 [] := ⟨⟨Tryd.f124, _, C_P ▸ Tryd.func124, rfl, rfl, rfl, by kernel_rfl, rfl⟩⟩
def qce9 (s1 : Int) (s2 : Int) (s8 : Int) (s10 : Int) (g1 : AHeap) (v0 : Nat) (n0 : Nat) (g2 : AHeap) : Int × (List Bind) × Int → AHeap → St := fun (s11, o0, b9_0) gt => ⟨[(0, .ref g1.length v0 0 n0), (1, PI s1), (2, PI s2), (8, PI s8), (9, .ptr (g1.length + g2.length + 1) 0 0 0), (10, .d (.v (.int .u64 s10))), (11, PI s11)], (g1 ++ (.row false v0 2 (rowP qc9 o0) :: (g2 ++ (.row false 0 1 [[.d (.v (.int .u64 b9_0))]] :: gt))))⟩
def qeq9 (s1 : Int) (s2 : Int) (s8 : Int) (s10 : Int) (g1 : AHeap) (v0 : Nat) (n0 : Nat) (g2 : AHeap) : Int × (List Bind) × Int → Prop := fun (s11, o0, b9_0) => o0.length = n0
def qhy9 (s1 : Int) (s2 : Int) (s8 : Int) (s10 : Int) (g1 : AHeap) (v0 : Nat) (n0 : Nat) (g2 : AHeap) : (Int × (List Bind) × Int) → AExit × St → Prop := fun (s11, o0, b9_0) q => ∃ g, q = (.exit 0, qce9 s1 s2 s8 s10 g1 v0 n0 g2 (s11, o0, b9_0) g) ∧ o0.length = n0
theorem qhC9 {s1 : Int} {s2 : Int} {s8 : Int} {s10 : Int} {g1 : AHeap} {v0 : Nat} {n0 : Nat} {g2 : AHeap} : SimI C 35218731966215 qmi9 (qeq9 s1 s2 s8 s10 g1 v0 n0 g2) (qF9 s1 s2 s8 s10) (qce9 s1 s2 s8 s10 g1 v0 n0 g2) (qhy9 s1 s2 s8 s10 g1 v0 n0 g2) := by
  intro s g r hI hr
  obtain ⟨s11, o0, b9_0⟩ := s
  have ⟨gt, hg0⟩ : ∃ y, y = g := ⟨_, rfl⟩
  subst hg0
  simp only [qeq9] at hI
  have hI0 := hI
  simp only [qF9] at hr
  obtain ⟨x3, h1, hr⟩ := bsome hr
  rcases iteP hr with ⟨h2, hr⟩ | ⟨h2, hr⟩
  obtain ⟨x4, h3, hr⟩ := bsome hr
  have h3k := qh9 rfl rfl rfl (qiz9 (g1 := (g1 ++ (.row false v0 2 (rowP qc9 o0) :: g2))) (g2 := gt) h3)
  try simp only [go_sem] at h3k
  rcases iteP hr with ⟨h4, hr⟩ | ⟨h4, hr⟩
  obtain ⟨x5, h5, x6, h6, x7, h7, hr⟩ := bs3 hr
  have h5a := eq_true (qa9 h5).1
  have h5b : ((w64 (s1 + (w64 ((w64 (andV .u64 x4.1 (IntKind.u64.wrap (s10 - 1)))) - s8)))) < (n0 : Int)) = True := eq_true (by have hb : (w64 (s1 + (w64 ((w64 (andV .u64 x4.1 (IntKind.u64.wrap (s10 - 1)))) - s8)))) < (o0.length : Int) := (qa9 h5).2.1; omega)
  have h5c := (qa9 h5).2.2
  have h6a := eq_true (qa9 h6).1
  have h6b : (s11 < (n0 : Int)) = True := eq_true (by have hb : s11 < (o0.length : Int) := (qa9 h6).2.1; omega)
  have h6c := (qa9 h6).2.2
  have h7a := eq_true (qa9 h7).1
  have h7b : ((w64 (s1 + (w64 ((w64 (andV .u64 x4.1 (IntKind.u64.wrap (s10 - 1)))) - s8)))) < (n0 : Int)) = True := eq_true (by have hb : (w64 (s1 + (w64 ((w64 (andV .u64 x4.1 (IntKind.u64.wrap (s10 - 1)))) - s8)))) < ((o0.set (s11).toNat x5).length : Int) := (qa9 h7).2.1; simp only [llA, lrA] at hb; omega)
  have h7c := (qa9 h7).2.2
  obtain rfl := oiA hr
  refine ⟨⟨gt, ?_⟩, (show ((o0.set (s11).toNat x5).set (w64 (s1 + (w64 ((w64 (andV .u64 x4.1 (IntKind.u64.wrap (s10 - 1)))) - s8)))).toNat x6).length = n0 by first | assumption | (simp only [llA, lrA]; first | done | assumption | omega) | omega)⟩
  rotate_left
  obtain ⟨x8, h8, x9, h9, x10, h10, hr⟩ := bs3 hr
  have h8a := eq_true (qa9 h8).1
  have h8b : ((w64 (s1 + (w64 (andV .u64 x4.1 (IntKind.u64.wrap (s10 - 1)))))) < (n0 : Int)) = True := eq_true (by have hb : (w64 (s1 + (w64 (andV .u64 x4.1 (IntKind.u64.wrap (s10 - 1)))))) < (o0.length : Int) := (qa9 h8).2.1; omega)
  have h8c := (qa9 h8).2.2
  have h9a := eq_true (qa9 h9).1
  have h9b : (s11 < (n0 : Int)) = True := eq_true (by have hb : s11 < (o0.length : Int) := (qa9 h9).2.1; omega)
  have h9c := (qa9 h9).2.2
  have h10a := eq_true (qa9 h10).1
  have h10b : ((w64 (s1 + (w64 (andV .u64 x4.1 (IntKind.u64.wrap (s10 - 1)))))) < (n0 : Int)) = True := eq_true (by have hb : (w64 (s1 + (w64 (andV .u64 x4.1 (IntKind.u64.wrap (s10 - 1)))))) < ((o0.set (s11).toNat x8).length : Int) := (qa9 h10).2.1; simp only [llA, lrA] at hb; omega)
  have h10c := (qa9 h10).2.2
  obtain rfl := oiA hr
  refine ⟨⟨gt, ?_⟩, (show ((o0.set (s11).toNat x8).set (w64 (s1 + (w64 (andV .u64 x4.1 (IntKind.u64.wrap (s10 - 1)))))).toNat x9).length = n0 by first | assumption | (simp only [llA, lrA]; first | done | assumption | omega) | omega)⟩
  rotate_left
  obtain rfl := oiA hr
  refine xe_of ⟨gt, rfl, (show o0.length = n0 by first | assumption | (simp only [llA, lrA]; first | done | assumption | omega) | omega)⟩ ?_
  rotate_left
  all_goals (simp +decide only [go_sem, qce9, qmi9, *])
theorem qhM9 {s1 : Int} {s2 : Int} {o0 : List Bind} {g1 : AHeap} {v0 : Nat} {n0 : Nat} {g2 : AHeap} (hln0 : o0.length = n0) {r : (List Bind)} (hr : qbO9 s1 s2 o0 = some r) : ∃ hz : AHeap, Lim C 124 [.ref g1.length v0 0 n0, PI s1, PI s2, .fn 84 []] (g1 ++ (.row false v0 2 (rowP qc9 o0) :: g2)) = some (resOf [], (g1 ++ (.row false v0 2 (rowP qc9 r) :: (g2 ++ hz)))) ∧ r.length = n0 := by
  simp only [qbO9] at hr
  rcases iteP hr with ⟨h1, hr⟩ | ⟨h1, hr⟩
  obtain ⟨x1, h2, x2, h3, hr⟩ := bs2 hr
  have h2k := (qik9 h2).k rfl rfl rfl
  try simp only [go_sem] at h2k
  obtain ⟨x11, h4, hr⟩ := bsome hr
  obtain ⟨q4, h4L, h4X⟩ := (qhC9 (g1 := g1) (v0 := v0) (n0 := n0) (g2 := g2)).L (g := []) h4 (show o0.length = n0 by first | assumption | (simp only [llA, lrA]; first | done | assumption | omega) | omega)
  obtain ⟨x12, x13, x14⟩ := x11
  try dsimp only at hr
  obtain ⟨z15, rfl, h4l0⟩ := h4X
  simp only [qce9, go_sem] at h4L
  try simp only [hln0] at h4L
  obtain rfl := oiA hr
  refine ⟨(.row false 0 1 [[.d (.v (.int .u64 x14))]] :: z15), run_L is124 (nbA rfl) ?_, (show x13.length = n0 by first | assumption | (simp only [llA, lrA]; first | done | assumption | omega) | omega)⟩
  rotate_left
  obtain rfl := oiA hr
  refine ⟨[], run_L is124 (nbA rfl) ?_, (show o0.length = n0 by first | assumption | (simp only [llA, lrA]; first | done | assumption | omega) | omega)⟩
  rotate_left
  all_goals (simp +decide only [go_sem, c124, *])
end Ld

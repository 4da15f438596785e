import Derived.Test.YtfjgfcnhklopdaaDoorSYW1
set_option maxHeartbeats 4000000
set_option linter.unusedVariables false
set_option linter.unusedSimpArgs false
namespace Ld
open Go Go.Proofs Go.Abs
set_option maxRecDepth 8000
def qpx9 : ACode := .seq (.seq (.reg [] [] [.M 13 8, .M 14 9, .K 15 (.bin .lss (.tmp 13) (.tmp 14))]) (.cond (.tmp 15) (some 15) (.skip) (.exit 0))) (.block 1 32768 (.seq (.reg [] [] [.M 16 0, .M 17 8, .M 18 0, .M 19 9, .M 20 0, .M 21 9, ⟨some (22, false), .ix 2 (.tmp 20) (.tmp 21), none, true, false⟩, ⟨some (23, false), .load (some 2) (.tmp 22), none, true, false⟩, .M 24 0, .M 25 8, ⟨some (26, false), .ix 2 (.tmp 24) (.tmp 25), none, true, false⟩, ⟨some (27, false), .load (some 2) (.tmp 26), none, true, false⟩, ⟨some (28, false), .ix 2 (.tmp 16) (.tmp 17), none, true, false⟩, ⟨none, .store 2 (.tmp 28) (.tmp 23), none, false, false⟩, ⟨some (29, false), .ix 2 (.tmp 18) (.tmp 19), none, true, false⟩, ⟨none, .store 2 (.tmp 29) (.tmp 27), none, false, false⟩]) (.seq (.reg [] [] [.M 30 8, .T 31 (.bin .add (.tmp 30) (cI 1)), .N 8 31]) (.reg [] [] [.M 32 9, .T 33 (.bin .sub (.tmp 32) (cI 1)), .N 9 33]))))
def c126 : ACode := .seq (.reg [] [] [.M 10 1, .N 8 10]) (.seq (.reg [] [] [.M 11 2, .T 12 (.bin .sub (.tmp 11) (cI 1)), .N 9 12]) (.block 0 32768 (.loop qpx9)))
theorem is126 : IsF C 126 34 33543 c126 [] := ⟨⟨Tryd.f126, _, C_P ▸ Tryd.func126, rfl, rfl, rfl, by kernel_rfl, rfl⟩⟩
def qcv9 (s1 : Int) (s2 : Int) (g1 : AHeap) (v0 : Nat) (n0 : Nat) (g2 : AHeap) : Int × Int × (List Bind) → Unit → St := fun (s8, s9, o0) _ => ⟨[(0, .ref g1.length v0 0 n0), (1, PI s1), (2, PI s2), (8, PI s8), (9, PI s9)], (g1 ++ (.row false v0 2 (rowP qc9 o0) :: g2))⟩
def qeE9 (s1 : Int) (s2 : Int) (g1 : AHeap) (v0 : Nat) (n0 : Nat) (g2 : AHeap) : Int × Int × (List Bind) → Prop := fun (s8, s9, o0) => o0.length = n0
def qil9 (s1 : Int) (s2 : Int) (g1 : AHeap) (v0 : Nat) (n0 : Nat) (g2 : AHeap) : (Int × Int × (List Bind)) → AExit × St → Prop := fun (s8, s9, o0) q => ∃ g, q = (.exit 0, qcv9 s1 s2 g1 v0 n0 g2 (s8, s9, o0) g) ∧ o0.length = n0
theorem qic9 {s1 : Int} {s2 : Int} {g1 : AHeap} {v0 : Nat} {n0 : Nat} {g2 : AHeap} : SimI C 33543 qpx9 (qeE9 s1 s2 g1 v0 n0 g2) (qQ9 s1 s2) (qcv9 s1 s2 g1 v0 n0 g2) (qil9 s1 s2 g1 v0 n0 g2) := by
  intro s g r hI hr
  obtain ⟨s8, s9, o0⟩ := s
  simp only [qeE9] at hI
  have hI0 := hI
  simp only [qQ9] at hr
  rcases iteP hr with ⟨h1, hr⟩ | ⟨h1, hr⟩
  obtain ⟨x1, h2, x2, h3, x3, h4, hr⟩ := bs3 hr
  have h2a := eq_true (qa9 h2).1
  have h2b : (s9 < (n0 : Int)) = True := eq_true (by have hb : s9 < (o0.length : Int) := (qa9 h2).2.1; omega)
  have h2c := (qa9 h2).2.2
  have h3a := eq_true (qa9 h3).1
  have h3b : (s8 < (n0 : Int)) = True := eq_true (by have hb : s8 < (o0.length : Int) := (qa9 h3).2.1; omega)
  have h3c := (qa9 h3).2.2
  have h4a := eq_true (qa9 h4).1
  have h4b : (s9 < (n0 : Int)) = True := eq_true (by have hb : s9 < ((o0.set (s8).toNat x1).length : Int) := (qa9 h4).2.1; simp only [llA, lrA] at hb; omega)
  have h4c := (qa9 h4).2.2
  obtain rfl := oiA hr
  refine ⟨⟨(), ?_⟩, (show ((o0.set (s8).toNat x1).set (s9).toNat x2).length = n0 by first | assumption | (simp only [llA, lrA]; first | done | assumption | omega) | omega)⟩
  rotate_left
  obtain rfl := oiA hr
  refine xe_of ⟨(), rfl, (show o0.length = n0 by first | assumption | (simp only [llA, lrA]; first | done | assumption | omega) | omega)⟩ ?_
  rotate_left
  all_goals (simp +decide only [go_sem, qcv9, qpx9, *])
theorem qeY9 {s1 : Int} {s2 : Int} {o0 : List Bind} {g1 : AHeap} {v0 : Nat} {n0 : Nat} {g2 : AHeap} (hln0 : o0.length = n0) {r : (List Bind)} (hr : qbj9 s1 s2 o0 = some r) : Lim C 126 [.ref g1.length v0 0 n0, PI s1, PI s2, .fn 84 []] (g1 ++ (.row false v0 2 (rowP qc9 o0) :: g2)) = some (resOf [], (g1 ++ (.row false v0 2 (rowP qc9 r) :: g2))) ∧ r.length = n0 := by
  simp only [qbj9] at hr
  obtain ⟨x4, h1, hr⟩ := bsome hr
  obtain ⟨q1, h1L, h1X⟩ := (qic9 (g1 := g1) (v0 := v0) (n0 := n0) (g2 := g2)).L (g := ()) h1 (show o0.length = n0 by first | assumption | (simp only [llA, lrA]; first | done | assumption | omega) | omega)
  obtain ⟨x5, x6, x7⟩ := x4
  try dsimp only at hr
  obtain ⟨⟨⟩, rfl, h1l0⟩ := h1X
  simp only [qcv9, go_sem] at h1L
  try simp only [hln0] at h1L
  obtain rfl := oiA hr
  refine ⟨run_L is126 (nbA rfl) ?_, (show x7.length = n0 by first | assumption | (simp only [llA, lrA]; first | done | assumption | omega) | omega)⟩
  rotate_left
  all_goals (simp +decide only [go_sem, c126, *])
def qog9 : ACode := .seq (.seq (.reg [] [] [.M 107 12, .M 108 2, .K 109 (.bin .lss (.tmp 107) (.tmp 108))]) (.cond (.tmp 109) (some 109) (.skip) (.exit 6))) (.seq (.block 7 21268296969665970819914479276526665728 (.seq (.seq (.reg [] [] [.M 112 3, .M 113 0, .M 114 12, ⟨some (115, false), .ix 2 (.tmp 113) (.tmp 114), none, true, false⟩, ⟨some (116, false), .load (some 2) (.tmp 115), none, true, false⟩, .M 117 0, .M 118 12, .T 119 (.bin .sub (.tmp 118) (cI 1)), ⟨some (120, false), .ix 2 (.tmp 117) (.tmp 119), none, true, false⟩, ⟨some (121, false), .load (some 2) (.tmp 120), none, true, false⟩, ⟨some (122, false), .callV (.tmp 112) [.tmp 116, .tmp 121], none, true, false⟩, .T 123 (.bin .lss (.tmp 122) (cI 0)), .K 124 (.not (.tmp 123))]) (.cond (.tmp 124) (some 124) (.exit 6) (.skip))) (.reg [] [] [.M 125 0, .M 126 12, .M 127 0, .M 128 12, .T 129 (.bin .sub (.tmp 128) (cI 1)), .M 130 0, .M 131 12, .T 132 (.bin .sub (.tmp 131) (cI 1)), ⟨some (133, false), .ix 2 (.tmp 130) (.tmp 132), none, true, false⟩, ⟨some (134, false), .load (some 2) (.tmp 133), none, true, false⟩, .M 135 0, .M 136 12, ⟨some (137, false), .ix 2 (.tmp 135) (.tmp 136), none, true, false⟩, ⟨some (138, false), .load (some 2) (.tmp 137), none, true, false⟩, ⟨some (139, false), .ix 2 (.tmp 125) (.tmp 126), none, true, false⟩, ⟨none, .store 2 (.tmp 139) (.tmp 134), none, false, false⟩, ⟨some (140, false), .ix 2 (.tmp 127) (.tmp 129), none, true, false⟩, ⟨none, .store 2 (.tmp 140) (.tmp 138), none, false, false⟩]))) (.reg [] [] [.M 110 12, .T 111 (.bin .add (.tmp 110) (cI 1)), .N 12 111]))
def qov9 : ACode := .seq (.seq (.reg [] [] [.M 68 11, .K 69 (.bin .geq (.tmp 68) (cI 1))]) (.cond (.tmp 69) (some 69) (.skip) (.exit 4))) (.seq (.block 5 19343403409644425500950528 (.seq (.seq (.reg [] [] [.M 72 3, .M 73 0, .M 74 11, ⟨some (75, false), .ix 2 (.tmp 73) (.tmp 74), none, true, false⟩, ⟨some (76, false), .load (some 2) (.tmp 75), none, true, false⟩, .M 77 0, .M 78 11, .T 79 (.bin .sub (.tmp 78) (cI 1)), ⟨some (80, false), .ix 2 (.tmp 77) (.tmp 79), none, true, false⟩, ⟨some (81, false), .load (some 2) (.tmp 80), none, true, false⟩, ⟨some (82, false), .callV (.tmp 72) [.tmp 76, .tmp 81], none, true, false⟩, .T 83 (.bin .lss (.tmp 82) (cI 0)), .K 84 (.not (.tmp 83))]) (.cond (.tmp 84) (some 84) (.exit 4) (.skip))) (.reg [] [] [.M 85 0, .M 86 11, .M 87 0, .M 88 11, .T 89 (.bin .sub (.tmp 88) (cI 1)), .M 90 0, .M 91 11, .T 92 (.bin .sub (.tmp 91) (cI 1)), ⟨some (93, false), .ix 2 (.tmp 90) (.tmp 92), none, true, false⟩, ⟨some (94, false), .load (some 2) (.tmp 93), none, true, false⟩, .M 95 0, .M 96 11, ⟨some (97, false), .ix 2 (.tmp 95) (.tmp 96), none, true, false⟩, ⟨some (98, false), .load (some 2) (.tmp 97), none, true, false⟩, ⟨some (99, false), .ix 2 (.tmp 85) (.tmp 86), none, true, false⟩, ⟨none, .store 2 (.tmp 99) (.tmp 94), none, false, false⟩, ⟨some (100, false), .ix 2 (.tmp 87) (.tmp 89), none, true, false⟩, ⟨none, .store 2 (.tmp 100) (.tmp 98), none, false, false⟩]))) (.reg [] [] [.M 70 11, .T 71 (.bin .sub (.tmp 70) (cI 1)), .N 11 71]))
def qoP9 : ACode := .seq (.seq (.reg [] [] [.M 19 9, .M 20 2, .T 21 (.bin .lss (.tmp 19) (.tmp 20)), .M 22 21, .MG 23 22 true 3, .MG 24 22 true 0, .MG 25 22 true 9, ⟨some (26, false), .ix 2 (.tmp 24) (.tmp 25), some (22, true), true, false⟩, ⟨some (27, false), .load (some 2) (.tmp 26), some (22, true), true, false⟩, .MG 28 22 true 0, .MG 29 22 true 9, .TG 30 22 true (.bin .sub (.tmp 29) (cI 1)), ⟨some (31, false), .ix 2 (.tmp 28) (.tmp 30), some (22, true), true, false⟩, ⟨some (32, false), .load (some 2) (.tmp 31), some (22, true), true, false⟩, ⟨some (33, false), .callV (.tmp 23) [.tmp 27, .tmp 32], some (22, true), true, false⟩, .TG 34 22 true (.bin .lss (.tmp 33) (cI 0)), .TG 35 22 true (.not (.tmp 34)), .K 36 (.pick (.tmp 22) (.tmp 35) (.const (.bool false)))]) (.cond (.tmp 36) (some 36) (.skip) (.exit 2))) (.block 3 68719476736 (.reg [] [] [.M 37 9, .T 38 (.bin .add (.tmp 37) (cI 1)), .N 9 38]))
def qoB9 : ACode := .seq (.seq (.reg [] [] [.M 15 10, .K 16 (.bin .lss (.tmp 15) (cI 5))]) (.cond (.tmp 16) (some 16) (.skip) (.exit 0))) (.seq (.block 1 21268317252094917911888073248812898304 (.seq (.block 2 68719542272 (.loop qoP9)) (.seq (.seq (.reg [] [] [.M 39 9, .M 40 2, .K 41 (.bin .eql (.tmp 39) (.tmp 40))]) (.cond (.tmp 41) (some 41) (.seq (.reg [] [] [.K 8 (.mv (.const (.bool true)))]) (.ret)) (.skip))) (.seq (.seq (.reg [] [] [.M 42 2, .M 43 1, .T 44 (.bin .sub (.tmp 42) (.tmp 43)), .K 45 (.bin .lss (.tmp 44) (cI 50))]) (.cond (.tmp 45) (some 45) (.seq (.reg [] [] [.K 8 (.mv (.const (.bool false)))]) (.ret)) (.skip))) (.seq (.reg [] [] [.M 46 0, .M 47 9, .M 48 0, .M 49 9, .T 50 (.bin .sub (.tmp 49) (cI 1)), .M 51 0, .M 52 9, .T 53 (.bin .sub (.tmp 52) (cI 1)), ⟨some (54, false), .ix 2 (.tmp 51) (.tmp 53), none, true, false⟩, ⟨some (55, false), .load (some 2) (.tmp 54), none, true, false⟩, .M 56 0, .M 57 9, ⟨some (58, false), .ix 2 (.tmp 56) (.tmp 57), none, true, false⟩, ⟨some (59, false), .load (some 2) (.tmp 58), none, true, false⟩, ⟨some (60, false), .ix 2 (.tmp 46) (.tmp 47), none, true, false⟩, ⟨none, .store 2 (.tmp 60) (.tmp 55), none, false, false⟩, ⟨some (61, false), .ix 2 (.tmp 48) (.tmp 50), none, true, false⟩, ⟨none, .store 2 (.tmp 61) (.tmp 59), none, false, false⟩]) (.seq (.seq (.reg [] [] [.M 62 9, .M 63 1, .T 64 (.bin .sub (.tmp 62) (.tmp 63)), .K 65 (.bin .geq (.tmp 64) (cI 2))]) (.cond (.tmp 65) (some 65) (.seq (.reg [] [] [.M 66 9, .T 67 (.bin .sub (.tmp 66) (cI 1)), .N 11 67]) (.block 4 19343440303170025034942464 (.loop qov9))) (.skip))) (.seq (.reg [] [] [.M 101 2, .M 102 9, .T 103 (.bin .sub (.tmp 101) (.tmp 102)), .K 104 (.bin .geq (.tmp 103) (cI 2))]) (.cond (.tmp 104) (some 104) (.seq (.reg [] [] [.M 105 9, .T 106 (.bin .add (.tmp 105) (cI 1)), .N 12 106]) (.block 6 21268317252094917911888073248812898304 (.loop qog9))) (.skip))))))))) (.reg [] [] [.M 17 10, .T 18 (.bin .add (.tmp 17) (cI 1)), .N 10 18]))
def c127 : ACode := .seq (.reg [] [] [.K 8 (.mv (.const (.bool false)))]) (.seq (.reg [] [] [.M 13 1, .T 14 (.bin .add (.tmp 13) (cI 1)), .N 9 14]) (.seq (.seq (.reg [] [] [.K 10 (.mv (cI 0))]) (.block 0 21268317252094917911888073248812898304 (.loop qoB9))) (.seq (.reg [] [] [.K 8 (.mv (.const (.bool false)))]) (.ret))))
theorem is127 : IsF C 127 141 21268317252094917911888073248812900111 c127 [.tmp 8] := ⟨⟨Tryd.f127, _, C_P ▸ Tryd.func127, rfl, rfl, rfl, by kernel_rfl, rfl⟩⟩
def qbr9 (s1 : Int) (s2 : Int) (s9 : Int) (s10 : Int) (g1 : AHeap) (v0 : Nat) (n0 : Nat) (g2 : AHeap) : Int × (List Bind) → AHeap → St := fun (s12, o0) gt => ⟨[(0, .ref g1.length v0 0 n0), (1, PI s1), (2, PI s2), (3, .fn 84 []), (8, PB false), (9, PI s9), (10, PI s10), (12, PI s12)], (g1 ++ (.row false v0 2 (rowP qc9 o0) :: (g2 ++ gt)))⟩
def qdp9 (s1 : Int) (s2 : Int) (s9 : Int) (s10 : Int) (g1 : AHeap) (v0 : Nat) (n0 : Nat) (g2 : AHeap) : Int × (List Bind) → Prop := fun (s12, o0) => o0.length = n0
def qfx9 (s1 : Int) (s2 : Int) (s9 : Int) (s10 : Int) (g1 : AHeap) (v0 : Nat) (n0 : Nat) (g2 : AHeap) : ((List Bind)) → AExit × St → Prop := fun o0 q => ∃ d12 : PV, ∃ h1 : AHeap, q = (.exit 6, ⟨[(0, .ref g1.length v0 0 n0), (1, PI s1), (2, PI s2), (3, .fn 84 []), (8, PB false), (9, PI s9), (10, PI s10), (12, d12)], (g1 ++ (.row false v0 2 (rowP qc9 o0) :: (g2 ++ h1)))⟩) ∧ o0.length = n0
theorem qdj9 {s1 : Int} {s2 : Int} {s9 : Int} {s10 : Int} {g1 : AHeap} {v0 : Nat} {n0 : Nat} {g2 : AHeap} : SimI C 21268317252094917911888073248812900111 qog9 (qdp9 s1 s2 s9 s10 g1 v0 n0 g2) (qx9 s1 s2 s9 s10) (qbr9 s1 s2 s9 s10 g1 v0 n0 g2) (qfx9 s1 s2 s9 s10 g1 v0 n0 g2) := by
  intro s g r hI hr
  obtain ⟨s12, o0⟩ := s
  have ⟨gt, hg0⟩ : ∃ y, y = g := ⟨_, rfl⟩
  subst hg0
  simp only [qdp9] at hI
  have hI0 := hI
  simp only [qx9] at hr
  rcases iteP hr with ⟨h1, hr⟩ | ⟨h1, hr⟩
  obtain ⟨x26, h2, x27, h3, x28, h4, hr⟩ := bs3 hr
  have h2a := eq_true (qa9 h2).1
  have h2b : (s12 < (n0 : Int)) = True := eq_true (by have hb : s12 < (o0.length : Int) := (qa9 h2).2.1; omega)
  have h2c := (qa9 h2).2.2
  have h3a := eq_true (qa9 h3).1
  have h3b : ((w64 (s12 - 1)) < (n0 : Int)) = True := eq_true (by have hb : (w64 (s12 - 1)) < (o0.length : Int) := (qa9 h3).2.1; omega)
  have h3c := (qa9 h3).2.2
  have h4k := fun h => (qv9 h4).o rfl rfl rfl (h := h) (args := [.ag [PI x26.Var, .d (.rd (x26.T.map intD))], .ag [PI x27.Var, .d (.rd (x27.T.map intD))]]) rfl
  try simp only [go_sem] at h4k
  rcases iteP hr with ⟨h5, hr⟩ | ⟨h5, hr⟩
  obtain ⟨x29, h6, hr⟩ := bsome hr
  have h6a := eq_true (qa9 h6).1
  have h6b : ((w64 (s12 - 1)) < (n0 : Int)) = True := eq_true (by have hb : (w64 (s12 - 1)) < ((o0.set (s12).toNat x27).length : Int) := (qa9 h6).2.1; simp only [llA, lrA] at hb; omega)
  have h6c := (qa9 h6).2.2
  obtain rfl := oiA hr
  refine ⟨⟨gt, ?_⟩, (show ((o0.set (s12).toNat x27).set (w64 (s12 - 1)).toNat x26).length = n0 by first | assumption | (simp only [llA, lrA]; first | done | assumption | omega) | omega)⟩
  rotate_left
  obtain rfl := oiA hr
  refine xe_of ⟨PI s12, gt, rfl, (show o0.length = n0 by first | assumption | (simp only [llA, lrA]; first | done | assumption | omega) | omega)⟩ ?_
  rotate_left
  obtain rfl := oiA hr
  refine xe_of ⟨PI s12, gt, rfl, (show o0.length = n0 by first | assumption | (simp only [llA, lrA]; first | done | assumption | omega) | omega)⟩ ?_
  rotate_left
  all_goals (simp +decide only [go_sem, qbr9, qog9, *])
def qcd9 (s1 : Int) (s2 : Int) (s9 : Int) (s10 : Int) (g1 : AHeap) (v0 : Nat) (n0 : Nat) (g2 : AHeap) : Int × (List Bind) → AHeap → St := fun (s11, o0) gt => ⟨[(0, .ref g1.length v0 0 n0), (1, PI s1), (2, PI s2), (3, .fn 84 []), (8, PB false), (9, PI s9), (10, PI s10), (11, PI s11)], (g1 ++ (.row false v0 2 (rowP qc9 o0) :: (g2 ++ gt)))⟩
def qdn9 (s1 : Int) (s2 : Int) (s9 : Int) (s10 : Int) (g1 : AHeap) (v0 : Nat) (n0 : Nat) (g2 : AHeap) : Int × (List Bind) → Prop := fun (s11, o0) => o0.length = n0
def qfy9 (s1 : Int) (s2 : Int) (s9 : Int) (s10 : Int) (g1 : AHeap) (v0 : Nat) (n0 : Nat) (g2 : AHeap) : ((List Bind)) → AExit × St → Prop := fun o0 q => ∃ d11 : PV, ∃ h1 : AHeap, q = (.exit 4, ⟨[(0, .ref g1.length v0 0 n0), (1, PI s1), (2, PI s2), (3, .fn 84 []), (8, PB false), (9, PI s9), (10, PI s10), (11, d11)], (g1 ++ (.row false v0 2 (rowP qc9 o0) :: (g2 ++ h1)))⟩) ∧ o0.length = n0
theorem qfG9 {s1 : Int} {s2 : Int} {s9 : Int} {s10 : Int} {g1 : AHeap} {v0 : Nat} {n0 : Nat} {g2 : AHeap} : SimI C 21268317252094917911888073248812900111 qov9 (qdn9 s1 s2 s9 s10 g1 v0 n0 g2) (qI9 s1 s2 s9 s10) (qcd9 s1 s2 s9 s10 g1 v0 n0 g2) (qfy9 s1 s2 s9 s10 g1 v0 n0 g2) := by
  intro s g r hI hr
  obtain ⟨s11, o0⟩ := s
  have ⟨gt, hg0⟩ : ∃ y, y = g := ⟨_, rfl⟩
  subst hg0
  simp only [qdn9] at hI
  have hI0 := hI
  simp only [qI9] at hr
  rcases iteP hr with ⟨h1, hr⟩ | ⟨h1, hr⟩
  obtain ⟨x10, h2, x11, h3, x12, h4, hr⟩ := bs3 hr
  have h2a := eq_true (qa9 h2).1
  have h2b : (s11 < (n0 : Int)) = True := eq_true (by have hb : s11 < (o0.length : Int) := (qa9 h2).2.1; omega)
  have h2c := (qa9 h2).2.2
  have h3a := eq_true (qa9 h3).1
  have h3b : ((w64 (s11 - 1)) < (n0 : Int)) = True := eq_true (by have hb : (w64 (s11 - 1)) < (o0.length : Int) := (qa9 h3).2.1; omega)
  have h3c := (qa9 h3).2.2
  have h4k := fun h => (qv9 h4).o rfl rfl rfl (h := h) (args := [.ag [PI x10.Var, .d (.rd (x10.T.map intD))], .ag [PI x11.Var, .d (.rd (x11.T.map intD))]]) rfl
  try simp only [go_sem] at h4k
  rcases iteP hr with ⟨h5, hr⟩ | ⟨h5, hr⟩
  obtain ⟨x13, h6, hr⟩ := bsome hr
  have h6a := eq_true (qa9 h6).1
  have h6b : ((w64 (s11 - 1)) < (n0 : Int)) = True := eq_true (by have hb : (w64 (s11 - 1)) < ((o0.set (s11).toNat x11).length : Int) := (qa9 h6).2.1; simp only [llA, lrA] at hb; omega)
  have h6c := (qa9 h6).2.2
  obtain rfl := oiA hr
  refine ⟨⟨gt, ?_⟩, (show ((o0.set (s11).toNat x11).set (w64 (s11 - 1)).toNat x10).length = n0 by first | assumption | (simp only [llA, lrA]; first | done | assumption | omega) | omega)⟩
  rotate_left
  obtain rfl := oiA hr
  refine xe_of ⟨PI s11, gt, rfl, (show o0.length = n0 by first | assumption | (simp only [llA, lrA]; first | done | assumption | omega) | omega)⟩ ?_
  rotate_left
  obtain rfl := oiA hr
  refine xe_of ⟨PI s11, gt, rfl, (show o0.length = n0 by first | assumption | (simp only [llA, lrA]; first | done | assumption | omega) | omega)⟩ ?_
  rotate_left
  all_goals (simp +decide only [go_sem, qcd9, qov9, *])
def qbs9 (s1 : Int) (s2 : Int) (s10 : Int) (o0 : List Bind) (g1 : AHeap) (v0 : Nat) (n0 : Nat) (g2 : AHeap) : Int → AHeap → St := fun s9 gt => ⟨[(0, .ref g1.length v0 0 n0), (1, PI s1), (2, PI s2), (3, .fn 84 []), (8, PB false), (9, PI s9), (10, PI s10)], (g1 ++ (.row false v0 2 (rowP qc9 o0) :: (g2 ++ gt)))⟩
def qdq9 (s1 : Int) (s2 : Int) (s10 : Int) (o0 : List Bind) (g1 : AHeap) (v0 : Nat) (n0 : Nat) (g2 : AHeap) : Int → Prop := fun s9 => o0.length = n0
def qfv9 (s1 : Int) (s2 : Int) (s10 : Int) (o0 : List Bind) (g1 : AHeap) (v0 : Nat) (n0 : Nat) (g2 : AHeap) : Int → AExit × St → Prop := fun s9 q => ∃ g, q = (.exit 2, qbs9 s1 s2 s10 o0 g1 v0 n0 g2 s9 g)
theorem qfH9 {s1 : Int} {s2 : Int} {s10 : Int} {o0 : List Bind} {g1 : AHeap} {v0 : Nat} {n0 : Nat} {g2 : AHeap} : SimI C 21268317252094917911888073248812900111 qoP9 (qdq9 s1 s2 s10 o0 g1 v0 n0 g2) (qC9 s1 s2 s10 o0) (qbs9 s1 s2 s10 o0 g1 v0 n0 g2) (qfv9 s1 s2 s10 o0 g1 v0 n0 g2) := by
  intro s g r hI hr
  have ⟨s9, hs0⟩ : ∃ y, y = s := ⟨_, rfl⟩
  subst hs0
  have ⟨gt, hg0⟩ : ∃ y, y = g := ⟨_, rfl⟩
  subst hg0
  simp only [qdq9] at hI
  have hI0 := hI
  simp only [qC9] at hr
  rcases iteP hr with ⟨h1, hr⟩ | ⟨h1, hr⟩
  obtain ⟨x1, h2, x2, h3, x3, h4, hr⟩ := bs3 hr
  have h2a := eq_true (qa9 h2).1
  have h2b : (s9 < (n0 : Int)) = True := eq_true (by have hb : s9 < (o0.length : Int) := (qa9 h2).2.1; omega)
  have h2c := (qa9 h2).2.2
  have h3a := eq_true (qa9 h3).1
  have h3b : ((w64 (s9 - 1)) < (n0 : Int)) = True := eq_true (by have hb : (w64 (s9 - 1)) < (o0.length : Int) := (qa9 h3).2.1; omega)
  have h3c := (qa9 h3).2.2
  have h4k := fun h => (qv9 h4).o rfl rfl rfl (h := h) (args := [.ag [PI x1.Var, .d (.rd (x1.T.map intD))], .ag [PI x2.Var, .d (.rd (x2.T.map intD))]]) rfl
  try simp only [go_sem] at h4k
  rcases iteP hr with ⟨h5, hr⟩ | ⟨h5, hr⟩
  obtain rfl := oiA hr
  refine xe_of ⟨gt, rfl⟩ ?_
  rotate_left
  obtain rfl := oiA hr
  refine ⟨⟨gt, ?_⟩, (show o0.length = n0 by first | assumption | (simp only [llA, lrA]; first | done | assumption | omega) | omega)⟩
  rotate_left
  obtain rfl := oiA hr
  refine xe_of ⟨gt, rfl⟩ ?_
  rotate_left
  all_goals (simp +decide only [go_sem, qbs9, qoP9, *])
def qZ9 (s1 : Int) (s2 : Int) (g1 : AHeap) (v0 : Nat) (n0 : Nat) (g2 : AHeap) : Int × Int × (List Bind) → AHeap → St := fun (s9, s10, o0) gt => ⟨[(0, .ref g1.length v0 0 n0), (1, PI s1), (2, PI s2), (3, .fn 84 []), (8, PB false), (9, PI s9), (10, PI s10)], (g1 ++ (.row false v0 2 (rowP qc9 o0) :: (g2 ++ gt)))⟩
def qdk9 (s1 : Int) (s2 : Int) (g1 : AHeap) (v0 : Nat) (n0 : Nat) (g2 : AHeap) : Int × Int × (List Bind) → Prop := fun (s9, s10, o0) => o0.length = n0
def qfC9 (s1 : Int) (s2 : Int) (g1 : AHeap) (v0 : Nat) (n0 : Nat) (g2 : AHeap) : ((Bool × (List Bind)) ⊕ (Int × Int × (List Bind))) → AExit × St → Prop
  | .inl r, q => XL C [.tmp 8] (fun vs hp => ∃ hz : AHeap, vs = [PB r.1] ∧ hp = (g1 ++ (.row false v0 2 (rowP qc9 r.2) :: (g2 ++ hz))) ∧ r.2.length = n0) q
  | .inr (s9, s10, o0), q => ∃ g, q = (.exit 0, qZ9 s1 s2 g1 v0 n0 g2 (s9, s10, o0) g) ∧ o0.length = n0
theorem qfw9 {s1 : Int} {s2 : Int} {g1 : AHeap} {v0 : Nat} {n0 : Nat} {g2 : AHeap} : SimI C 21268317252094917911888073248812900111 qoB9 (qdk9 s1 s2 g1 v0 n0 g2) (qH9 s1 s2) (qZ9 s1 s2 g1 v0 n0 g2) (qfC9 s1 s2 g1 v0 n0 g2) := by
  intro s g r hI hr
  obtain ⟨s9, s10, o0⟩ := s
  have ⟨gt, hg0⟩ : ∃ y, y = g := ⟨_, rfl⟩
  subst hg0
  simp only [qdk9] at hI
  have hI0 := hI
  simp only [qH9] at hr
  rcases iteP hr with ⟨h1, hr⟩ | ⟨h1, hr⟩
  obtain ⟨x4, h2, hr⟩ := bsome hr
  obtain ⟨q2, h2L, h2X⟩ := (qfH9 (g1 := g1) (v0 := v0) (n0 := n0) (g2 := (g2 ++ gt))).L (g := []) h2 (show o0.length = n0 by first | assumption | (simp only [llA, lrA]; first | done | assumption | omega) | omega)
  have ⟨x5, hq2⟩ : ∃ y, y = x4 := ⟨_, rfl⟩
  subst hq2
  try dsimp only at hr
  obtain ⟨z6, rfl⟩ := h2X
  simp only [qbs9, go_sem] at h2L
  try simp only [hI0] at h2L
  rcases iteP hr with ⟨h3, hr⟩ | ⟨h3, hr⟩
  obtain rfl := oiA hr
  refine xl_of ⟨(gt ++ z6), rfl, rfl, (show o0.length = n0 by first | assumption | (simp only [llA, lrA]; first | done | assumption | omega) | omega)⟩ ?_
  rotate_left
  rcases iteP hr with ⟨h4, hr⟩ | ⟨h4, hr⟩
  obtain rfl := oiA hr
  refine xl_of ⟨(gt ++ z6), rfl, rfl, (show o0.length = n0 by first | assumption | (simp only [llA, lrA]; first | done | assumption | omega) | omega)⟩ ?_
  rotate_left
  obtain ⟨x7, h5, x8, h6, x9, h7, hr⟩ := bs3 hr
  have h5a := eq_true (qa9 h5).1
  have h5b : ((w64 (x5 - 1)) < (n0 : Int)) = True := eq_true (by have hb : (w64 (x5 - 1)) < (o0.length : Int) := (qa9 h5).2.1; omega)
  have h5c := (qa9 h5).2.2
  have h6a := eq_true (qa9 h6).1
  have h6b : (x5 < (n0 : Int)) = True := eq_true (by have hb : x5 < (o0.length : Int) := (qa9 h6).2.1; omega)
  have h6c := (qa9 h6).2.2
  have h7a := eq_true (qa9 h7).1
  have h7b : ((w64 (x5 - 1)) < (n0 : Int)) = True := eq_true (by have hb : (w64 (x5 - 1)) < ((o0.set (x5).toNat x7).length : Int) := (qa9 h7).2.1; simp only [llA, lrA] at hb; omega)
  have h7c := (qa9 h7).2.2
  rcases iteP hr with ⟨h8, hr⟩ | ⟨h8, hr⟩
  obtain ⟨x14, h9, hr⟩ := bsome hr
  obtain ⟨q9, h9L, h9X⟩ := (qfG9 (g1 := g1) (v0 := v0) (n0 := n0) (g2 := (g2 ++ (gt ++ z6)))).L (g := []) h9 (show ((o0.set (x5).toNat x7).set (w64 (x5 - 1)).toNat x8).length = n0 by first | assumption | (simp only [llA, lrA]; first | done | assumption | omega) | omega)
  have ⟨x15, hq9⟩ : ∃ y, y = x14 := ⟨_, rfl⟩
  subst hq9
  try dsimp only at hr
  obtain ⟨z16, z17, rfl, h9l0⟩ := h9X
  simp only [qcd9, go_sem] at h9L
  try simp only [hI0] at h9L
  rcases iteP hr with ⟨h10, hr⟩ | ⟨h10, hr⟩
  obtain ⟨x22, h11, hr⟩ := bsome hr
  obtain ⟨q11, h11L, h11X⟩ := (qdj9 (g1 := g1) (v0 := v0) (n0 := n0) (g2 := (g2 ++ (gt ++ (z6 ++ z17))))).L (g := []) h11 (show x15.length = n0 by first | assumption | (simp only [llA, lrA]; first | done | assumption | omega) | omega)
  have ⟨x23, hq11⟩ : ∃ y, y = x22 := ⟨_, rfl⟩
  subst hq11
  try dsimp only at hr
  obtain ⟨z24, z25, rfl, h11l0⟩ := h11X
  simp only [qbr9, go_sem] at h11L
  try simp only [hI0] at h11L
  obtain rfl := oiA hr
  refine ⟨⟨(gt ++ (z6 ++ (z17 ++ z25))), ?_⟩, (show x23.length = n0 by first | assumption | (simp only [llA, lrA]; first | done | assumption | omega) | omega)⟩
  rotate_left
  obtain rfl := oiA hr
  refine ⟨⟨(gt ++ (z6 ++ z17)), ?_⟩, (show x15.length = n0 by first | assumption | (simp only [llA, lrA]; first | done | assumption | omega) | omega)⟩
  rotate_left
  rcases iteP hr with ⟨h12, hr⟩ | ⟨h12, hr⟩
  obtain ⟨x30, h13, hr⟩ := bsome hr
  obtain ⟨q13, h13L, h13X⟩ := (qdj9 (g1 := g1) (v0 := v0) (n0 := n0) (g2 := (g2 ++ (gt ++ z6)))).L (g := []) h13 (show ((o0.set (x5).toNat x7).set (w64 (x5 - 1)).toNat x8).length = n0 by first | assumption | (simp only [llA, lrA]; first | done | assumption | omega) | omega)
  have ⟨x31, hq13⟩ : ∃ y, y = x30 := ⟨_, rfl⟩
  subst hq13
  try dsimp only at hr
  obtain ⟨z32, z33, rfl, h13l0⟩ := h13X
  simp only [qbr9, go_sem] at h13L
  try simp only [hI0] at h13L
  obtain rfl := oiA hr
  refine ⟨⟨(gt ++ (z6 ++ z33)), ?_⟩, (show x31.length = n0 by first | assumption | (simp only [llA, lrA]; first | done | assumption | omega) | omega)⟩
  rotate_left
  obtain rfl := oiA hr
  refine ⟨⟨(gt ++ z6), ?_⟩, (show ((o0.set (x5).toNat x7).set (w64 (x5 - 1)).toNat x8).length = n0 by first | assumption | (simp only [llA, lrA]; first | done | assumption | omega) | omega)⟩
  rotate_left
  obtain rfl := oiA hr
  refine xe_of ⟨gt, rfl, (show o0.length = n0 by first | assumption | (simp only [llA, lrA]; first | done | assumption | omega) | omega)⟩ ?_
  rotate_left
  all_goals (simp +decide only [go_sem, qZ9, qoB9, *])
theorem qdu9 {s1 : Int} {s2 : Int} {o0 : List Bind} {g1 : AHeap} {v0 : Nat} {n0 : Nat} {g2 : AHeap} (hln0 : o0.length = n0) {r : Bool × (List Bind)} (hr : qN9 s1 s2 o0 = some r) : ∃ hz : AHeap, Lim C 127 [.ref g1.length v0 0 n0, PI s1, PI s2, .fn 84 []] (g1 ++ (.row false v0 2 (rowP qc9 o0) :: g2)) = some (resOf [PB r.1], (g1 ++ (.row false v0 2 (rowP qc9 r.2) :: (g2 ++ hz)))) ∧ r.2.length = n0 := by
  simp only [qN9] at hr
  obtain ⟨x34, h1, hr⟩ := bsome hr
  obtain ⟨q1, h1L, h1X⟩ := (qfw9 (g1 := g1) (v0 := v0) (n0 := n0) (g2 := g2)).L (g := []) h1 (show o0.length = n0 by first | assumption | (simp only [llA, lrA]; first | done | assumption | omega) | omega)
  rcases x34 with x35 | ⟨x36, x37, x38⟩
  try dsimp only at hr
  obtain ⟨st1, _, _, rfl, h1R, y2, rfl, rfl, h1f0⟩ := h1X
  simp only [qZ9, go_sem] at h1L
  try simp only [hln0] at h1L
  obtain rfl := oiA hr
  refine ⟨y2, run_L is127 (nbA rfl) ?_, h1f0⟩
  rotate_left
  try dsimp only at hr
  obtain ⟨z39, rfl, h1l0⟩ := h1X
  simp only [qZ9, go_sem] at h1L
  try simp only [hln0] at h1L
  obtain rfl := oiA hr
  refine ⟨z39, run_L is127 (nbA rfl) ?_, (show x38.length = n0 by first | assumption | (simp only [llA, lrA]; first | done | assumption | omega) | omega)⟩
  rotate_left
  all_goals (simp +decide only [go_sem, c127, *])
def qpr9 : ACode := .seq (.seq (.reg [] [] [.M 123 12, .M 124 13, .T 125 (.bin .leq (.tmp 123) (.tmp 124)), .M 126 125, .MG 127 126 true 4, .MG 128 126 true 0, .MG 129 126 true 13, ⟨some (130, false), .ix 2 (.tmp 128) (.tmp 129), some (126, true), true, false⟩, ⟨some (131, false), .load (some 2) (.tmp 130), some (126, true), true, false⟩, .MG 132 126 true 0, .MG 133 126 true 1, ⟨some (134, false), .ix 2 (.tmp 132) (.tmp 133), some (126, true), true, false⟩, ⟨some (135, false), .load (some 2) (.tmp 134), some (126, true), true, false⟩, ⟨some (136, false), .callV (.tmp 127) [.tmp 131, .tmp 135], some (126, true), true, false⟩, .TG 137 126 true (.bin .lss (.tmp 136) (cI 0)), .TG 138 126 true (.not (.tmp 137)), .K 139 (.pick (.tmp 126) (.tmp 138) (.const (.bool false)))]) (.cond (.tmp 139) (some 139) (.skip) (.exit 8))) (.block 9 696898287454081973172991196020261297061888 (.reg [] [] [.M 140 13, .T 141 (.bin .sub (.tmp 140) (cI 1)), .N 13 141]))
def qpQ9 : ACode := .seq (.seq (.reg [] [] [.M 105 12, .M 106 13, .T 107 (.bin .leq (.tmp 105) (.tmp 106)), .M 108 107, .MG 109 108 true 4, .MG 110 108 true 0, .MG 111 108 true 12, ⟨some (112, false), .ix 2 (.tmp 110) (.tmp 111), some (108, true), true, false⟩, ⟨some (113, false), .load (some 2) (.tmp 112), some (108, true), true, false⟩, .MG 114 108 true 0, .MG 115 108 true 1, ⟨some (116, false), .ix 2 (.tmp 114) (.tmp 115), some (108, true), true, false⟩, ⟨some (117, false), .load (some 2) (.tmp 116), some (108, true), true, false⟩, ⟨some (118, false), .callV (.tmp 109) [.tmp 113, .tmp 117], some (108, true), true, false⟩, .TG 119 108 true (.bin .lss (.tmp 118) (cI 0)), .K 120 (.pick (.tmp 108) (.tmp 119) (.const (.bool false)))]) (.cond (.tmp 120) (some 120) (.skip) (.exit 6))) (.block 7 1329227995784915872903807060280344576 (.reg [] [] [.M 121 12, .T 122 (.bin .add (.tmp 121) (cI 1)), .N 12 122]))
def qpJ9 : ACode := .block 5 22997644815212700899624582372475683083386880 (.seq (.block 6 1329227995784915872903807060280344576 (.loop qpQ9)) (.seq (.block 8 696899616682077758088864099827321577406464 (.loop qpr9)) (.seq (.seq (.reg [] [] [.M 142 12, .M 143 13, .K 144 (.bin .gtr (.tmp 142) (.tmp 143))]) (.cond (.tmp 144) (some 144) (.exit 4) (.skip))) (.seq (.reg [] [] [.M 145 0, .M 146 12, .M 147 0, .M 148 13, .M 149 0, .M 150 13, ⟨some (151, false), .ix 2 (.tmp 149) (.tmp 150), none, true, false⟩, ⟨some (152, false), .load (some 2) (.tmp 151), none, true, false⟩, .M 153 0, .M 154 12, ⟨some (155, false), .ix 2 (.tmp 153) (.tmp 154), none, true, false⟩, ⟨some (156, false), .load (some 2) (.tmp 155), none, true, false⟩, ⟨some (157, false), .ix 2 (.tmp 145) (.tmp 146), none, true, false⟩, ⟨none, .store 2 (.tmp 157) (.tmp 152), none, false, false⟩, ⟨some (158, false), .ix 2 (.tmp 147) (.tmp 148), none, true, false⟩, ⟨none, .store 2 (.tmp 158) (.tmp 156), none, false, false⟩]) (.seq (.reg [] [] [.M 159 12, .T 160 (.bin .add (.tmp 159) (cI 1)), .N 12 160]) (.reg [] [] [.M 161 13, .T 162 (.bin .sub (.tmp 161) (cI 1)), .N 13 162]))))))
def qpj9 : ACode := .seq (.seq (.reg [] [] [.M 50 12, .M 51 13, .T 52 (.bin .leq (.tmp 50) (.tmp 51)), .M 53 52, .MG 54 53 true 4, .MG 55 53 true 0, .MG 56 53 true 13, ⟨some (57, false), .ix 2 (.tmp 55) (.tmp 56), some (53, true), true, false⟩, ⟨some (58, false), .load (some 2) (.tmp 57), some (53, true), true, false⟩, .MG 59 53 true 0, .MG 60 53 true 1, ⟨some (61, false), .ix 2 (.tmp 59) (.tmp 60), some (53, true), true, false⟩, ⟨some (62, false), .load (some 2) (.tmp 61), some (53, true), true, false⟩, ⟨some (63, false), .callV (.tmp 54) [.tmp 58, .tmp 62], some (53, true), true, false⟩, .TG 64 53 true (.bin .lss (.tmp 63) (cI 0)), .TG 65 53 true (.not (.tmp 64)), .K 66 (.pick (.tmp 53) (.tmp 65) (.const (.bool false)))]) (.cond (.tmp 66) (some 66) (.skip) (.exit 2))) (.block 3 73786976294838206464 (.reg [] [] [.M 67 13, .T 68 (.bin .sub (.tmp 67) (cI 1)), .N 13 68]))
def qoA9 : ACode := .seq (.seq (.reg [] [] [.M 32 12, .M 33 13, .T 34 (.bin .leq (.tmp 32) (.tmp 33)), .M 35 34, .MG 36 35 true 4, .MG 37 35 true 0, .MG 38 35 true 12, ⟨some (39, false), .ix 2 (.tmp 37) (.tmp 38), some (35, true), true, false⟩, ⟨some (40, false), .load (some 2) (.tmp 39), some (35, true), true, false⟩, .MG 41 35 true 0, .MG 42 35 true 1, ⟨some (43, false), .ix 2 (.tmp 41) (.tmp 42), some (35, true), true, false⟩, ⟨some (44, false), .load (some 2) (.tmp 43), some (35, true), true, false⟩, ⟨some (45, false), .callV (.tmp 36) [.tmp 40, .tmp 44], some (35, true), true, false⟩, .TG 46 35 true (.bin .lss (.tmp 45) (cI 0)), .K 47 (.pick (.tmp 35) (.tmp 46) (.const (.bool false)))]) (.cond (.tmp 47) (some 47) (.skip) (.exit 0))) (.block 1 140737488355328 (.reg [] [] [.M 48 12, .T 49 (.bin .add (.tmp 48) (cI 1)), .N 12 49]))
def c129 : ACode := .seq (.reg [] [] [.K 10 (.mv (cI 0)), .K 11 (.mv (.const (.bool false)))]) (.seq (.reg [] [] [.M 14 0, .M 15 1, .M 16 0, .M 17 3, .M 18 0, .M 19 3, ⟨some (20, false), .ix 2 (.tmp 18) (.tmp 19), none, true, false⟩, ⟨some (21, false), .load (some 2) (.tmp 20), none, true, false⟩, .M 22 0, .M 23 1, ⟨some (24, false), .ix 2 (.tmp 22) (.tmp 23), none, true, false⟩, ⟨some (25, false), .load (some 2) (.tmp 24), none, true, false⟩, ⟨some (26, false), .ix 2 (.tmp 14) (.tmp 15), none, true, false⟩, ⟨none, .store 2 (.tmp 26) (.tmp 21), none, false, false⟩, ⟨some (27, false), .ix 2 (.tmp 16) (.tmp 17), none, true, false⟩, ⟨none, .store 2 (.tmp 27) (.tmp 25), none, false, false⟩]) (.seq (.reg [] [] [.M 28 1, .T 29 (.bin .add (.tmp 28) (cI 1)), .M 30 2, .T 31 (.bin .sub (.tmp 30) (cI 1)), .N 12 29, .N 13 31]) (.seq (.block 0 140737488355328 (.loop qoA9)) (.seq (.block 2 73786976294838206464 (.loop qpj9)) (.seq (.seq (.reg [] [] [.M 69 12, .M 70 13, .K 71 (.bin .gtr (.tmp 69) (.tmp 70))]) (.cond (.tmp 71) (some 71) (.seq (.reg [] [] [.M 72 0, .M 73 13, .M 74 0, .M 75 1, .M 76 0, .M 77 1, ⟨some (78, false), .ix 2 (.tmp 76) (.tmp 77), none, true, false⟩, ⟨some (79, false), .load (some 2) (.tmp 78), none, true, false⟩, .M 80 0, .M 81 13, ⟨some (82, false), .ix 2 (.tmp 80) (.tmp 81), none, true, false⟩, ⟨some (83, false), .load (some 2) (.tmp 82), none, true, false⟩, ⟨some (84, false), .ix 2 (.tmp 72) (.tmp 73), none, true, false⟩, ⟨none, .store 2 (.tmp 84) (.tmp 79), none, false, false⟩, ⟨some (85, false), .ix 2 (.tmp 74) (.tmp 75), none, true, false⟩, ⟨none, .store 2 (.tmp 85) (.tmp 83), none, false, false⟩]) (.seq (.reg [] [] [.M 86 13, .N 10 86, .K 11 (.mv (.const (.bool true)))]) (.ret))) (.skip))) (.seq (.reg [] [] [.M 87 0, .M 88 12, .M 89 0, .M 90 13, .M 91 0, .M 92 13, ⟨some (93, false), .ix 2 (.tmp 91) (.tmp 92), none, true, false⟩, ⟨some (94, false), .load (some 2) (.tmp 93), none, true, false⟩, .M 95 0, .M 96 12, ⟨some (97, false), .ix 2 (.tmp 95) (.tmp 96), none, true, false⟩, ⟨some (98, false), .load (some 2) (.tmp 97), none, true, false⟩, ⟨some (99, false), .ix 2 (.tmp 87) (.tmp 88), none, true, false⟩, ⟨none, .store 2 (.tmp 99) (.tmp 94), none, false, false⟩, ⟨some (100, false), .ix 2 (.tmp 89) (.tmp 90), none, true, false⟩, ⟨none, .store 2 (.tmp 100) (.tmp 98), none, false, false⟩]) (.seq (.reg [] [] [.M 101 12, .T 102 (.bin .add (.tmp 101) (cI 1)), .N 12 102]) (.seq (.reg [] [] [.M 103 13, .T 104 (.bin .sub (.tmp 103) (cI 1)), .N 13 104]) (.seq (.block 4 22997644815212700899624582372475683083386880 (.loop qpJ9)) (.seq (.reg [] [] [.M 163 0, .M 164 13, .M 165 0, .M 166 1, .M 167 0, .M 168 1, ⟨some (169, false), .ix 2 (.tmp 167) (.tmp 168), none, true, false⟩, ⟨some (170, false), .load (some 2) (.tmp 169), none, true, false⟩, .M 171 0, .M 172 13, ⟨some (173, false), .ix 2 (.tmp 171) (.tmp 172), none, true, false⟩, ⟨some (174, false), .load (some 2) (.tmp 173), none, true, false⟩, ⟨some (175, false), .ix 2 (.tmp 163) (.tmp 164), none, true, false⟩, ⟨none, .store 2 (.tmp 175) (.tmp 170), none, false, false⟩, ⟨some (176, false), .ix 2 (.tmp 165) (.tmp 166), none, true, false⟩, ⟨none, .store 2 (.tmp 176) (.tmp 174), none, false, false⟩]) (.seq (.reg [] [] [.M 177 13, .N 10 177, .K 11 (.mv (.const (.bool false)))]) (.ret))))))))))))
theorem is129 : IsF C 129 178 22997644815212700899627017342834150232570911 c129 [.tmp 10, .tmp 11] := ⟨⟨Tryd.f129, _, C_P ▸ Tryd.func129, rfl, rfl, rfl, by kernel_rfl, rfl⟩⟩
def qcH9 (s1 : Int) (s2 : Int) (s3 : Int) (s12 : Int) (o0 : List Bind) (g1 : AHeap) (v0 : Nat) (n0 : Nat) (g2 : AHeap) : Int → AHeap → St := fun s13 gt => ⟨[(0, .ref g1.length v0 0 n0), (1, PI s1), (2, PI s2), (3, PI s3), (4, .fn 84 []), (10, PI 0), (11, PB false), (12, PI s12), (13, PI s13)], (g1 ++ (.row false v0 2 (rowP qc9 o0) :: (g2 ++ gt)))⟩
def qfK9 (s1 : Int) (s2 : Int) (s3 : Int) (s12 : Int) (o0 : List Bind) (g1 : AHeap) (v0 : Nat) (n0 : Nat) (g2 : AHeap) : Int → Prop := fun s13 => o0.length = n0
def qji9 (s1 : Int) (s2 : Int) (s3 : Int) (s12 : Int) (o0 : List Bind) (g1 : AHeap) (v0 : Nat) (n0 : Nat) (g2 : AHeap) : Int → AExit × St → Prop := fun s13 q => ∃ g, q = (.exit 8, qcH9 s1 s2 s3 s12 o0 g1 v0 n0 g2 s13 g)
theorem qiV9 {s1 : Int} {s2 : Int} {s3 : Int} {s12 : Int} {o0 : List Bind} {g1 : AHeap} {v0 : Nat} {n0 : Nat} {g2 : AHeap} : SimI C 22997644815212700899627017342834150232570911 qpr9 (qfK9 s1 s2 s3 s12 o0 g1 v0 n0 g2) (qcc9 s1 s2 s3 s12 o0) (qcH9 s1 s2 s3 s12 o0 g1 v0 n0 g2) (qji9 s1 s2 s3 s12 o0 g1 v0 n0 g2) := by
  intro s g r hI hr
  have ⟨s13, hs0⟩ : ∃ y, y = s := ⟨_, rfl⟩
  subst hs0
  have ⟨gt, hg0⟩ : ∃ y, y = g := ⟨_, rfl⟩
  subst hg0
  simp only [qfK9] at hI
  have hI0 := hI
  simp only [qcc9] at hr
  rcases iteP hr with ⟨h1, hr⟩ | ⟨h1, hr⟩
  obtain ⟨x28, h2, x29, h3, x30, h4, hr⟩ := bs3 hr
  have h2a := eq_true (qa9 h2).1
  have h2b : (s13 < (n0 : Int)) = True := eq_true (by have hb : s13 < (o0.length : Int) := (qa9 h2).2.1; omega)
  have h2c := (qa9 h2).2.2
  have h3a := eq_true (qa9 h3).1
  have h3b : (s1 < (n0 : Int)) = True := eq_true (by have hb : s1 < (o0.length : Int) := (qa9 h3).2.1; omega)
  have h3c := (qa9 h3).2.2
  have h4k := fun h => (qv9 h4).o rfl rfl rfl (h := h) (args := [.ag [PI x28.Var, .d (.rd (x28.T.map intD))], .ag [PI x29.Var, .d (.rd (x29.T.map intD))]]) rfl
  try simp only [go_sem] at h4k
  rcases iteP hr with ⟨h5, hr⟩ | ⟨h5, hr⟩
  obtain rfl := oiA hr
  refine xe_of ⟨gt, rfl⟩ ?_
  rotate_left
  obtain rfl := oiA hr
  refine ⟨⟨gt, ?_⟩, (show o0.length = n0 by first | assumption | (simp only [llA, lrA]; first | done | assumption | omega) | omega)⟩
  rotate_left
  obtain rfl := oiA hr
  refine xe_of ⟨gt, rfl⟩ ?_
  rotate_left
  all_goals (simp +decide only [go_sem, qcH9, qpr9, *])
def qcN9 (s1 : Int) (s2 : Int) (s3 : Int) (s13 : Int) (o0 : List Bind) (g1 : AHeap) (v0 : Nat) (n0 : Nat) (g2 : AHeap) : Int → AHeap → St := fun s12 gt => ⟨[(0, .ref g1.length v0 0 n0), (1, PI s1), (2, PI s2), (3, PI s3), (4, .fn 84 []), (10, PI 0), (11, PB false), (12, PI s12), (13, PI s13)], (g1 ++ (.row false v0 2 (rowP qc9 o0) :: (g2 ++ gt)))⟩
def qfs9 (s1 : Int) (s2 : Int) (s3 : Int) (s13 : Int) (o0 : List Bind) (g1 : AHeap) (v0 : Nat) (n0 : Nat) (g2 : AHeap) : Int → Prop := fun s12 => o0.length = n0
def qjc9 (s1 : Int) (s2 : Int) (s3 : Int) (s13 : Int) (o0 : List Bind) (g1 : AHeap) (v0 : Nat) (n0 : Nat) (g2 : AHeap) : Int → AExit × St → Prop := fun s12 q => ∃ g, q = (.exit 6, qcN9 s1 s2 s3 s13 o0 g1 v0 n0 g2 s12 g)
theorem qjd9 {s1 : Int} {s2 : Int} {s3 : Int} {s13 : Int} {o0 : List Bind} {g1 : AHeap} {v0 : Nat} {n0 : Nat} {g2 : AHeap} : SimI C 22997644815212700899627017342834150232570911 qpQ9 (qfs9 s1 s2 s3 s13 o0 g1 v0 n0 g2) (qbX9 s1 s2 s3 s13 o0) (qcN9 s1 s2 s3 s13 o0 g1 v0 n0 g2) (qjc9 s1 s2 s3 s13 o0 g1 v0 n0 g2) := by
  intro s g r hI hr
  have ⟨s12, hs0⟩ : ∃ y, y = s := ⟨_, rfl⟩
  subst hs0
  have ⟨gt, hg0⟩ : ∃ y, y = g := ⟨_, rfl⟩
  subst hg0
  simp only [qfs9] at hI
  have hI0 := hI
  simp only [qbX9] at hr
  rcases iteP hr with ⟨h1, hr⟩ | ⟨h1, hr⟩
  obtain ⟨x22, h2, x23, h3, x24, h4, hr⟩ := bs3 hr
  have h2a := eq_true (qa9 h2).1
  have h2b : (s12 < (n0 : Int)) = True := eq_true (by have hb : s12 < (o0.length : Int) := (qa9 h2).2.1; omega)
  have h2c := (qa9 h2).2.2
  have h3a := eq_true (qa9 h3).1
  have h3b : (s1 < (n0 : Int)) = True := eq_true (by have hb : s1 < (o0.length : Int) := (qa9 h3).2.1; omega)
  have h3c := (qa9 h3).2.2
  have h4k := fun h => (qv9 h4).o rfl rfl rfl (h := h) (args := [.ag [PI x22.Var, .d (.rd (x22.T.map intD))], .ag [PI x23.Var, .d (.rd (x23.T.map intD))]]) rfl
  try simp only [go_sem] at h4k
  rcases iteP hr with ⟨h5, hr⟩ | ⟨h5, hr⟩
  obtain rfl := oiA hr
  refine ⟨⟨gt, ?_⟩, (show o0.length = n0 by first | assumption | (simp only [llA, lrA]; first | done | assumption | omega) | omega)⟩
  rotate_left
  obtain rfl := oiA hr
  refine xe_of ⟨gt, rfl⟩ ?_
  rotate_left
  obtain rfl := oiA hr
  refine xe_of ⟨gt, rfl⟩ ?_
  rotate_left
  all_goals (simp +decide only [go_sem, qcN9, qpQ9, *])
def qcJ9 (s1 : Int) (s2 : Int) (s3 : Int) (g1 : AHeap) (v0 : Nat) (n0 : Nat) (g2 : AHeap) : Int × Int × (List Bind) → AHeap → St := fun (s12, s13, o0) gt => ⟨[(0, .ref g1.length v0 0 n0), (1, PI s1), (2, PI s2), (3, PI s3), (4, .fn 84 []), (10, PI 0), (11, PB false), (12, PI s12), (13, PI s13)], (g1 ++ (.row false v0 2 (rowP qc9 o0) :: (g2 ++ gt)))⟩
def qfF9 (s1 : Int) (s2 : Int) (s3 : Int) (g1 : AHeap) (v0 : Nat) (n0 : Nat) (g2 : AHeap) : Int × Int × (List Bind) → Prop := fun (s12, s13, o0) => o0.length = n0
def qjf9 (s1 : Int) (s2 : Int) (s3 : Int) (g1 : AHeap) (v0 : Nat) (n0 : Nat) (g2 : AHeap) : (Int × Int × (List Bind)) → AExit × St → Prop := fun (s12, s13, o0) q => ∃ g, q = (.exit 4, qcJ9 s1 s2 s3 g1 v0 n0 g2 (s12, s13, o0) g) ∧ o0.length = n0
theorem qiZ9 {s1 : Int} {s2 : Int} {s3 : Int} {g1 : AHeap} {v0 : Nat} {n0 : Nat} {g2 : AHeap} : SimI C 22997644815212700899627017342834150232570911 qpJ9 (qfF9 s1 s2 s3 g1 v0 n0 g2) (qY9 s1 s2 s3) (qcJ9 s1 s2 s3 g1 v0 n0 g2) (qjf9 s1 s2 s3 g1 v0 n0 g2) := by
  intro s g r hI hr
  obtain ⟨s12, s13, o0⟩ := s
  have ⟨gt, hg0⟩ : ∃ y, y = g := ⟨_, rfl⟩
  subst hg0
  simp only [qfF9] at hI
  have hI0 := hI
  simp only [qY9] at hr
  obtain ⟨x25, h1, hr⟩ := bsome hr
  obtain ⟨q1, h1L, h1X⟩ := (qjd9 (g1 := g1) (v0 := v0) (n0 := n0) (g2 := (g2 ++ gt))).L (g := []) h1 (show o0.length = n0 by first | assumption | (simp only [llA, lrA]; first | done | assumption | omega) | omega)
  have ⟨x26, hq1⟩ : ∃ y, y = x25 := ⟨_, rfl⟩
  subst hq1
  try dsimp only at hr
  obtain ⟨z27, rfl⟩ := h1X
  simp only [qcN9, go_sem] at h1L
  try simp only [hI0] at h1L
  obtain ⟨x31, h2, hr⟩ := bsome hr
  obtain ⟨q2, h2L, h2X⟩ := (qiV9 (g1 := g1) (v0 := v0) (n0 := n0) (g2 := (g2 ++ (gt ++ z27)))).L (g := []) h2 (show o0.length = n0 by first | assumption | (simp only [llA, lrA]; first | done | assumption | omega) | omega)
  have ⟨x32, hq2⟩ : ∃ y, y = x31 := ⟨_, rfl⟩
  subst hq2
  try dsimp only at hr
  obtain ⟨z33, rfl⟩ := h2X
  simp only [qcH9, go_sem] at h2L
  try simp only [hI0] at h2L
  rcases iteP hr with ⟨h3, hr⟩ | ⟨h3, hr⟩
  obtain rfl := oiA hr
  refine xe_of ⟨(gt ++ (z27 ++ z33)), rfl, (show o0.length = n0 by first | assumption | (simp only [llA, lrA]; first | done | assumption | omega) | omega)⟩ ?_
  rotate_left
  obtain ⟨x34, h4, x35, h5, x36, h6, hr⟩ := bs3 hr
  have h4a := eq_true (qa9 h4).1
  have h4b : (x32 < (n0 : Int)) = True := eq_true (by have hb : x32 < (o0.length : Int) := (qa9 h4).2.1; omega)
  have h4c := (qa9 h4).2.2
  have h5a := eq_true (qa9 h5).1
  have h5b : (x26 < (n0 : Int)) = True := eq_true (by have hb : x26 < (o0.length : Int) := (qa9 h5).2.1; omega)
  have h5c := (qa9 h5).2.2
  have h6a := eq_true (qa9 h6).1
  have h6b : (x32 < (n0 : Int)) = True := eq_true (by have hb : x32 < ((o0.set (x26).toNat x34).length : Int) := (qa9 h6).2.1; simp only [llA, lrA] at hb; omega)
  have h6c := (qa9 h6).2.2
  obtain rfl := oiA hr
  refine ⟨⟨(gt ++ (z27 ++ z33)), ?_⟩, (show ((o0.set (x26).toNat x34).set (x32).toNat x35).length = n0 by first | assumption | (simp only [llA, lrA]; first | done | assumption | omega) | omega)⟩
  rotate_left
  all_goals (simp +decide only [go_sem, qcJ9, qpJ9, *])
def qcL9 (s1 : Int) (s2 : Int) (s3 : Int) (s12 : Int) (o0 : List Bind) (g1 : AHeap) (v0 : Nat) (n0 : Nat) (g2 : AHeap) : Int → AHeap → St := fun s13 gt => ⟨[(0, .ref g1.length v0 0 n0), (1, PI s1), (2, PI s2), (3, PI s3), (4, .fn 84 []), (10, PI 0), (11, PB false), (12, PI s12), (13, PI s13)], (g1 ++ (.row false v0 2 (rowP qc9 o0) :: (g2 ++ gt)))⟩
def qft9 (s1 : Int) (s2 : Int) (s3 : Int) (s12 : Int) (o0 : List Bind) (g1 : AHeap) (v0 : Nat) (n0 : Nat) (g2 : AHeap) : Int → Prop := fun s13 => o0.length = n0
def qjj9 (s1 : Int) (s2 : Int) (s3 : Int) (s12 : Int) (o0 : List Bind) (g1 : AHeap) (v0 : Nat) (n0 : Nat) (g2 : AHeap) : Int → AExit × St → Prop := fun s13 q => ∃ g, q = (.exit 2, qcL9 s1 s2 s3 s12 o0 g1 v0 n0 g2 s13 g)
theorem qjl9 {s1 : Int} {s2 : Int} {s3 : Int} {s12 : Int} {o0 : List Bind} {g1 : AHeap} {v0 : Nat} {n0 : Nat} {g2 : AHeap} : SimI C 22997644815212700899627017342834150232570911 qpj9 (qft9 s1 s2 s3 s12 o0 g1 v0 n0 g2) (qbZ9 s1 s2 s3 s12 o0) (qcL9 s1 s2 s3 s12 o0 g1 v0 n0 g2) (qjj9 s1 s2 s3 s12 o0 g1 v0 n0 g2) := by
  intro s g r hI hr
  have ⟨s13, hs0⟩ : ∃ y, y = s := ⟨_, rfl⟩
  subst hs0
  have ⟨gt, hg0⟩ : ∃ y, y = g := ⟨_, rfl⟩
  subst hg0
  simp only [qft9] at hI
  have hI0 := hI
  simp only [qbZ9] at hr
  rcases iteP hr with ⟨h1, hr⟩ | ⟨h1, hr⟩
  obtain ⟨x10, h2, x11, h3, x12, h4, hr⟩ := bs3 hr
  have h2a := eq_true (qa9 h2).1
  have h2b : (s13 < (n0 : Int)) = True := eq_true (by have hb : s13 < (o0.length : Int) := (qa9 h2).2.1; omega)
  have h2c := (qa9 h2).2.2
  have h3a := eq_true (qa9 h3).1
  have h3b : (s1 < (n0 : Int)) = True := eq_true (by have hb : s1 < (o0.length : Int) := (qa9 h3).2.1; omega)
  have h3c := (qa9 h3).2.2
  have h4k := fun h => (qv9 h4).o rfl rfl rfl (h := h) (args := [.ag [PI x10.Var, .d (.rd (x10.T.map intD))], .ag [PI x11.Var, .d (.rd (x11.T.map intD))]]) rfl
  try simp only [go_sem] at h4k
  rcases iteP hr with ⟨h5, hr⟩ | ⟨h5, hr⟩
  obtain rfl := oiA hr
  refine xe_of ⟨gt, rfl⟩ ?_
  rotate_left
  obtain rfl := oiA hr
  refine ⟨⟨gt, ?_⟩, (show o0.length = n0 by first | assumption | (simp only [llA, lrA]; first | done | assumption | omega) | omega)⟩
  rotate_left
  obtain rfl := oiA hr
  refine xe_of ⟨gt, rfl⟩ ?_
  rotate_left
  all_goals (simp +decide only [go_sem, qcL9, qpj9, *])
def qcI9 (s1 : Int) (s2 : Int) (s3 : Int) (s13 : Int) (o0 : List Bind) (g1 : AHeap) (v0 : Nat) (n0 : Nat) (g2 : AHeap) : Int → AHeap → St := fun s12 gt => ⟨[(0, .ref g1.length v0 0 n0), (1, PI s1), (2, PI s2), (3, PI s3), (4, .fn 84 []), (10, PI 0), (11, PB false), (12, PI s12), (13, PI s13)], (g1 ++ (.row false v0 2 (rowP qc9 o0) :: (g2 ++ gt)))⟩
def qfA9 (s1 : Int) (s2 : Int) (s3 : Int) (s13 : Int) (o0 : List Bind) (g1 : AHeap) (v0 : Nat) (n0 : Nat) (g2 : AHeap) : Int → Prop := fun s12 => o0.length = n0
def qjm9 (s1 : Int) (s2 : Int) (s3 : Int) (s13 : Int) (o0 : List Bind) (g1 : AHeap) (v0 : Nat) (n0 : Nat) (g2 : AHeap) : Int → AExit × St → Prop := fun s12 q => ∃ g, q = (.exit 0, qcI9 s1 s2 s3 s13 o0 g1 v0 n0 g2 s12 g)
theorem qjb9 {s1 : Int} {s2 : Int} {s3 : Int} {s13 : Int} {o0 : List Bind} {g1 : AHeap} {v0 : Nat} {n0 : Nat} {g2 : AHeap} : SimI C 22997644815212700899627017342834150232570911 qoA9 (qfA9 s1 s2 s3 s13 o0 g1 v0 n0 g2) (qcb9 s1 s2 s3 s13 o0) (qcI9 s1 s2 s3 s13 o0 g1 v0 n0 g2) (qjm9 s1 s2 s3 s13 o0 g1 v0 n0 g2) := by
  intro s g r hI hr
  have ⟨s12, hs0⟩ : ∃ y, y = s := ⟨_, rfl⟩
  subst hs0
  have ⟨gt, hg0⟩ : ∃ y, y = g := ⟨_, rfl⟩
  subst hg0
  simp only [qfA9] at hI
  have hI0 := hI
  simp only [qcb9] at hr
  rcases iteP hr with ⟨h1, hr⟩ | ⟨h1, hr⟩
  obtain ⟨x4, h2, x5, h3, x6, h4, hr⟩ := bs3 hr
  have h2a := eq_true (qa9 h2).1
  have h2b : (s12 < (n0 : Int)) = True := eq_true (by have hb : s12 < (o0.length : Int) := (qa9 h2).2.1; omega)
  have h2c := (qa9 h2).2.2
  have h3a := eq_true (qa9 h3).1
  have h3b : (s1 < (n0 : Int)) = True := eq_true (by have hb : s1 < (o0.length : Int) := (qa9 h3).2.1; omega)
  have h3c := (qa9 h3).2.2
  have h4k := fun h => (qv9 h4).o rfl rfl rfl (h := h) (args := [.ag [PI x4.Var, .d (.rd (x4.T.map intD))], .ag [PI x5.Var, .d (.rd (x5.T.map intD))]]) rfl
  try simp only [go_sem] at h4k
  rcases iteP hr with ⟨h5, hr⟩ | ⟨h5, hr⟩
  obtain rfl := oiA hr
  refine ⟨⟨gt, ?_⟩, (show o0.length = n0 by first | assumption | (simp only [llA, lrA]; first | done | assumption | omega) | omega)⟩
  rotate_left
  obtain rfl := oiA hr
  refine xe_of ⟨gt, rfl⟩ ?_
  rotate_left
  obtain rfl := oiA hr
  refine xe_of ⟨gt, rfl⟩ ?_
  rotate_left
  all_goals (simp +decide only [go_sem, qcI9, qoA9, *])
theorem qz9 {s1 : Int} {s2 : Int} {s3 : Int} {o0 : List Bind} {g1 : AHeap} {v0 : Nat} {n0 : Nat} {g2 : AHeap} (hln0 : o0.length = n0) {r : Int × Bool × (List Bind)} (hr : qr9 s1 s2 s3 o0 = some r) : ∃ hz : AHeap, Lim C 129 [.ref g1.length v0 0 n0, PI s1, PI s2, PI s3, .fn 84 []] (g1 ++ (.row false v0 2 (rowP qc9 o0) :: g2)) = some (resOf [PI r.1, PB r.2.1], (g1 ++ (.row false v0 2 (rowP qc9 r.2.2) :: (g2 ++ hz)))) ∧ r.2.2.length = n0 := by
  simp only [qr9] at hr
  obtain ⟨x1, h1, x2, h2, x3, h3, hr⟩ := bs3 hr
  have h1a := eq_true (qa9 h1).1
  have h1b : (s3 < (n0 : Int)) = True := eq_true (by have hb : s3 < (o0.length : Int) := (qa9 h1).2.1; omega)
  have h1c := (qa9 h1).2.2
  have h2a := eq_true (qa9 h2).1
  have h2b : (s1 < (n0 : Int)) = True := eq_true (by have hb : s1 < (o0.length : Int) := (qa9 h2).2.1; omega)
  have h2c := (qa9 h2).2.2
  have h3a := eq_true (qa9 h3).1
  have h3b : (s3 < (n0 : Int)) = True := eq_true (by have hb : s3 < ((o0.set (s1).toNat x1).length : Int) := (qa9 h3).2.1; simp only [llA, lrA] at hb; omega)
  have h3c := (qa9 h3).2.2
  obtain ⟨x7, h4, hr⟩ := bsome hr
  obtain ⟨q4, h4L, h4X⟩ := (qjb9 (g1 := g1) (v0 := v0) (n0 := n0) (g2 := g2)).L (g := []) h4 (show ((o0.set (s1).toNat x1).set (s3).toNat x2).length = n0 by first | assumption | (simp only [llA, lrA]; first | done | assumption | omega) | omega)
  have ⟨x8, hq4⟩ : ∃ y, y = x7 := ⟨_, rfl⟩
  subst hq4
  try dsimp only at hr
  obtain ⟨z9, rfl⟩ := h4X
  simp only [qcI9, go_sem] at h4L
  try simp only [hln0] at h4L
  obtain ⟨x13, h5, hr⟩ := bsome hr
  obtain ⟨q5, h5L, h5X⟩ := (qjl9 (g1 := g1) (v0 := v0) (n0 := n0) (g2 := (g2 ++ z9))).L (g := []) h5 (show ((o0.set (s1).toNat x1).set (s3).toNat x2).length = n0 by first | assumption | (simp only [llA, lrA]; first | done | assumption | omega) | omega)
  have ⟨x14, hq5⟩ : ∃ y, y = x13 := ⟨_, rfl⟩
  subst hq5
  try dsimp only at hr
  obtain ⟨z15, rfl⟩ := h5X
  simp only [qcL9, go_sem] at h5L
  try simp only [hln0] at h5L
  rcases iteP hr with ⟨h6, hr⟩ | ⟨h6, hr⟩
  obtain ⟨x16, h7, x17, h8, x18, h9, hr⟩ := bs3 hr
  have h7a := eq_true (qa9 h7).1
  have h7b : (s1 < (n0 : Int)) = True := eq_true (by have hb : s1 < (((o0.set (s1).toNat x1).set (s3).toNat x2).length : Int) := (qa9 h7).2.1; simp only [llA, lrA] at hb; omega)
  have h7c := (qa9 h7).2.2
  have h8a := eq_true (qa9 h8).1
  have h8b : (x14 < (n0 : Int)) = True := eq_true (by have hb : x14 < (((o0.set (s1).toNat x1).set (s3).toNat x2).length : Int) := (qa9 h8).2.1; simp only [llA, lrA] at hb; omega)
  have h8c := (qa9 h8).2.2
  have h9a := eq_true (qa9 h9).1
  have h9b : (s1 < (n0 : Int)) = True := eq_true (by have hb : s1 < ((((o0.set (s1).toNat x1).set (s3).toNat x2).set (x14).toNat x16).length : Int) := (qa9 h9).2.1; simp only [llA, lrA] at hb; omega)
  have h9c := (qa9 h9).2.2
  obtain rfl := oiA hr
  refine ⟨(z9 ++ z15), run_L is129 (nbA rfl) ?_, (show ((((o0.set (s1).toNat x1).set (s3).toNat x2).set (x14).toNat x16).set (s1).toNat x17).length = n0 by first | assumption | (simp only [llA, lrA]; first | done | assumption | omega) | omega)⟩
  rotate_left
  obtain ⟨x19, h10, x20, h11, x21, h12, hr⟩ := bs3 hr
  have h10a := eq_true (qa9 h10).1
  have h10b : (x14 < (n0 : Int)) = True := eq_true (by have hb : x14 < (((o0.set (s1).toNat x1).set (s3).toNat x2).length : Int) := (qa9 h10).2.1; simp only [llA, lrA] at hb; omega)
  have h10c := (qa9 h10).2.2
  have h11a := eq_true (qa9 h11).1
  have h11b : (x8 < (n0 : Int)) = True := eq_true (by have hb : x8 < (((o0.set (s1).toNat x1).set (s3).toNat x2).length : Int) := (qa9 h11).2.1; simp only [llA, lrA] at hb; omega)
  have h11c := (qa9 h11).2.2
  have h12a := eq_true (qa9 h12).1
  have h12b : (x14 < (n0 : Int)) = True := eq_true (by have hb : x14 < ((((o0.set (s1).toNat x1).set (s3).toNat x2).set (x8).toNat x19).length : Int) := (qa9 h12).2.1; simp only [llA, lrA] at hb; omega)
  have h12c := (qa9 h12).2.2
  obtain ⟨x37, h13, hr⟩ := bsome hr
  obtain ⟨q13, h13L, h13X⟩ := (qiZ9 (g1 := g1) (v0 := v0) (n0 := n0) (g2 := (g2 ++ (z9 ++ z15)))).L (g := []) h13 (show ((((o0.set (s1).toNat x1).set (s3).toNat x2).set (x8).toNat x19).set (x14).toNat x20).length = n0 by first | assumption | (simp only [llA, lrA]; first | done | assumption | omega) | omega)
  obtain ⟨x38, x39, x40⟩ := x37
  try dsimp only at hr
  obtain ⟨z41, rfl, h13l0⟩ := h13X
  simp only [qcJ9, go_sem] at h13L
  try simp only [hln0] at h13L
  obtain ⟨x42, h14, x43, h15, x44, h16, hr⟩ := bs3 hr
  have h14a := eq_true (qa9 h14).1
  have h14b : (s1 < (n0 : Int)) = True := eq_true (by have hb : s1 < (x40.length : Int) := (qa9 h14).2.1; omega)
  have h14c := (qa9 h14).2.2
  have h15a := eq_true (qa9 h15).1
  have h15b : (x39 < (n0 : Int)) = True := eq_true (by have hb : x39 < (x40.length : Int) := (qa9 h15).2.1; omega)
  have h15c := (qa9 h15).2.2
  have h16a := eq_true (qa9 h16).1
  have h16b : (s1 < (n0 : Int)) = True := eq_true (by have hb : s1 < ((x40.set (x39).toNat x42).length : Int) := (qa9 h16).2.1; simp only [llA, lrA] at hb; omega)
  have h16c := (qa9 h16).2.2
  obtain rfl := oiA hr
  refine ⟨(z9 ++ (z15 ++ z41)), run_L is129 (nbA rfl) ?_, (show ((x40.set (x39).toNat x42).set (s1).toNat x43).length = n0 by first | assumption | (simp only [llA, lrA]; first | done | assumption | omega) | omega)⟩
  rotate_left
  all_goals (simp +decide only [go_sem, c129, *])
def qpW9 : ACode := .seq (.seq (.reg [] [] [.M 50 11, .M 51 12, .T 52 (.bin .leq (.tmp 50) (.tmp 51)), .M 53 52, .MG 54 53 true 4, .MG 55 53 true 0, .MG 56 53 true 1, ⟨some (57, false), .ix 2 (.tmp 55) (.tmp 56), some (53, true), true, false⟩, ⟨some (58, false), .load (some 2) (.tmp 57), some (53, true), true, false⟩, .MG 59 53 true 0, .MG 60 53 true 12, ⟨some (61, false), .ix 2 (.tmp 59) (.tmp 60), some (53, true), true, false⟩, ⟨some (62, false), .load (some 2) (.tmp 61), some (53, true), true, false⟩, ⟨some (63, false), .callV (.tmp 54) [.tmp 58, .tmp 62], some (53, true), true, false⟩, .TG 64 53 true (.bin .lss (.tmp 63) (cI 0)), .K 65 (.pick (.tmp 53) (.tmp 64) (.const (.bool false)))]) (.cond (.tmp 65) (some 65) (.skip) (.exit 4))) (.block 5 36893488147419103232 (.reg [] [] [.M 66 12, .T 67 (.bin .sub (.tmp 66) (cI 1)), .N 12 67]))
def qoR9 : ACode := .seq (.seq (.reg [] [] [.M 31 11, .M 32 12, .T 33 (.bin .leq (.tmp 31) (.tmp 32)), .M 34 33, .MG 35 34 true 4, .MG 36 34 true 0, .MG 37 34 true 1, ⟨some (38, false), .ix 2 (.tmp 36) (.tmp 37), some (34, true), true, false⟩, ⟨some (39, false), .load (some 2) (.tmp 38), some (34, true), true, false⟩, .MG 40 34 true 0, .MG 41 34 true 11, ⟨some (42, false), .ix 2 (.tmp 40) (.tmp 41), some (34, true), true, false⟩, ⟨some (43, false), .load (some 2) (.tmp 42), some (34, true), true, false⟩, ⟨some (44, false), .callV (.tmp 35) [.tmp 39, .tmp 43], some (34, true), true, false⟩, .TG 45 34 true (.bin .lss (.tmp 44) (cI 0)), .TG 46 34 true (.not (.tmp 45)), .K 47 (.pick (.tmp 34) (.tmp 46) (.const (.bool false)))]) (.cond (.tmp 47) (some 47) (.skip) (.exit 2))) (.block 3 140737488355328 (.reg [] [] [.M 48 11, .T 49 (.bin .add (.tmp 48) (cI 1)), .N 11 49]))
def qoe9 : ACode := .block 1 1217485249602318761984 (.seq (.block 2 140737488355328 (.loop qoR9)) (.seq (.block 4 36893628884907458560 (.loop qpW9)) (.seq (.seq (.reg [] [] [.M 68 11, .M 69 12, .K 70 (.bin .gtr (.tmp 68) (.tmp 69))]) (.cond (.tmp 70) (some 70) (.exit 0) (.skip))) (.seq (.reg [] [] [.M 71 0, .M 72 11, .M 73 0, .M 74 12, .M 75 0, .M 76 12, ⟨some (77, false), .ix 2 (.tmp 75) (.tmp 76), none, true, false⟩, ⟨some (78, false), .load (some 2) (.tmp 77), none, true, false⟩, .M 79 0, .M 80 11, ⟨some (81, false), .ix 2 (.tmp 79) (.tmp 80), none, true, false⟩, ⟨some (82, false), .load (some 2) (.tmp 81), none, true, false⟩, ⟨some (83, false), .ix 2 (.tmp 71) (.tmp 72), none, true, false⟩, ⟨none, .store 2 (.tmp 83) (.tmp 78), none, false, false⟩, ⟨some (84, false), .ix 2 (.tmp 73) (.tmp 74), none, true, false⟩, ⟨none, .store 2 (.tmp 84) (.tmp 82), none, false, false⟩]) (.seq (.reg [] [] [.M 85 11, .T 86 (.bin .add (.tmp 85) (cI 1)), .N 11 86]) (.reg [] [] [.M 87 12, .T 88 (.bin .sub (.tmp 87) (cI 1)), .N 12 88]))))))
def c128 : ACode := .seq (.reg [] [] [.K 10 (.mv (cI 0))]) (.seq (.reg [] [] [.M 13 0, .M 14 1, .M 15 0, .M 16 3, .M 17 0, .M 18 3, ⟨some (19, false), .ix 2 (.tmp 17) (.tmp 18), none, true, false⟩, ⟨some (20, false), .load (some 2) (.tmp 19), none, true, false⟩, .M 21 0, .M 22 1, ⟨some (23, false), .ix 2 (.tmp 21) (.tmp 22), none, true, false⟩, ⟨some (24, false), .load (some 2) (.tmp 23), none, true, false⟩, ⟨some (25, false), .ix 2 (.tmp 13) (.tmp 14), none, true, false⟩, ⟨none, .store 2 (.tmp 25) (.tmp 20), none, false, false⟩, ⟨some (26, false), .ix 2 (.tmp 15) (.tmp 16), none, true, false⟩, ⟨none, .store 2 (.tmp 26) (.tmp 24), none, false, false⟩]) (.seq (.reg [] [] [.M 27 1, .T 28 (.bin .add (.tmp 27) (cI 1)), .M 29 2, .T 30 (.bin .sub (.tmp 29) (cI 1)), .N 11 28, .N 12 30]) (.seq (.block 0 1217485249602318761984 (.loop qoe9)) (.seq (.reg [] [] [.M 89 11, .N 10 89]) (.ret)))))
theorem is128 : IsF C 128 90 1217485249602318769183 c128 [.tmp 10] := ⟨⟨Tryd.f128, _, C_P ▸ Tryd.func128, rfl, rfl, rfl, by kernel_rfl, rfl⟩⟩
def qbW9 (s1 : Int) (s2 : Int) (s3 : Int) (s11 : Int) (o0 : List Bind) (g1 : AHeap) (v0 : Nat) (n0 : Nat) (g2 : AHeap) : Int → AHeap → St := fun s12 gt => ⟨[(0, .ref g1.length v0 0 n0), (1, PI s1), (2, PI s2), (3, PI s3), (4, .fn 84 []), (10, PI 0), (11, PI s11), (12, PI s12)], (g1 ++ (.row false v0 2 (rowP qc9 o0) :: (g2 ++ gt)))⟩
def qek9 (s1 : Int) (s2 : Int) (s3 : Int) (s11 : Int) (o0 : List Bind) (g1 : AHeap) (v0 : Nat) (n0 : Nat) (g2 : AHeap) : Int → Prop := fun s12 => o0.length = n0
def qhy9 (s1 : Int) (s2 : Int) (s3 : Int) (s11 : Int) (o0 : List Bind) (g1 : AHeap) (v0 : Nat) (n0 : Nat) (g2 : AHeap) : Int → AExit × St → Prop := fun s12 q => ∃ g, q = (.exit 4, qbW9 s1 s2 s3 s11 o0 g1 v0 n0 g2 s12 g)
theorem qhJ9 {s1 : Int} {s2 : Int} {s3 : Int} {s11 : Int} {o0 : List Bind} {g1 : AHeap} {v0 : Nat} {n0 : Nat} {g2 : AHeap} : SimI C 1217485249602318769183 qpW9 (qek9 s1 s2 s3 s11 o0 g1 v0 n0 g2) (qbu9 s1 s2 s3 s11 o0) (qbW9 s1 s2 s3 s11 o0 g1 v0 n0 g2) (qhy9 s1 s2 s3 s11 o0 g1 v0 n0 g2) := by
  intro s g r hI hr
  have ⟨s12, hs0⟩ : ∃ y, y = s := ⟨_, rfl⟩
  subst hs0
  have ⟨gt, hg0⟩ : ∃ y, y = g := ⟨_, rfl⟩
  subst hg0
  simp only [qek9] at hI
  have hI0 := hI
  simp only [qbu9] at hr
  rcases iteP hr with ⟨h1, hr⟩ | ⟨h1, hr⟩
  obtain ⟨x10, h2, x11, h3, x12, h4, hr⟩ := bs3 hr
  have h2a := eq_true (qa9 h2).1
  have h2b : (s1 < (n0 : Int)) = True := eq_true (by have hb : s1 < (o0.length : Int) := (qa9 h2).2.1; omega)
  have h2c := (qa9 h2).2.2
  have h3a := eq_true (qa9 h3).1
  have h3b : (s12 < (n0 : Int)) = True := eq_true (by have hb : s12 < (o0.length : Int) := (qa9 h3).2.1; omega)
  have h3c := (qa9 h3).2.2
  have h4k := fun h => (qv9 h4).o rfl rfl rfl (h := h) (args := [.ag [PI x10.Var, .d (.rd (x10.T.map intD))], .ag [PI x11.Var, .d (.rd (x11.T.map intD))]]) rfl
  try simp only [go_sem] at h4k
  rcases iteP hr with ⟨h5, hr⟩ | ⟨h5, hr⟩
  obtain rfl := oiA hr
  refine ⟨⟨gt, ?_⟩, (show o0.length = n0 by first | assumption | (simp only [llA, lrA]; first | done | assumption | omega) | omega)⟩
  rotate_left
  obtain rfl := oiA hr
  refine xe_of ⟨gt, rfl⟩ ?_
  rotate_left
  obtain rfl := oiA hr
  refine xe_of ⟨gt, rfl⟩ ?_
  rotate_left
  all_goals (simp +decide only [go_sem, qbW9, qpW9, *])
def qbR9 (s1 : Int) (s2 : Int) (s3 : Int) (s12 : Int) (o0 : List Bind) (g1 : AHeap) (v0 : Nat) (n0 : Nat) (g2 : AHeap) : Int → AHeap → St := fun s11 gt => ⟨[(0, .ref g1.length v0 0 n0), (1, PI s1), (2, PI s2), (3, PI s3), (4, .fn 84 []), (10, PI 0), (11, PI s11), (12, PI s12)], (g1 ++ (.row false v0 2 (rowP qc9 o0) :: (g2 ++ gt)))⟩
def qel9 (s1 : Int) (s2 : Int) (s3 : Int) (s12 : Int) (o0 : List Bind) (g1 : AHeap) (v0 : Nat) (n0 : Nat) (g2 : AHeap) : Int → Prop := fun s11 => o0.length = n0
def qhr9 (s1 : Int) (s2 : Int) (s3 : Int) (s12 : Int) (o0 : List Bind) (g1 : AHeap) (v0 : Nat) (n0 : Nat) (g2 : AHeap) : Int → AExit × St → Prop := fun s11 q => ∃ g, q = (.exit 2, qbR9 s1 s2 s3 s12 o0 g1 v0 n0 g2 s11 g)
theorem qhA9 {s1 : Int} {s2 : Int} {s3 : Int} {s12 : Int} {o0 : List Bind} {g1 : AHeap} {v0 : Nat} {n0 : Nat} {g2 : AHeap} : SimI C 1217485249602318769183 qoR9 (qel9 s1 s2 s3 s12 o0 g1 v0 n0 g2) (qbv9 s1 s2 s3 s12 o0) (qbR9 s1 s2 s3 s12 o0 g1 v0 n0 g2) (qhr9 s1 s2 s3 s12 o0 g1 v0 n0 g2) := by
  intro s g r hI hr
  have ⟨s11, hs0⟩ : ∃ y, y = s := ⟨_, rfl⟩
  subst hs0
  have ⟨gt, hg0⟩ : ∃ y, y = g := ⟨_, rfl⟩
  subst hg0
  simp only [qel9] at hI
  have hI0 := hI
  simp only [qbv9] at hr
  rcases iteP hr with ⟨h1, hr⟩ | ⟨h1, hr⟩
  obtain ⟨x4, h2, x5, h3, x6, h4, hr⟩ := bs3 hr
  have h2a := eq_true (qa9 h2).1
  have h2b : (s1 < (n0 : Int)) = True := eq_true (by have hb : s1 < (o0.length : Int) := (qa9 h2).2.1; omega)
  have h2c := (qa9 h2).2.2
  have h3a := eq_true (qa9 h3).1
  have h3b : (s11 < (n0 : Int)) = True := eq_true (by have hb : s11 < (o0.length : Int) := (qa9 h3).2.1; omega)
  have h3c := (qa9 h3).2.2
  have h4k := fun h => (qv9 h4).o rfl rfl rfl (h := h) (args := [.ag [PI x4.Var, .d (.rd (x4.T.map intD))], .ag [PI x5.Var, .d (.rd (x5.T.map intD))]]) rfl
  try simp only [go_sem] at h4k
  rcases iteP hr with ⟨h5, hr⟩ | ⟨h5, hr⟩
  obtain rfl := oiA hr
  refine xe_of ⟨gt, rfl⟩ ?_
  rotate_left
  obtain rfl := oiA hr
  refine ⟨⟨gt, ?_⟩, (show o0.length = n0 by first | assumption | (simp only [llA, lrA]; first | done | assumption | omega) | omega)⟩
  rotate_left
  obtain rfl := oiA hr
  refine xe_of ⟨gt, rfl⟩ ?_
  rotate_left
  all_goals (simp +decide only [go_sem, qbR9, qoR9, *])
def qbS9 (s1 : Int) (s2 : Int) (s3 : Int) (g1 : AHeap) (v0 : Nat) (n0 : Nat) (g2 : AHeap) : Int × Int × (List Bind) → AHeap → St := fun (s11, s12, o0) gt => ⟨[(0, .ref g1.length v0 0 n0), (1, PI s1), (2, PI s2), (3, PI s3), (4, .fn 84 []), (10, PI 0), (11, PI s11), (12, PI s12)], (g1 ++ (.row false v0 2 (rowP qc9 o0) :: (g2 ++ gt)))⟩
def qej9 (s1 : Int) (s2 : Int) (s3 : Int) (g1 : AHeap) (v0 : Nat) (n0 : Nat) (g2 : AHeap) : Int × Int × (List Bind) → Prop := fun (s11, s12, o0) => o0.length = n0
def qhD9 (s1 : Int) (s2 : Int) (s3 : Int) (g1 : AHeap) (v0 : Nat) (n0 : Nat) (g2 : AHeap) : (Int × Int × (List Bind)) → AExit × St → Prop := fun (s11, s12, o0) q => ∃ g, q = (.exit 0, qbS9 s1 s2 s3 g1 v0 n0 g2 (s11, s12, o0) g) ∧ o0.length = n0
theorem qhH9 {s1 : Int} {s2 : Int} {s3 : Int} {g1 : AHeap} {v0 : Nat} {n0 : Nat} {g2 : AHeap} : SimI C 1217485249602318769183 qoe9 (qej9 s1 s2 s3 g1 v0 n0 g2) (qM9 s1 s2 s3) (qbS9 s1 s2 s3 g1 v0 n0 g2) (qhD9 s1 s2 s3 g1 v0 n0 g2) := by
  intro s g r hI hr
  obtain ⟨s11, s12, o0⟩ := s
  have ⟨gt, hg0⟩ : ∃ y, y = g := ⟨_, rfl⟩
  subst hg0
  simp only [qej9] at hI
  have hI0 := hI
  simp only [qM9] at hr
  obtain ⟨x7, h1, hr⟩ := bsome hr
  obtain ⟨q1, h1L, h1X⟩ := (qhA9 (g1 := g1) (v0 := v0) (n0 := n0) (g2 := (g2 ++ gt))).L (g := []) h1 (show o0.length = n0 by first | assumption | (simp only [llA, lrA]; first | done | assumption | omega) | omega)
  have ⟨x8, hq1⟩ : ∃ y, y = x7 := ⟨_, rfl⟩
  subst hq1
  try dsimp only at hr
  obtain ⟨z9, rfl⟩ := h1X
  simp only [qbR9, go_sem] at h1L
  try simp only [hI0] at h1L
  obtain ⟨x13, h2, hr⟩ := bsome hr
  obtain ⟨q2, h2L, h2X⟩ := (qhJ9 (g1 := g1) (v0 := v0) (n0 := n0) (g2 := (g2 ++ (gt ++ z9)))).L (g := []) h2 (show o0.length = n0 by first | assumption | (simp only [llA, lrA]; first | done | assumption | omega) | omega)
  have ⟨x14, hq2⟩ : ∃ y, y = x13 := ⟨_, rfl⟩
  subst hq2
  try dsimp only at hr
  obtain ⟨z15, rfl⟩ := h2X
  simp only [qbW9, go_sem] at h2L
  try simp only [hI0] at h2L
  rcases iteP hr with ⟨h3, hr⟩ | ⟨h3, hr⟩
  obtain rfl := oiA hr
  refine xe_of ⟨(gt ++ (z9 ++ z15)), rfl, (show o0.length = n0 by first | assumption | (simp only [llA, lrA]; first | done | assumption | omega) | omega)⟩ ?_
  rotate_left
  obtain ⟨x16, h4, x17, h5, x18, h6, hr⟩ := bs3 hr
  have h4a := eq_true (qa9 h4).1
  have h4b : (x14 < (n0 : Int)) = True := eq_true (by have hb : x14 < (o0.length : Int) := (qa9 h4).2.1; omega)
  have h4c := (qa9 h4).2.2
  have h5a := eq_true (qa9 h5).1
  have h5b : (x8 < (n0 : Int)) = True := eq_true (by have hb : x8 < (o0.length : Int) := (qa9 h5).2.1; omega)
  have h5c := (qa9 h5).2.2
  have h6a := eq_true (qa9 h6).1
  have h6b : (x14 < (n0 : Int)) = True := eq_true (by have hb : x14 < ((o0.set (x8).toNat x16).length : Int) := (qa9 h6).2.1; simp only [llA, lrA] at hb; omega)
  have h6c := (qa9 h6).2.2
  obtain rfl := oiA hr
  refine ⟨⟨(gt ++ (z9 ++ z15)), ?_⟩, (show ((o0.set (x8).toNat x16).set (x14).toNat x17).length = n0 by first | assumption | (simp only [llA, lrA]; first | done | assumption | omega) | omega)⟩
  rotate_left
  all_goals (simp +decide only [go_sem, qbS9, qoe9, *])
theorem qU9 {s1 : Int} {s2 : Int} {s3 : Int} {o0 : List Bind} {g1 : AHeap} {v0 : Nat} {n0 : Nat} {g2 : AHeap} (hln0 : o0.length = n0) {r : Int × (List Bind)} (hr : qA9 s1 s2 s3 o0 = some r) : ∃ hz : AHeap, Lim C 128 [.ref g1.length v0 0 n0, PI s1, PI s2, PI s3, .fn 84 []] (g1 ++ (.row false v0 2 (rowP qc9 o0) :: g2)) = some (resOf [PI r.1], (g1 ++ (.row false v0 2 (rowP qc9 r.2) :: (g2 ++ hz)))) ∧ r.2.length = n0 := by
  simp only [qA9] at hr
  obtain ⟨x1, h1, x2, h2, x3, h3, hr⟩ := bs3 hr
  have h1a := eq_true (qa9 h1).1
  have h1b : (s3 < (n0 : Int)) = True := eq_true (by have hb : s3 < (o0.length : Int) := (qa9 h1).2.1; omega)
  have h1c := (qa9 h1).2.2
  have h2a := eq_true (qa9 h2).1
  have h2b : (s1 < (n0 : Int)) = True := eq_true (by have hb : s1 < (o0.length : Int) := (qa9 h2).2.1; omega)
  have h2c := (qa9 h2).2.2
  have h3a := eq_true (qa9 h3).1
  have h3b : (s3 < (n0 : Int)) = True := eq_true (by have hb : s3 < ((o0.set (s1).toNat x1).length : Int) := (qa9 h3).2.1; simp only [llA, lrA] at hb; omega)
  have h3c := (qa9 h3).2.2
  obtain ⟨x19, h4, hr⟩ := bsome hr
  obtain ⟨q4, h4L, h4X⟩ := (qhH9 (g1 := g1) (v0 := v0) (n0 := n0) (g2 := g2)).L (g := []) h4 (show ((o0.set (s1).toNat x1).set (s3).toNat x2).length = n0 by first | assumption | (simp only [llA, lrA]; first | done | assumption | omega) | omega)
  obtain ⟨x20, x21, x22⟩ := x19
  try dsimp only at hr
  obtain ⟨z23, rfl, h4l0⟩ := h4X
  simp only [qbS9, go_sem] at h4L
  try simp only [hln0] at h4L
  obtain rfl := oiA hr
  refine ⟨z23, run_L is128 (nbA rfl) ?_, (show x22.length = n0 by first | assumption | (simp only [llA, lrA]; first | done | assumption | omega) | omega)⟩
  rotate_left
  all_goals (simp +decide only [go_sem, c128, *])
def c137 : ACode := .seq (.reg [] [] [.K 2 (.mv (.const (.int .u64 0)))]) (.seq (.reg [] [] [.M 3 0, .T 4 (.wrap .u64 (.tmp 3)), .T 5 (.call 106 [.tmp 4]), .T 6 (.sh .shl (.const (.int .u64 1)) (.tmp 5)), .N 2 6]) (.ret))
theorem is137 : IsF C 137 7 5 c137 [.tmp 2] := ⟨⟨Tryd.f137, _, C_P ▸ Tryd.func137, rfl, rfl, rfl, by kernel_rfl, rfl⟩⟩
theorem qiJ9 {a0 : Int} {r : Int} (hr : qcq9 a0 = some r) : Res C 137 [.v (.int .i64 a0)] (.d (.v (.int .u64 r))) := by
  simp only [qcq9] at hr
  obtain ⟨x1, h1, x2, h2, hr⟩ := bs2 hr
  have h1k := fun h => qiT9 (h := h) h1
  try simp only [go_sem] at h1k
  obtain rfl := oiA hr
  refine run_V is137 (nbA rfl) ?_
  rotate_left
  all_goals (simp +decide only [go_sem, c137, *])
def c138 : ACode := .seq (.reg [] [] [.K 2 (.mv (.const (.int .u64 0)))]) (.seq (.reg [] [] [.M 3 0, .T 4 (.nilC (.tmp 3)), ⟨some (5, false), .load none (.tmp 4), none, true, false⟩, .M 6 0, .T 7 (.nilC (.tmp 6)), ⟨some (8, false), .load none (.tmp 7), none, true, false⟩, .T 9 (.sh .shl (.tmp 8) (.const (.int .u64 13))), .T 10 (.binM .xor (.tmp 5) (.tmp 9)), .T 11 (.nilC (.tmp 3)), ⟨none, .store 1 (.tmp 11) (.tmp 10), none, false, false⟩]) (.seq (.reg [] [] [.M 12 0, .T 13 (.nilC (.tmp 12)), ⟨some (14, false), .load none (.tmp 13), none, true, false⟩, .M 15 0, .T 16 (.nilC (.tmp 15)), ⟨some (17, false), .load none (.tmp 16), none, true, false⟩, .T 18 (.sh .shr (.tmp 17) (.const (.int .u64 7))), .T 19 (.binM .xor (.tmp 14) (.tmp 18)), .T 20 (.nilC (.tmp 12)), ⟨none, .store 1 (.tmp 20) (.tmp 19), none, false, false⟩]) (.seq (.reg [] [] [.M 21 0, .T 22 (.nilC (.tmp 21)), ⟨some (23, false), .load none (.tmp 22), none, true, false⟩, .M 24 0, .T 25 (.nilC (.tmp 24)), ⟨some (26, false), .load none (.tmp 25), none, true, false⟩, .T 27 (.sh .shl (.tmp 26) (.const (.int .u64 17))), .T 28 (.binM .xor (.tmp 23) (.tmp 27)), .T 29 (.nilC (.tmp 21)), ⟨none, .store 1 (.tmp 29) (.tmp 28), none, false, false⟩]) (.seq (.reg [] [] [.M 30 0, .T 31 (.nilC (.tmp 30)), .T 32 (.load none (.tmp 31)), .N 2 32]) (.ret)))))
theorem is138 : IsF C 138 33 5 c138 [.tmp 2] := ⟨⟨Tryd.f138, _, C_P ▸ Tryd.func138, rfl, rfl, rfl, by kernel_rfl, rfl⟩⟩
theorem qjk9 {b0_0 : Int} {g1 : AHeap} {g2 : AHeap} {r : Int × Int} (hr : qcB9 b0_0 = some r) : Lim C 138 [.ptr g1.length 0 0 0] (g1 ++ (.row false 0 1 [[.d (.v (.int .u64 b0_0))]] :: g2)) = some (resOf [.d (.v (.int .u64 r.1))], (g1 ++ (.row false 0 1 [[.d (.v (.int .u64 r.2))]] :: g2))) := by
  simp only [qcB9] at hr
  obtain ⟨x1, h1, x2, h2, x3, h3, hr⟩ := bs3 hr
  obtain rfl := oiA hr
  refine run_L is138 (nbA rfl) ?_
  rotate_left
  all_goals (simp +decide only [go_sem, c138, *])
def qoI9 : ACode := .seq (.seq (.reg [] [] [.M 28 11, .M 29 1, .M 30 8, .T 31 (.binM .quo (.tmp 30) (cI 4)), .T 32 (.bin .mul (.tmp 31) (cI 2)), .T 33 (.bin .add (.tmp 29) (.tmp 32)), .T 34 (.bin .add (.tmp 33) (cI 1)), .K 35 (.bin .leq (.tmp 28) (.tmp 34))]) (.cond (.tmp 35) (some 35) (.skip) (.exit 0))) (.seq (.block 1 35218731831296 (.seq (.reg [] [] [.T 38 (.call 138 [.tmp 9]), .M 39 10, .T 40 (.bin .sub (.tmp 39) (.const (.int .u64 1))), .T 41 (.binM .and (.tmp 38) (.tmp 40)), .T 42 (.wrap .i64 (.tmp 41)), .N 12 42]) (.seq (.seq (.reg [] [] [.M 43 12, .M 44 8, .K 45 (.bin .geq (.tmp 43) (.tmp 44))]) (.cond (.tmp 45) (some 45) (.reg [] [] [.M 46 12, .M 47 8, .T 48 (.bin .sub (.tmp 46) (.tmp 47)), .N 12 48]) (.skip))) (.reg [] [] [.M 49 0, .M 50 11, .M 51 0, .M 52 1, .M 53 12, .T 54 (.bin .add (.tmp 52) (.tmp 53)), .M 55 0, .M 56 1, .M 57 12, .T 58 (.bin .add (.tmp 56) (.tmp 57)), ⟨some (59, false), .ix 2 (.tmp 55) (.tmp 58), none, true, false⟩, ⟨some (60, false), .load (some 2) (.tmp 59), none, true, false⟩, .M 61 0, .M 62 11, ⟨some (63, false), .ix 2 (.tmp 61) (.tmp 62), none, true, false⟩, ⟨some (64, false), .load (some 2) (.tmp 63), none, true, false⟩, ⟨some (65, false), .ix 2 (.tmp 49) (.tmp 50), none, true, false⟩, ⟨none, .store 2 (.tmp 65) (.tmp 60), none, false, false⟩, ⟨some (66, false), .ix 2 (.tmp 51) (.tmp 54), none, true, false⟩, ⟨none, .store 2 (.tmp 66) (.tmp 64), none, false, false⟩])))) (.reg [] [] [.M 36 11, .T 37 (.bin .add (.tmp 36) (cI 1)), .N 11 37]))
def c124 : ACode := .seq (.reg [] [] [.M 13 2, .M 14 1, .T 15 (.bin .sub (.tmp 13) (.tmp 14)), .N 8 15]) (.seq (.reg [] [] [.M 16 8, .K 17 (.bin .geq (.tmp 16) (cI 8))]) (.cond (.tmp 17) (some 17) (.seq (.reg [] [] [.M 18 8, .T 19 (.wrap .u64 (.tmp 18)), .K 9 (.alloc [.d (.v (.int .u64 0))] 1), ⟨none, .store 1 (.tmp 9) (.tmp 19), none, false, false⟩]) (.seq (.reg [] [] [.M 20 8, .T 21 (.call 137 [.tmp 20]), .N 10 21]) (.seq (.reg [] [] [.M 22 1, .M 23 8, .T 24 (.binM .quo (.tmp 23) (cI 4)), .T 25 (.bin .mul (.tmp 24) (cI 2)), .T 26 (.bin .add (.tmp 22) (.tmp 25)), .T 27 (.bin .sub (.tmp 26) (cI 1)), .N 11 27]) (.block 0 35218731831296 (.loop qoI9))))) (.skip)))
theorem is124 : IsF C 124 67 35218731966215 c124 [] := ⟨⟨Tryd.f124, _, C_P ▸ Tryd.func124, rfl, rfl, rfl, by kernel_rfl, rfl⟩⟩
def qcf9 (s1 : Int) (s2 : Int) (s8 : Int) (s10 : Int) (g1 : AHeap) (v0 : Nat) (n0 : Nat) (g2 : AHeap) : Int × (List Bind) × Int → AHeap → St := fun (s11, o0, b9_0) gt => ⟨[(0, .ref g1.length v0 0 n0), (1, PI s1), (2, PI s2), (8, PI s8), (9, .ptr (g1.length + g2.length + 1) 0 0 0), (10, .d (.v (.int .u64 s10))), (11, PI s11)], (g1 ++ (.row false v0 2 (rowP qc9 o0) :: (g2 ++ (.row false 0 1 [[.d (.v (.int .u64 b9_0))]] :: gt))))⟩
def qew9 (s1 : Int) (s2 : Int) (s8 : Int) (s10 : Int) (g1 : AHeap) (v0 : Nat) (n0 : Nat) (g2 : AHeap) : Int × (List Bind) × Int → Prop := fun (s11, o0, b9_0) => o0.length = n0
def qhW9 (s1 : Int) (s2 : Int) (s8 : Int) (s10 : Int) (g1 : AHeap) (v0 : Nat) (n0 : Nat) (g2 : AHeap) : (Int × (List Bind) × Int) → AExit × St → Prop := fun (s11, o0, b9_0) q => ∃ g, q = (.exit 0, qcf9 s1 s2 s8 s10 g1 v0 n0 g2 (s11, o0, b9_0) g) ∧ o0.length = n0
theorem qhR9 {s1 : Int} {s2 : Int} {s8 : Int} {s10 : Int} {g1 : AHeap} {v0 : Nat} {n0 : Nat} {g2 : AHeap} : SimI C 35218731966215 qoI9 (qew9 s1 s2 s8 s10 g1 v0 n0 g2) (qF9 s1 s2 s8 s10) (qcf9 s1 s2 s8 s10 g1 v0 n0 g2) (qhW9 s1 s2 s8 s10 g1 v0 n0 g2) := by
  intro s g r hI hr
  obtain ⟨s11, o0, b9_0⟩ := s
  have ⟨gt, hg0⟩ : ∃ y, y = g := ⟨_, rfl⟩
  subst hg0
  simp only [qew9] at hI
  have hI0 := hI
  simp only [qF9] at hr
  obtain ⟨x3, h1, hr⟩ := bsome hr
  rcases iteP hr with ⟨h2, hr⟩ | ⟨h2, hr⟩
  obtain ⟨x4, h3, hr⟩ := bsome hr
  have h3k := qi9 rfl rfl rfl (qjk9 (g1 := (g1 ++ (.row false v0 2 (rowP qc9 o0) :: g2))) (g2 := gt) h3)
  try simp only [go_sem] at h3k
  rcases iteP hr with ⟨h4, hr⟩ | ⟨h4, hr⟩
  obtain ⟨x5, h5, x6, h6, x7, h7, hr⟩ := bs3 hr
  have h5a := eq_true (qa9 h5).1
  have h5b : ((w64 (s1 + (w64 ((w64 (andV .u64 x4.1 (IntKind.u64.wrap (s10 - 1)))) - s8)))) < (n0 : Int)) = True := eq_true (by have hb : (w64 (s1 + (w64 ((w64 (andV .u64 x4.1 (IntKind.u64.wrap (s10 - 1)))) - s8)))) < (o0.length : Int) := (qa9 h5).2.1; omega)
  have h5c := (qa9 h5).2.2
  have h6a := eq_true (qa9 h6).1
  have h6b : (s11 < (n0 : Int)) = True := eq_true (by have hb : s11 < (o0.length : Int) := (qa9 h6).2.1; omega)
  have h6c := (qa9 h6).2.2
  have h7a := eq_true (qa9 h7).1
  have h7b : ((w64 (s1 + (w64 ((w64 (andV .u64 x4.1 (IntKind.u64.wrap (s10 - 1)))) - s8)))) < (n0 : Int)) = True := eq_true (by have hb : (w64 (s1 + (w64 ((w64 (andV .u64 x4.1 (IntKind.u64.wrap (s10 - 1)))) - s8)))) < ((o0.set (s11).toNat x5).length : Int) := (qa9 h7).2.1; simp only [llA, lrA] at hb; omega)
  have h7c := (qa9 h7).2.2
  obtain rfl := oiA hr
  refine ⟨⟨gt, ?_⟩, (show ((o0.set (s11).toNat x5).set (w64 (s1 + (w64 ((w64 (andV .u64 x4.1 (IntKind.u64.wrap (s10 - 1)))) - s8)))).toNat x6).length = n0 by first | assumption | (simp only [llA, lrA]; first | done | assumption | omega) | omega)⟩
  rotate_left
  obtain ⟨x8, h8, x9, h9, x10, h10, hr⟩ := bs3 hr
  have h8a := eq_true (qa9 h8).1
  have h8b : ((w64 (s1 + (w64 (andV .u64 x4.1 (IntKind.u64.wrap (s10 - 1)))))) < (n0 : Int)) = True := eq_true (by have hb : (w64 (s1 + (w64 (andV .u64 x4.1 (IntKind.u64.wrap (s10 - 1)))))) < (o0.length : Int) := (qa9 h8).2.1; omega)
  have h8c := (qa9 h8).2.2
  have h9a := eq_true (qa9 h9).1
  have h9b : (s11 < (n0 : Int)) = True := eq_true (by have hb : s11 < (o0.length : Int) := (qa9 h9).2.1; omega)
  have h9c := (qa9 h9).2.2
  have h10a := eq_true (qa9 h10).1
  have h10b : ((w64 (s1 + (w64 (andV .u64 x4.1 (IntKind.u64.wrap (s10 - 1)))))) < (n0 : Int)) = True := eq_true (by have hb : (w64 (s1 + (w64 (andV .u64 x4.1 (IntKind.u64.wrap (s10 - 1)))))) < ((o0.set (s11).toNat x8).length : Int) := (qa9 h10).2.1; simp only [llA, lrA] at hb; omega)
  have h10c := (qa9 h10).2.2
  obtain rfl := oiA hr
  refine ⟨⟨gt, ?_⟩, (show ((o0.set (s11).toNat x8).set (w64 (s1 + (w64 (andV .u64 x4.1 (IntKind.u64.wrap (s10 - 1)))))).toNat x9).length = n0 by first | assumption | (simp only [llA, lrA]; first | done | assumption | omega) | omega)⟩
  rotate_left
  obtain rfl := oiA hr
  refine xe_of ⟨gt, rfl, (show o0.length = n0 by first | assumption | (simp only [llA, lrA]; first | done | assumption | omega) | omega)⟩ ?_
  rotate_left
  all_goals (simp +decide only [go_sem, qcf9, qoI9, *])
theorem qik9 {s1 : Int} {s2 : Int} {o0 : List Bind} {g1 : AHeap} {v0 : Nat} {n0 : Nat} {g2 : AHeap} (hln0 : o0.length = n0) {r : (List Bind)} (hr : qbP9 s1 s2 o0 = some r) : ∃ hz : AHeap, Lim C 124 [.ref g1.length v0 0 n0, PI s1, PI s2, .fn 84 []] (g1 ++ (.row false v0 2 (rowP qc9 o0) :: g2)) = some (resOf [], (g1 ++ (.row false v0 2 (rowP qc9 r) :: (g2 ++ hz)))) ∧ r.length = n0 := by
  simp only [qbP9] at hr
  rcases iteP hr with ⟨h1, hr⟩ | ⟨h1, hr⟩
  obtain ⟨x1, h2, x2, h3, hr⟩ := bs2 hr
  have h2k := (qiJ9 h2).k rfl rfl rfl
  try simp only [go_sem] at h2k
  obtain ⟨x11, h4, hr⟩ := bsome hr
  obtain ⟨q4, h4L, h4X⟩ := (qhR9 (g1 := g1) (v0 := v0) (n0 := n0) (g2 := g2)).L (g := []) h4 (show o0.length = n0 by first | assumption | (simp only [llA, lrA]; first | done | assumption | omega) | omega)
  obtain ⟨x12, x13, x14⟩ := x11
  try dsimp only at hr
  obtain ⟨z15, rfl, h4l0⟩ := h4X
  simp only [qcf9, go_sem] at h4L
  try simp only [hln0] at h4L
  obtain rfl := oiA hr
  refine ⟨(.row false 0 1 [[.d (.v (.int .u64 x14))]] :: z15), run_L is124 (nbA rfl) ?_, (show x13.length = n0 by first | assumption | (simp only [llA, lrA]; first | done | assumption | omega) | omega)⟩
  rotate_left
  obtain rfl := oiA hr
  refine ⟨[], run_L is124 (nbA rfl) ?_, (show o0.length = n0 by first | assumption | (simp only [llA, lrA]; first | done | assumption | omega) | omega)⟩
  rotate_left
  all_goals (simp +decide only [go_sem, c124, *])
def qqn9 : ACode := .block 1 42535296023574879666274036850519699456 (.seq (.reg [] [] [.M 21 2, .M 22 1, .T 23 (.bin .sub (.tmp 21) (.tmp 22)), .N 12 23]) (.seq (.seq (.reg [] [] [.M 24 12, .K 25 (.bin .leq (.tmp 24) (cI 12))]) (.cond (.tmp 25) (some 25) (.seq (.reg [] [] [.M 26 0, .M 27 1, .M 28 2, .M 29 4, .T 30 (.call 122 [.tmp 26, .tmp 27, .tmp 28, .tmp 29])]) (.ret)) (.skip))) (.seq (.seq (.reg [] [] [.M 31 3, .K 32 (.bin .eql (.tmp 31) (cI 0))]) (.cond (.tmp 32) (some 32) (.seq (.reg [] [] [.M 33 0, .M 34 1, .M 35 2, .M 36 4, .T 37 (.call 123 [.tmp 33, .tmp 34, .tmp 35, .tmp 36])]) (.ret)) (.skip))) (.seq (.seq (.reg [] [] [.M 38 10, .K 39 (.not (.tmp 38))]) (.cond (.tmp 39) (some 39) (.seq (.reg [] [] [.M 40 0, .M 41 1, .M 42 2, .M 43 4, .T 44 (.call 124 [.tmp 40, .tmp 41, .tmp 42, .tmp 43])]) (.reg [] [] [.M 45 3, .T 46 (.bin .sub (.tmp 45) (cI 1)), .N 3 46])) (.skip))) (.seq (.reg [] [] [.M 48 0, .M 49 1, .M 50 2, .M 51 4, .T 52 (.call 125 [.tmp 48, .tmp 49, .tmp 50, .tmp 51]), .M 47 52, .T 53 (.ext (.tmp 47) 0), .T 54 (.ext (.tmp 47) 1), .N 13 53, .N 14 54]) (.seq (.seq (.reg [] [] [.M 55 14, .K 56 (.bin .eql (.tmp 55) (cI 2))]) (.cond (.tmp 56) (some 56) (.seq (.reg [] [] [.M 57 0, .M 58 1, .M 59 2, .M 60 4, .T 61 (.call 126 [.tmp 57, .tmp 58, .tmp 59, .tmp 60])]) (.seq (.reg [] [] [.M 62 2, .T 63 (.bin .sub (.tmp 62) (cI 1)), .M 64 13, .M 65 1, .T 66 (.bin .sub (.tmp 64) (.tmp 65)), .T 67 (.bin .sub (.tmp 63) (.tmp 66)), .N 13 67]) (.reg [] [] [.K 14 (.mv (cI 1))]))) (.skip))) (.seq (.seq (.reg [] [] [.M 68 10, .M 69 68, .MG 70 69 true 11, .T 71 (.pick (.tmp 69) (.tmp 70) (.const (.bool false))), .M 72 71, .MG 73 72 true 14, .TG 74 72 true (.bin .eql (.tmp 73) (cI 1)), .K 75 (.pick (.tmp 72) (.tmp 74) (.const (.bool false)))]) (.cond (.tmp 75) (some 75) (.seq (.reg [] [] [.M 76 0, .M 77 1, .M 78 2, .M 79 4, .K 80 (.call 127 [.tmp 76, .tmp 77, .tmp 78, .tmp 79])]) (.cond (.tmp 80) (some 80) (.ret) (.skip))) (.skip))) (.seq (.seq (.reg [] [] [.M 81 1, .T 82 (.bin .gtr (.tmp 81) (cI 0)), .M 83 82, .MG 84 83 true 4, .MG 85 83 true 0, .MG 86 83 true 1, .TG 87 83 true (.bin .sub (.tmp 86) (cI 1)), ⟨some (88, false), .ix 2 (.tmp 85) (.tmp 87), some (83, true), true, false⟩, ⟨some (89, false), .load (some 2) (.tmp 88), some (83, true), true, false⟩, .MG 90 83 true 0, .MG 91 83 true 13, ⟨some (92, false), .ix 2 (.tmp 90) (.tmp 91), some (83, true), true, false⟩, ⟨some (93, false), .load (some 2) (.tmp 92), some (83, true), true, false⟩, ⟨some (94, false), .callV (.tmp 84) [.tmp 89, .tmp 93], some (83, true), true, false⟩, .TG 95 83 true (.bin .lss (.tmp 94) (cI 0)), .TG 96 83 true (.not (.tmp 95)), .K 97 (.pick (.tmp 83) (.tmp 96) (.const (.bool false)))]) (.cond (.tmp 97) (some 97) (.seq (.reg [] [] [.M 98 0, .M 99 1, .M 100 2, .M 101 13, .M 102 4, .T 103 (.call 128 [.tmp 98, .tmp 99, .tmp 100, .tmp 101, .tmp 102]), .N 15 103]) (.seq (.reg [] [] [.M 104 15, .N 1 104]) (.exit 1))) (.skip))) (.seq (.reg [] [] [.M 106 0, .M 107 1, .M 108 2, .M 109 13, .M 110 4, .T 111 (.call 129 [.tmp 106, .tmp 107, .tmp 108, .tmp 109, .tmp 110]), .M 105 111, .T 112 (.ext (.tmp 105) 0), .T 113 (.ext (.tmp 105) 1), .N 16 112, .N 17 113]) (.seq (.reg [] [] [.M 114 17, .N 11 114]) (.seq (.reg [] [] [.M 115 16, .M 116 1, .T 117 (.bin .sub (.tmp 115) (.tmp 116)), .M 118 2, .M 119 16, .T 120 (.bin .sub (.tmp 118) (.tmp 119)), .N 18 117, .N 19 120]) (.seq (.reg [] [] [.M 121 12, .T 122 (.binM .quo (.tmp 121) (cI 8)), .N 20 122]) (.seq (.reg [] [] [.M 123 18, .M 124 19, .K 125 (.bin .lss (.tmp 123) (.tmp 124))]) (.cond (.tmp 125) (some 125) (.seq (.reg [] [] [.M 126 18, .M 127 20, .T 128 (.bin .geq (.tmp 126) (.tmp 127)), .N 10 128]) (.seq (.reg [] [] [.M 129 0, .M 130 1, .M 131 16, .M 132 3, .M 133 4, .T 134 (.call 105 [.tmp 129, .tmp 130, .tmp 131, .tmp 132, .tmp 133])]) (.reg [] [] [.M 135 16, .T 136 (.bin .add (.tmp 135) (cI 1)), .N 1 136]))) (.seq (.reg [] [] [.M 137 19, .M 138 20, .T 139 (.bin .geq (.tmp 137) (.tmp 138)), .N 10 139]) (.seq (.reg [] [] [.M 140 0, .M 141 16, .T 142 (.bin .add (.tmp 141) (cI 1)), .M 143 2, .M 144 3, .M 145 4, .T 146 (.call 105 [.tmp 140, .tmp 142, .tmp 143, .tmp 144, .tmp 145])]) (.reg [] [] [.M 147 16, .N 2 147])))))))))))))))))
def c105 : ACode := .seq (.reg [] [] [.K 10 (.mv (.const (.bool true)))]) (.seq (.reg [] [] [.K 11 (.mv (.const (.bool true)))]) (.block 0 42535296023574879666274036850519699456 (.loop qqn9)))
theorem is105 : IsF C 105 148 42535296023574879666274036850519702559 c105 [] := ⟨⟨Tryd.f105, _, C_P ▸ Tryd.func105, rfl, rfl, rfl, by kernel_rfl, rfl⟩⟩
def qeo9 (g1 : AHeap) (v0 : Nat) (n0 : Nat) (g2 : AHeap) : Int × Int × Int × Bool × Bool × (List Bind) → AHeap → St := fun (s1, s2, s3, s10, s11, o0) gt => ⟨[(0, .ref g1.length v0 0 n0), (1, PI s1), (2, PI s2), (3, PI s3), (4, .fn 84 []), (10, PB s10), (11, PB s11)], (g1 ++ (.row false v0 2 (rowP qc9 o0) :: (g2 ++ gt)))⟩
def qgw9 (g1 : AHeap) (v0 : Nat) (n0 : Nat) (g2 : AHeap) : Int × Int × Int × Bool × Bool × (List Bind) → Prop := fun (s1, s2, s3, s10, s11, o0) => o0.length = n0
def qjR9 (g1 : AHeap) (v0 : Nat) (n0 : Nat) (g2 : AHeap) : ((List Bind)) → AExit × St → Prop := fun r q => XL C [] (fun vs hp => ∃ hz : AHeap, vs = [] ∧ hp = (g1 ++ (.row false v0 2 (rowP qc9 r) :: (g2 ++ hz))) ∧ r.length = n0) q
theorem qjV9 {rec : Int × Int × Int × (List Bind) → Option ((List Bind))} (hrec : ∀ {s1 : Int} {s2 : Int} {s3 : Int} {o0 : List Bind} {g1 : AHeap} {v0 : Nat} {n0 : Nat} {g2 : AHeap} (hln0 : o0.length = n0) {r : (List Bind)} (_ : rec (s1, s2, s3, o0) = some r), ∃ hz : AHeap, callP C (Lim C) 105 [.ref g1.length v0 0 n0, PI s1, PI s2, PI s3, .fn 84 []] (g1 ++ (.row false v0 2 (rowP qc9 o0) :: g2)) = some (resOf [], (g1 ++ (.row false v0 2 (rowP qc9 r) :: (g2 ++ hz)))) ∧ r.length = n0) {g1 : AHeap} {v0 : Nat} {n0 : Nat} {g2 : AHeap} : SimI C 42535296023574879666274036850519702559 qqn9 (qgw9 g1 v0 n0 g2) (qp9 rec) (qeo9 g1 v0 n0 g2) (qjR9 g1 v0 n0 g2) := by
  intro s g r hI hr
  obtain ⟨s1, s2, s3, s10, s11, o0⟩ := s
  have ⟨gt, hg0⟩ : ∃ y, y = g := ⟨_, rfl⟩
  subst hg0
  simp only [qgw9] at hI
  have hI0 := hI
  simp only [qp9] at hr
  rcases iteP hr with ⟨h1, hr⟩ | ⟨h1, hr⟩
  obtain ⟨x1, h2, hr⟩ := bsome hr
  obtain ⟨z2, h2k, h2l0⟩ := qii9 (g1 := g1) (v0 := v0) (n0 := n0) (g2 := (g2 ++ gt)) (show o0.length = n0 by first | assumption | (simp only [llA, lrA]; first | done | assumption | omega) | omega) h2
  replace h2k := qi9 rfl rfl rfl h2k
  try simp only [go_sem] at h2k
  obtain rfl := oiA hr
  refine xl_of ⟨(gt ++ z2), rfl, rfl, (show x1.length = n0 by first | assumption | (simp only [llA, lrA]; first | done | assumption | omega) | omega)⟩ ?_
  rotate_left
  rcases iteP hr with ⟨h3, hr⟩ | ⟨h3, hr⟩
  obtain ⟨x3, h4, hr⟩ := bsome hr
  obtain ⟨z4, h4k, h4l0⟩ := qjW9 (g1 := g1) (v0 := v0) (n0 := n0) (g2 := (g2 ++ gt)) (show o0.length = n0 by first | assumption | (simp only [llA, lrA]; first | done | assumption | omega) | omega) h4
  replace h4k := qi9 rfl rfl rfl h4k
  try simp only [go_sem] at h4k
  obtain rfl := oiA hr
  refine xl_of ⟨(gt ++ z4), rfl, rfl, (show x3.length = n0 by first | assumption | (simp only [llA, lrA]; first | done | assumption | omega) | omega)⟩ ?_
  rotate_left
  rcases iteB hr with ⟨h5, hr⟩ | ⟨h5, hr⟩
  simp only [h5] at hr
  obtain ⟨x5, h6, hr⟩ := bsome hr
  obtain ⟨z6, h6k⟩ := qfp9 (g1 := g1) (v0 := v0) (n0 := n0) (g2 := (g2 ++ gt)) (show o0.length = n0 by first | assumption | (simp only [llA, lrA]; first | done | assumption | omega) | omega) h6
  replace h6k := qi9 rfl rfl rfl h6k
  try simp only [go_sem] at h6k
  rcases iteP hr with ⟨h7, hr⟩ | ⟨h7, hr⟩
  obtain ⟨x7, h8, hr⟩ := bsome hr
  obtain ⟨h8k, h8l0⟩ := qeY9 (g1 := g1) (v0 := v0) (n0 := n0) (g2 := (g2 ++ (gt ++ z6))) (show o0.length = n0 by first | assumption | (simp only [llA, lrA]; first | done | assumption | omega) | omega) h8
  replace h8k := qi9 rfl rfl rfl h8k
  try simp only [go_sem] at h8k
  rcases iteB hr with ⟨h9, hr⟩ | ⟨h9, hr⟩
  simp only [h9] at hr
  obtain ⟨x8, h10, hr⟩ := bsome hr
  obtain ⟨z9, h10k, h10l0⟩ := qdu9 (g1 := g1) (v0 := v0) (n0 := n0) (g2 := (g2 ++ (gt ++ z6))) (show x7.length = n0 by first | assumption | (simp only [llA, lrA]; first | done | assumption | omega) | omega) h10
  replace h10k := qi9 rfl rfl rfl h10k
  try simp only [go_sem] at h10k
  rcases iteB hr with ⟨h11, hr⟩ | ⟨h11, hr⟩
  obtain rfl := oiA hr
  refine xl_of ⟨(gt ++ (z6 ++ z9)), rfl, rfl, (show x8.2.length = n0 by first | assumption | (simp only [llA, lrA]; first | done | assumption | omega) | omega)⟩ ?_
  rotate_left
  rcases iteP hr with ⟨h12, hr⟩ | ⟨h12, hr⟩
  obtain ⟨x10, h13, x11, h14, x12, h15, hr⟩ := bs3 hr
  have h13a := eq_true (qa9 h13).1
  have h13b : ((w64 (s1 - 1)) < (n0 : Int)) = True := eq_true (by have hb : (w64 (s1 - 1)) < (x8.2.length : Int) := (qa9 h13).2.1; omega)
  have h13c := (qa9 h13).2.2
  have h14a := eq_true (qa9 h14).1
  have h14b : ((w64 ((w64 (s2 - 1)) - (w64 (x5.1 - s1)))) < (n0 : Int)) = True := eq_true (by have hb : (w64 ((w64 (s2 - 1)) - (w64 (x5.1 - s1)))) < (x8.2.length : Int) := (qa9 h14).2.1; omega)
  have h14c := (qa9 h14).2.2
  have h15k := fun h => (qv9 h15).o rfl rfl rfl (h := h) (args := [.ag [PI x10.Var, .d (.rd (x10.T.map intD))], .ag [PI x11.Var, .d (.rd (x11.T.map intD))]]) rfl
  try simp only [go_sem] at h15k
  rcases iteP hr with ⟨h16, hr⟩ | ⟨h16, hr⟩
  obtain ⟨x13, h17, x15, h18, hr⟩ := bs2 hr
  obtain ⟨z14, h17k, h17l0⟩ := qz9 (g1 := g1) (v0 := v0) (n0 := n0) (g2 := (g2 ++ (gt ++ (z6 ++ z9)))) (show x8.2.length = n0 by first | assumption | (simp only [llA, lrA]; first | done | assumption | omega) | omega) h17
  replace h17k := qi9 rfl rfl rfl h17k
  try simp only [go_sem] at h17k
  rcases iteP hr with ⟨h19, hr⟩ | ⟨h19, hr⟩
  obtain ⟨x16, h20, hr⟩ := bsome hr
  obtain ⟨z17, h20k, h20l0⟩ := hrec (g1 := g1) (v0 := v0) (n0 := n0) (g2 := (g2 ++ (gt ++ (z6 ++ (z9 ++ z14))))) (show x13.2.2.length = n0 by first | assumption | (simp only [llA, lrA]; first | done | assumption | omega) | omega) h20
  try simp only [go_sem] at h20k
  obtain rfl := oiA hr
  refine ⟨⟨(gt ++ (z6 ++ (z9 ++ (z14 ++ z17)))), ?_⟩, (show x16.length = n0 by first | assumption | (simp only [llA, lrA]; first | done | assumption | omega) | omega)⟩
  rotate_left
  obtain ⟨x18, h21, hr⟩ := bsome hr
  obtain ⟨z19, h21k, h21l0⟩ := hrec (g1 := g1) (v0 := v0) (n0 := n0) (g2 := (g2 ++ (gt ++ (z6 ++ (z9 ++ z14))))) (show x13.2.2.length = n0 by first | assumption | (simp only [llA, lrA]; first | done | assumption | omega) | omega) h21
  try simp only [go_sem] at h21k
  obtain rfl := oiA hr
  refine ⟨⟨(gt ++ (z6 ++ (z9 ++ (z14 ++ z19)))), ?_⟩, (show x18.length = n0 by first | assumption | (simp only [llA, lrA]; first | done | assumption | omega) | omega)⟩
  rotate_left
  obtain ⟨x20, h22, hr⟩ := bsome hr
  obtain ⟨z21, h22k, h22l0⟩ := qU9 (g1 := g1) (v0 := v0) (n0 := n0) (g2 := (g2 ++ (gt ++ (z6 ++ z9)))) (show x8.2.length = n0 by first | assumption | (simp only [llA, lrA]; first | done | assumption | omega) | omega) h22
  replace h22k := qi9 rfl rfl rfl h22k
  try simp only [go_sem] at h22k
  obtain rfl := oiA hr
  refine ⟨⟨(gt ++ (z6 ++ (z9 ++ z21))), ?_⟩, (show x20.2.length = n0 by first | assumption | (simp only [llA, lrA]; first | done | assumption | omega) | omega)⟩
  rotate_left
  obtain ⟨x22, h23, x24, h24, hr⟩ := bs2 hr
  obtain ⟨z23, h23k, h23l0⟩ := qz9 (g1 := g1) (v0 := v0) (n0 := n0) (g2 := (g2 ++ (gt ++ (z6 ++ z9)))) (show x8.2.length = n0 by first | assumption | (simp only [llA, lrA]; first | done | assumption | omega) | omega) h23
  replace h23k := qi9 rfl rfl rfl h23k
  try simp only [go_sem] at h23k
  rcases iteP hr with ⟨h25, hr⟩ | ⟨h25, hr⟩
  obtain ⟨x25, h26, hr⟩ := bsome hr
  obtain ⟨z26, h26k, h26l0⟩ := hrec (g1 := g1) (v0 := v0) (n0 := n0) (g2 := (g2 ++ (gt ++ (z6 ++ (z9 ++ z23))))) (show x22.2.2.length = n0 by first | assumption | (simp only [llA, lrA]; first | done | assumption | omega) | omega) h26
  try simp only [go_sem] at h26k
  obtain rfl := oiA hr
  refine ⟨⟨(gt ++ (z6 ++ (z9 ++ (z23 ++ z26)))), ?_⟩, (show x25.length = n0 by first | assumption | (simp only [llA, lrA]; first | done | assumption | omega) | omega)⟩
  rotate_left
  obtain ⟨x27, h27, hr⟩ := bsome hr
  obtain ⟨z28, h27k, h27l0⟩ := hrec (g1 := g1) (v0 := v0) (n0 := n0) (g2 := (g2 ++ (gt ++ (z6 ++ (z9 ++ z23))))) (show x22.2.2.length = n0 by first | assumption | (simp only [llA, lrA]; first | done | assumption | omega) | omega) h27
  try simp only [go_sem] at h27k
  obtain rfl := oiA hr
  refine ⟨⟨(gt ++ (z6 ++ (z9 ++ (z23 ++ z28)))), ?_⟩, (show x27.length = n0 by first | assumption | (simp only [llA, lrA]; first | done | assumption | omega) | omega)⟩
  rotate_left
  simp only [h9] at hr
  rcases iteP hr with ⟨h28, hr⟩ | ⟨h28, hr⟩
  obtain ⟨x29, h29, x30, h30, x31, h31, hr⟩ := bs3 hr
  have h29a := eq_true (qa9 h29).1
  have h29b : ((w64 (s1 - 1)) < (n0 : Int)) = True := eq_true (by have hb : (w64 (s1 - 1)) < (x7.length : Int) := (qa9 h29).2.1; omega)
  have h29c := (qa9 h29).2.2
  have h30a := eq_true (qa9 h30).1
  have h30b : ((w64 ((w64 (s2 - 1)) - (w64 (x5.1 - s1)))) < (n0 : Int)) = True := eq_true (by have hb : (w64 ((w64 (s2 - 1)) - (w64 (x5.1 - s1)))) < (x7.length : Int) := (qa9 h30).2.1; omega)
  have h30c := (qa9 h30).2.2
  have h31k := fun h => (qv9 h31).o rfl rfl rfl (h := h) (args := [.ag [PI x29.Var, .d (.rd (x29.T.map intD))], .ag [PI x30.Var, .d (.rd (x30.T.map intD))]]) rfl
  try simp only [go_sem] at h31k
  rcases iteP hr with ⟨h32, hr⟩ | ⟨h32, hr⟩
  obtain ⟨x32, h33, x34, h34, hr⟩ := bs2 hr
  obtain ⟨z33, h33k, h33l0⟩ := qz9 (g1 := g1) (v0 := v0) (n0 := n0) (g2 := (g2 ++ (gt ++ z6))) (show x7.length = n0 by first | assumption | (simp only [llA, lrA]; first | done | assumption | omega) | omega) h33
  replace h33k := qi9 rfl rfl rfl h33k
  try simp only [go_sem] at h33k
  rcases iteP hr with ⟨h35, hr⟩ | ⟨h35, hr⟩
  obtain ⟨x35, h36, hr⟩ := bsome hr
  obtain ⟨z36, h36k, h36l0⟩ := hrec (g1 := g1) (v0 := v0) (n0 := n0) (g2 := (g2 ++ (gt ++ (z6 ++ z33)))) (show x32.2.2.length = n0 by first | assumption | (simp only [llA, lrA]; first | done | assumption | omega) | omega) h36
  try simp only [go_sem] at h36k
  obtain rfl := oiA hr
  refine ⟨⟨(gt ++ (z6 ++ (z33 ++ z36))), ?_⟩, (show x35.length = n0 by first | assumption | (simp only [llA, lrA]; first | done | assumption | omega) | omega)⟩
  rotate_left
  obtain ⟨x37, h37, hr⟩ := bsome hr
  obtain ⟨z38, h37k, h37l0⟩ := hrec (g1 := g1) (v0 := v0) (n0 := n0) (g2 := (g2 ++ (gt ++ (z6 ++ z33)))) (show x32.2.2.length = n0 by first | assumption | (simp only [llA, lrA]; first | done | assumption | omega) | omega) h37
  try simp only [go_sem] at h37k
  obtain rfl := oiA hr
  refine ⟨⟨(gt ++ (z6 ++ (z33 ++ z38))), ?_⟩, (show x37.length = n0 by first | assumption | (simp only [llA, lrA]; first | done | assumption | omega) | omega)⟩
  rotate_left
  obtain ⟨x39, h38, hr⟩ := bsome hr
  obtain ⟨z40, h38k, h38l0⟩ := qU9 (g1 := g1) (v0 := v0) (n0 := n0) (g2 := (g2 ++ (gt ++ z6))) (show x7.length = n0 by first | assumption | (simp only [llA, lrA]; first | done | assumption | omega) | omega) h38
  replace h38k := qi9 rfl rfl rfl h38k
  try simp only [go_sem] at h38k
  obtain rfl := oiA hr
  refine ⟨⟨(gt ++ (z6 ++ z40)), ?_⟩, (show x39.2.length = n0 by first | assumption | (simp only [llA, lrA]; first | done | assumption | omega) | omega)⟩
  rotate_left
  obtain ⟨x41, h39, x43, h40, hr⟩ := bs2 hr
  obtain ⟨z42, h39k, h39l0⟩ := qz9 (g1 := g1) (v0 := v0) (n0 := n0) (g2 := (g2 ++ (gt ++ z6))) (show x7.length = n0 by first | assumption | (simp only [llA, lrA]; first | done | assumption | omega) | omega) h39
  replace h39k := qi9 rfl rfl rfl h39k
  try simp only [go_sem] at h39k
  rcases iteP hr with ⟨h41, hr⟩ | ⟨h41, hr⟩
  obtain ⟨x44, h42, hr⟩ := bsome hr
  obtain ⟨z45, h42k, h42l0⟩ := hrec (g1 := g1) (v0 := v0) (n0 := n0) (g2 := (g2 ++ (gt ++ (z6 ++ z42)))) (show x41.2.2.length = n0 by first | assumption | (simp only [llA, lrA]; first | done | assumption | omega) | omega) h42
  try simp only [go_sem] at h42k
  obtain rfl := oiA hr
  refine ⟨⟨(gt ++ (z6 ++ (z42 ++ z45))), ?_⟩, (show x44.length = n0 by first | assumption | (simp only [llA, lrA]; first | done | assumption | omega) | omega)⟩
  rotate_left
  obtain ⟨x46, h43, hr⟩ := bsome hr
  obtain ⟨z47, h43k, h43l0⟩ := hrec (g1 := g1) (v0 := v0) (n0 := n0) (g2 := (g2 ++ (gt ++ (z6 ++ z42)))) (show x41.2.2.length = n0 by first | assumption | (simp only [llA, lrA]; first | done | assumption | omega) | omega) h43
  try simp only [go_sem] at h43k
  obtain rfl := oiA hr
  refine ⟨⟨(gt ++ (z6 ++ (z42 ++ z47))), ?_⟩, (show x46.length = n0 by first | assumption | (simp only [llA, lrA]; first | done | assumption | omega) | omega)⟩
  rotate_left
  rcases iteB hr with ⟨h44, hr⟩ | ⟨h44, hr⟩
  simp only [h44] at hr
  rcases iteP hr with ⟨h45, hr⟩ | ⟨h45, hr⟩
  obtain ⟨x48, h46, hr⟩ := bsome hr
  obtain ⟨z49, h46k, h46l0⟩ := qdu9 (g1 := g1) (v0 := v0) (n0 := n0) (g2 := (g2 ++ (gt ++ z6))) (show o0.length = n0 by first | assumption | (simp only [llA, lrA]; first | done | assumption | omega) | omega) h46
  replace h46k := qi9 rfl rfl rfl h46k
  try simp only [go_sem] at h46k
  rcases iteB hr with ⟨h47, hr⟩ | ⟨h47, hr⟩
  obtain rfl := oiA hr
  refine xl_of ⟨(gt ++ (z6 ++ z49)), rfl, rfl, (show x48.2.length = n0 by first | assumption | (simp only [llA, lrA]; first | done | assumption | omega) | omega)⟩ ?_
  rotate_left
  rcases iteP hr with ⟨h48, hr⟩ | ⟨h48, hr⟩
  obtain ⟨x50, h49, x51, h50, x52, h51, hr⟩ := bs3 hr
  have h49a := eq_true (qa9 h49).1
  have h49b : ((w64 (s1 - 1)) < (n0 : Int)) = True := eq_true (by have hb : (w64 (s1 - 1)) < (x48.2.length : Int) := (qa9 h49).2.1; omega)
  have h49c := (qa9 h49).2.2
  have h50a := eq_true (qa9 h50).1
  have h50b : (x5.1 < (n0 : Int)) = True := eq_true (by have hb : x5.1 < (x48.2.length : Int) := (qa9 h50).2.1; omega)
  have h50c := (qa9 h50).2.2
  have h51k := fun h => (qv9 h51).o rfl rfl rfl (h := h) (args := [.ag [PI x50.Var, .d (.rd (x50.T.map intD))], .ag [PI x51.Var, .d (.rd (x51.T.map intD))]]) rfl
  try simp only [go_sem] at h51k
  rcases iteP hr with ⟨h52, hr⟩ | ⟨h52, hr⟩
  obtain ⟨x53, h53, x55, h54, hr⟩ := bs2 hr
  obtain ⟨z54, h53k, h53l0⟩ := qz9 (g1 := g1) (v0 := v0) (n0 := n0) (g2 := (g2 ++ (gt ++ (z6 ++ z49)))) (show x48.2.length = n0 by first | assumption | (simp only [llA, lrA]; first | done | assumption | omega) | omega) h53
  replace h53k := qi9 rfl rfl rfl h53k
  try simp only [go_sem] at h53k
  rcases iteP hr with ⟨h55, hr⟩ | ⟨h55, hr⟩
  obtain ⟨x56, h56, hr⟩ := bsome hr
  obtain ⟨z57, h56k, h56l0⟩ := hrec (g1 := g1) (v0 := v0) (n0 := n0) (g2 := (g2 ++ (gt ++ (z6 ++ (z49 ++ z54))))) (show x53.2.2.length = n0 by first | assumption | (simp only [llA, lrA]; first | done | assumption | omega) | omega) h56
  try simp only [go_sem] at h56k
  obtain rfl := oiA hr
  refine ⟨⟨(gt ++ (z6 ++ (z49 ++ (z54 ++ z57)))), ?_⟩, (show x56.length = n0 by first | assumption | (simp only [llA, lrA]; first | done | assumption | omega) | omega)⟩
  rotate_left
  obtain ⟨x58, h57, hr⟩ := bsome hr
  obtain ⟨z59, h57k, h57l0⟩ := hrec (g1 := g1) (v0 := v0) (n0 := n0) (g2 := (g2 ++ (gt ++ (z6 ++ (z49 ++ z54))))) (show x53.2.2.length = n0 by first | assumption | (simp only [llA, lrA]; first | done | assumption | omega) | omega) h57
  try simp only [go_sem] at h57k
  obtain rfl := oiA hr
  refine ⟨⟨(gt ++ (z6 ++ (z49 ++ (z54 ++ z59)))), ?_⟩, (show x58.length = n0 by first | assumption | (simp only [llA, lrA]; first | done | assumption | omega) | omega)⟩
  rotate_left
  obtain ⟨x60, h58, hr⟩ := bsome hr
  obtain ⟨z61, h58k, h58l0⟩ := qU9 (g1 := g1) (v0 := v0) (n0 := n0) (g2 := (g2 ++ (gt ++ (z6 ++ z49)))) (show x48.2.length = n0 by first | assumption | (simp only [llA, lrA]; first | done | assumption | omega) | omega) h58
  replace h58k := qi9 rfl rfl rfl h58k
  try simp only [go_sem] at h58k
  obtain rfl := oiA hr
  refine ⟨⟨(gt ++ (z6 ++ (z49 ++ z61))), ?_⟩, (show x60.2.length = n0 by first | assumption | (simp only [llA, lrA]; first | done | assumption | omega) | omega)⟩
  rotate_left
  obtain ⟨x62, h59, x64, h60, hr⟩ := bs2 hr
  obtain ⟨z63, h59k, h59l0⟩ := qz9 (g1 := g1) (v0 := v0) (n0 := n0) (g2 := (g2 ++ (gt ++ (z6 ++ z49)))) (show x48.2.length = n0 by first | assumption | (simp only [llA, lrA]; first | done | assumption | omega) | omega) h59
  replace h59k := qi9 rfl rfl rfl h59k
  try simp only [go_sem] at h59k
  rcases iteP hr with ⟨h61, hr⟩ | ⟨h61, hr⟩
  obtain ⟨x65, h62, hr⟩ := bsome hr
  obtain ⟨z66, h62k, h62l0⟩ := hrec (g1 := g1) (v0 := v0) (n0 := n0) (g2 := (g2 ++ (gt ++ (z6 ++ (z49 ++ z63))))) (show x62.2.2.length = n0 by first | assumption | (simp only [llA, lrA]; first | done | assumption | omega) | omega) h62
  try simp only [go_sem] at h62k
  obtain rfl := oiA hr
  refine ⟨⟨(gt ++ (z6 ++ (z49 ++ (z63 ++ z66)))), ?_⟩, (show x65.length = n0 by first | assumption | (simp only [llA, lrA]; first | done | assumption | omega) | omega)⟩
  rotate_left
  obtain ⟨x67, h63, hr⟩ := bsome hr
  obtain ⟨z68, h63k, h63l0⟩ := hrec (g1 := g1) (v0 := v0) (n0 := n0) (g2 := (g2 ++ (gt ++ (z6 ++ (z49 ++ z63))))) (show x62.2.2.length = n0 by first | assumption | (simp only [llA, lrA]; first | done | assumption | omega) | omega) h63
  try simp only [go_sem] at h63k
  obtain rfl := oiA hr
  refine ⟨⟨(gt ++ (z6 ++ (z49 ++ (z63 ++ z68)))), ?_⟩, (show x67.length = n0 by first | assumption | (simp only [llA, lrA]; first | done | assumption | omega) | omega)⟩
  rotate_left
  rcases iteP hr with ⟨h64, hr⟩ | ⟨h64, hr⟩
  obtain ⟨x69, h65, x70, h66, x71, h67, hr⟩ := bs3 hr
  have h65a := eq_true (qa9 h65).1
  have h65b : ((w64 (s1 - 1)) < (n0 : Int)) = True := eq_true (by have hb : (w64 (s1 - 1)) < (o0.length : Int) := (qa9 h65).2.1; omega)
  have h65c := (qa9 h65).2.2
  have h66a := eq_true (qa9 h66).1
  have h66b : (x5.1 < (n0 : Int)) = True := eq_true (by have hb : x5.1 < (o0.length : Int) := (qa9 h66).2.1; omega)
  have h66c := (qa9 h66).2.2
  have h67k := fun h => (qv9 h67).o rfl rfl rfl (h := h) (args := [.ag [PI x69.Var, .d (.rd (x69.T.map intD))], .ag [PI x70.Var, .d (.rd (x70.T.map intD))]]) rfl
  try simp only [go_sem] at h67k
  rcases iteP hr with ⟨h68, hr⟩ | ⟨h68, hr⟩
  obtain ⟨x72, h69, x74, h70, hr⟩ := bs2 hr
  obtain ⟨z73, h69k, h69l0⟩ := qz9 (g1 := g1) (v0 := v0) (n0 := n0) (g2 := (g2 ++ (gt ++ z6))) (show o0.length = n0 by first | assumption | (simp only [llA, lrA]; first | done | assumption | omega) | omega) h69
  replace h69k := qi9 rfl rfl rfl h69k
  try simp only [go_sem] at h69k
  rcases iteP hr with ⟨h71, hr⟩ | ⟨h71, hr⟩
  obtain ⟨x75, h72, hr⟩ := bsome hr
  obtain ⟨z76, h72k, h72l0⟩ := hrec (g1 := g1) (v0 := v0) (n0 := n0) (g2 := (g2 ++ (gt ++ (z6 ++ z73)))) (show x72.2.2.length = n0 by first | assumption | (simp only [llA, lrA]; first | done | assumption | omega) | omega) h72
  try simp only [go_sem] at h72k
  obtain rfl := oiA hr
  refine ⟨⟨(gt ++ (z6 ++ (z73 ++ z76))), ?_⟩, (show x75.length = n0 by first | assumption | (simp only [llA, lrA]; first | done | assumption | omega) | omega)⟩
  rotate_left
  obtain ⟨x77, h73, hr⟩ := bsome hr
  obtain ⟨z78, h73k, h73l0⟩ := hrec (g1 := g1) (v0 := v0) (n0 := n0) (g2 := (g2 ++ (gt ++ (z6 ++ z73)))) (show x72.2.2.length = n0 by first | assumption | (simp only [llA, lrA]; first | done | assumption | omega) | omega) h73
  try simp only [go_sem] at h73k
  obtain rfl := oiA hr
  refine ⟨⟨(gt ++ (z6 ++ (z73 ++ z78))), ?_⟩, (show x77.length = n0 by first | assumption | (simp only [llA, lrA]; first | done | assumption | omega) | omega)⟩
  rotate_left
  obtain ⟨x79, h74, hr⟩ := bsome hr
  obtain ⟨z80, h74k, h74l0⟩ := qU9 (g1 := g1) (v0 := v0) (n0 := n0) (g2 := (g2 ++ (gt ++ z6))) (show o0.length = n0 by first | assumption | (simp only [llA, lrA]; first | done | assumption | omega) | omega) h74
  replace h74k := qi9 rfl rfl rfl h74k
  try simp only [go_sem] at h74k
  obtain rfl := oiA hr
  refine ⟨⟨(gt ++ (z6 ++ z80)), ?_⟩, (show x79.2.length = n0 by first | assumption | (simp only [llA, lrA]; first | done | assumption | omega) | omega)⟩
  rotate_left
  obtain ⟨x81, h75, x83, h76, hr⟩ := bs2 hr
  obtain ⟨z82, h75k, h75l0⟩ := qz9 (g1 := g1) (v0 := v0) (n0 := n0) (g2 := (g2 ++ (gt ++ z6))) (show o0.length = n0 by first | assumption | (simp only [llA, lrA]; first | done | assumption | omega) | omega) h75
  replace h75k := qi9 rfl rfl rfl h75k
  try simp only [go_sem] at h75k
  rcases iteP hr with ⟨h77, hr⟩ | ⟨h77, hr⟩
  obtain ⟨x84, h78, hr⟩ := bsome hr
  obtain ⟨z85, h78k, h78l0⟩ := hrec (g1 := g1) (v0 := v0) (n0 := n0) (g2 := (g2 ++ (gt ++ (z6 ++ z82)))) (show x81.2.2.length = n0 by first | assumption | (simp only [llA, lrA]; first | done | assumption | omega) | omega) h78
  try simp only [go_sem] at h78k
  obtain rfl := oiA hr
  refine ⟨⟨(gt ++ (z6 ++ (z82 ++ z85))), ?_⟩, (show x84.length = n0 by first | assumption | (simp only [llA, lrA]; first | done | assumption | omega) | omega)⟩
  rotate_left
  obtain ⟨x86, h79, hr⟩ := bsome hr
  obtain ⟨z87, h79k, h79l0⟩ := hrec (g1 := g1) (v0 := v0) (n0 := n0) (g2 := (g2 ++ (gt ++ (z6 ++ z82)))) (show x81.2.2.length = n0 by first | assumption | (simp only [llA, lrA]; first | done | assumption | omega) | omega) h79
  try simp only [go_sem] at h79k
  obtain rfl := oiA hr
  refine ⟨⟨(gt ++ (z6 ++ (z82 ++ z87))), ?_⟩, (show x86.length = n0 by first | assumption | (simp only [llA, lrA]; first | done | assumption | omega) | omega)⟩
  rotate_left
  simp only [h44] at hr
  rcases iteP hr with ⟨h80, hr⟩ | ⟨h80, hr⟩
  obtain ⟨x88, h81, x89, h82, x90, h83, hr⟩ := bs3 hr
  have h81a := eq_true (qa9 h81).1
  have h81b : ((w64 (s1 - 1)) < (n0 : Int)) = True := eq_true (by have hb : (w64 (s1 - 1)) < (o0.length : Int) := (qa9 h81).2.1; omega)
  have h81c := (qa9 h81).2.2
  have h82a := eq_true (qa9 h82).1
  have h82b : (x5.1 < (n0 : Int)) = True := eq_true (by have hb : x5.1 < (o0.length : Int) := (qa9 h82).2.1; omega)
  have h82c := (qa9 h82).2.2
  have h83k := fun h => (qv9 h83).o rfl rfl rfl (h := h) (args := [.ag [PI x88.Var, .d (.rd (x88.T.map intD))], .ag [PI x89.Var, .d (.rd (x89.T.map intD))]]) rfl
  try simp only [go_sem] at h83k
  rcases iteP hr with ⟨h84, hr⟩ | ⟨h84, hr⟩
  obtain ⟨x91, h85, x93, h86, hr⟩ := bs2 hr
  obtain ⟨z92, h85k, h85l0⟩ := qz9 (g1 := g1) (v0 := v0) (n0 := n0) (g2 := (g2 ++ (gt ++ z6))) (show o0.length = n0 by first | assumption | (simp only [llA, lrA]; first | done | assumption | omega) | omega) h85
  replace h85k := qi9 rfl rfl rfl h85k
  try simp only [go_sem] at h85k
  rcases iteP hr with ⟨h87, hr⟩ | ⟨h87, hr⟩
  obtain ⟨x94, h88, hr⟩ := bsome hr
  obtain ⟨z95, h88k, h88l0⟩ := hrec (g1 := g1) (v0 := v0) (n0 := n0) (g2 := (g2 ++ (gt ++ (z6 ++ z92)))) (show x91.2.2.length = n0 by first | assumption | (simp only [llA, lrA]; first | done | assumption | omega) | omega) h88
  try simp only [go_sem] at h88k
  obtain rfl := oiA hr
  refine ⟨⟨(gt ++ (z6 ++ (z92 ++ z95))), ?_⟩, (show x94.length = n0 by first | assumption | (simp only [llA, lrA]; first | done | assumption | omega) | omega)⟩
  rotate_left
  obtain ⟨x96, h89, hr⟩ := bsome hr
  obtain ⟨z97, h89k, h89l0⟩ := hrec (g1 := g1) (v0 := v0) (n0 := n0) (g2 := (g2 ++ (gt ++ (z6 ++ z92)))) (show x91.2.2.length = n0 by first | assumption | (simp only [llA, lrA]; first | done | assumption | omega) | omega) h89
  try simp only [go_sem] at h89k
  obtain rfl := oiA hr
  refine ⟨⟨(gt ++ (z6 ++ (z92 ++ z97))), ?_⟩, (show x96.length = n0 by first | assumption | (simp only [llA, lrA]; first | done | assumption | omega) | omega)⟩
  rotate_left
  obtain ⟨x98, h90, hr⟩ := bsome hr
  obtain ⟨z99, h90k, h90l0⟩ := qU9 (g1 := g1) (v0 := v0) (n0 := n0) (g2 := (g2 ++ (gt ++ z6))) (show o0.length = n0 by first | assumption | (simp only [llA, lrA]; first | done | assumption | omega) | omega) h90
  replace h90k := qi9 rfl rfl rfl h90k
  try simp only [go_sem] at h90k
  obtain rfl := oiA hr
  refine ⟨⟨(gt ++ (z6 ++ z99)), ?_⟩, (show x98.2.length = n0 by first | assumption | (simp only [llA, lrA]; first | done | assumption | omega) | omega)⟩
  rotate_left
  obtain ⟨x100, h91, x102, h92, hr⟩ := bs2 hr
  obtain ⟨z101, h91k, h91l0⟩ := qz9 (g1 := g1) (v0 := v0) (n0 := n0) (g2 := (g2 ++ (gt ++ z6))) (show o0.length = n0 by first | assumption | (simp only [llA, lrA]; first | done | assumption | omega) | omega) h91
  replace h91k := qi9 rfl rfl rfl h91k
  try simp only [go_sem] at h91k
  rcases iteP hr with ⟨h93, hr⟩ | ⟨h93, hr⟩
  obtain ⟨x103, h94, hr⟩ := bsome hr
  obtain ⟨z104, h94k, h94l0⟩ := hrec (g1 := g1) (v0 := v0) (n0 := n0) (g2 := (g2 ++ (gt ++ (z6 ++ z101)))) (show x100.2.2.length = n0 by first | assumption | (simp only [llA, lrA]; first | done | assumption | omega) | omega) h94
  try simp only [go_sem] at h94k
  obtain rfl := oiA hr
  refine ⟨⟨(gt ++ (z6 ++ (z101 ++ z104))), ?_⟩, (show x103.length = n0 by first | assumption | (simp only [llA, lrA]; first | done | assumption | omega) | omega)⟩
  rotate_left
  obtain ⟨x105, h95, hr⟩ := bsome hr
  obtain ⟨z106, h95k, h95l0⟩ := hrec (g1 := g1) (v0 := v0) (n0 := n0) (g2 := (g2 ++ (gt ++ (z6 ++ z101)))) (show x100.2.2.length = n0 by first | assumption | (simp only [llA, lrA]; first | done | assumption | omega) | omega) h95
  try simp only [go_sem] at h95k
  obtain rfl := oiA hr
  refine ⟨⟨(gt ++ (z6 ++ (z101 ++ z106))), ?_⟩, (show x105.length = n0 by first | assumption | (simp only [llA, lrA]; first | done | assumption | omega) | omega)⟩
  rotate_left
  simp only [h5] at hr
  obtain ⟨x107, h96, x109, h97, hr⟩ := bs2 hr
  obtain ⟨z108, h96k, h96l0⟩ := qik9 (g1 := g1) (v0 := v0) (n0 := n0) (g2 := (g2 ++ gt)) (show o0.length = n0 by first | assumption | (simp only [llA, lrA]; first | done | assumption | omega) | omega) h96
  replace h96k := qi9 rfl rfl rfl h96k
  try simp only [go_sem] at h96k
  obtain ⟨z110, h97k⟩ := qfp9 (g1 := g1) (v0 := v0) (n0 := n0) (g2 := (g2 ++ (gt ++ z108))) (show x107.length = n0 by first | assumption | (simp only [llA, lrA]; first | done | assumption | omega) | omega) h97
  replace h97k := qi9 rfl rfl rfl h97k
  try simp only [go_sem] at h97k
  rcases iteP hr with ⟨h98, hr⟩ | ⟨h98, hr⟩
  obtain ⟨x111, h99, hr⟩ := bsome hr
  obtain ⟨h99k, h99l0⟩ := qeY9 (g1 := g1) (v0 := v0) (n0 := n0) (g2 := (g2 ++ (gt ++ (z108 ++ z110)))) (show x107.length = n0 by first | assumption | (simp only [llA, lrA]; first | done | assumption | omega) | omega) h99
  replace h99k := qi9 rfl rfl rfl h99k
  try simp only [go_sem] at h99k
  rcases iteP hr with ⟨h100, hr⟩ | ⟨h100, hr⟩
  obtain ⟨x112, h101, x113, h102, x114, h103, hr⟩ := bs3 hr
  have h101a := eq_true (qa9 h101).1
  have h101b : ((w64 (s1 - 1)) < (n0 : Int)) = True := eq_true (by have hb : (w64 (s1 - 1)) < (x111.length : Int) := (qa9 h101).2.1; omega)
  have h101c := (qa9 h101).2.2
  have h102a := eq_true (qa9 h102).1
  have h102b : ((w64 ((w64 (s2 - 1)) - (w64 (x109.1 - s1)))) < (n0 : Int)) = True := eq_true (by have hb : (w64 ((w64 (s2 - 1)) - (w64 (x109.1 - s1)))) < (x111.length : Int) := (qa9 h102).2.1; omega)
  have h102c := (qa9 h102).2.2
  have h103k := fun h => (qv9 h103).o rfl rfl rfl (h := h) (args := [.ag [PI x112.Var, .d (.rd (x112.T.map intD))], .ag [PI x113.Var, .d (.rd (x113.T.map intD))]]) rfl
  try simp only [go_sem] at h103k
  rcases iteP hr with ⟨h104, hr⟩ | ⟨h104, hr⟩
  obtain ⟨x115, h105, x117, h106, hr⟩ := bs2 hr
  obtain ⟨z116, h105k, h105l0⟩ := qz9 (g1 := g1) (v0 := v0) (n0 := n0) (g2 := (g2 ++ (gt ++ (z108 ++ z110)))) (show x111.length = n0 by first | assumption | (simp only [llA, lrA]; first | done | assumption | omega) | omega) h105
  replace h105k := qi9 rfl rfl rfl h105k
  try simp only [go_sem] at h105k
  rcases iteP hr with ⟨h107, hr⟩ | ⟨h107, hr⟩
  obtain ⟨x118, h108, hr⟩ := bsome hr
  obtain ⟨z119, h108k, h108l0⟩ := hrec (g1 := g1) (v0 := v0) (n0 := n0) (g2 := (g2 ++ (gt ++ (z108 ++ (z110 ++ z116))))) (show x115.2.2.length = n0 by first | assumption | (simp only [llA, lrA]; first | done | assumption | omega) | omega) h108
  try simp only [go_sem] at h108k
  obtain rfl := oiA hr
  refine ⟨⟨(gt ++ (z108 ++ (z110 ++ (z116 ++ z119)))), ?_⟩, (show x118.length = n0 by first | assumption | (simp only [llA, lrA]; first | done | assumption | omega) | omega)⟩
  rotate_left
  obtain ⟨x120, h109, hr⟩ := bsome hr
  obtain ⟨z121, h109k, h109l0⟩ := hrec (g1 := g1) (v0 := v0) (n0 := n0) (g2 := (g2 ++ (gt ++ (z108 ++ (z110 ++ z116))))) (show x115.2.2.length = n0 by first | assumption | (simp only [llA, lrA]; first | done | assumption | omega) | omega) h109
  try simp only [go_sem] at h109k
  obtain rfl := oiA hr
  refine ⟨⟨(gt ++ (z108 ++ (z110 ++ (z116 ++ z121)))), ?_⟩, (show x120.length = n0 by first | assumption | (simp only [llA, lrA]; first | done | assumption | omega) | omega)⟩
  rotate_left
  obtain ⟨x122, h110, hr⟩ := bsome hr
  obtain ⟨z123, h110k, h110l0⟩ := qU9 (g1 := g1) (v0 := v0) (n0 := n0) (g2 := (g2 ++ (gt ++ (z108 ++ z110)))) (show x111.length = n0 by first | assumption | (simp only [llA, lrA]; first | done | assumption | omega) | omega) h110
  replace h110k := qi9 rfl rfl rfl h110k
  try simp only [go_sem] at h110k
  obtain rfl := oiA hr
  refine ⟨⟨(gt ++ (z108 ++ (z110 ++ z123))), ?_⟩, (show x122.2.length = n0 by first | assumption | (simp only [llA, lrA]; first | done | assumption | omega) | omega)⟩
  rotate_left
  obtain ⟨x124, h111, x126, h112, hr⟩ := bs2 hr
  obtain ⟨z125, h111k, h111l0⟩ := qz9 (g1 := g1) (v0 := v0) (n0 := n0) (g2 := (g2 ++ (gt ++ (z108 ++ z110)))) (show x111.length = n0 by first | assumption | (simp only [llA, lrA]; first | done | assumption | omega) | omega) h111
  replace h111k := qi9 rfl rfl rfl h111k
  try simp only [go_sem] at h111k
  rcases iteP hr with ⟨h113, hr⟩ | ⟨h113, hr⟩
  obtain ⟨x127, h114, hr⟩ := bsome hr
  obtain ⟨z128, h114k, h114l0⟩ := hrec (g1 := g1) (v0 := v0) (n0 := n0) (g2 := (g2 ++ (gt ++ (z108 ++ (z110 ++ z125))))) (show x124.2.2.length = n0 by first | assumption | (simp only [llA, lrA]; first | done | assumption | omega) | omega) h114
  try simp only [go_sem] at h114k
  obtain rfl := oiA hr
  refine ⟨⟨(gt ++ (z108 ++ (z110 ++ (z125 ++ z128)))), ?_⟩, (show x127.length = n0 by first | assumption | (simp only [llA, lrA]; first | done | assumption | omega) | omega)⟩
  rotate_left
  obtain ⟨x129, h115, hr⟩ := bsome hr
  obtain ⟨z130, h115k, h115l0⟩ := hrec (g1 := g1) (v0 := v0) (n0 := n0) (g2 := (g2 ++ (gt ++ (z108 ++ (z110 ++ z125))))) (show x124.2.2.length = n0 by first | assumption | (simp only [llA, lrA]; first | done | assumption | omega) | omega) h115
  try simp only [go_sem] at h115k
  obtain rfl := oiA hr
  refine ⟨⟨(gt ++ (z108 ++ (z110 ++ (z125 ++ z130)))), ?_⟩, (show x129.length = n0 by first | assumption | (simp only [llA, lrA]; first | done | assumption | omega) | omega)⟩
  rotate_left
  rcases iteP hr with ⟨h116, hr⟩ | ⟨h116, hr⟩
  obtain ⟨x131, h117, x132, h118, x133, h119, hr⟩ := bs3 hr
  have h117a := eq_true (qa9 h117).1
  have h117b : ((w64 (s1 - 1)) < (n0 : Int)) = True := eq_true (by have hb : (w64 (s1 - 1)) < (x107.length : Int) := (qa9 h117).2.1; omega)
  have h117c := (qa9 h117).2.2
  have h118a := eq_true (qa9 h118).1
  have h118b : (x109.1 < (n0 : Int)) = True := eq_true (by have hb : x109.1 < (x107.length : Int) := (qa9 h118).2.1; omega)
  have h118c := (qa9 h118).2.2
  have h119k := fun h => (qv9 h119).o rfl rfl rfl (h := h) (args := [.ag [PI x131.Var, .d (.rd (x131.T.map intD))], .ag [PI x132.Var, .d (.rd (x132.T.map intD))]]) rfl
  try simp only [go_sem] at h119k
  rcases iteP hr with ⟨h120, hr⟩ | ⟨h120, hr⟩
  obtain ⟨x134, h121, x136, h122, hr⟩ := bs2 hr
  obtain ⟨z135, h121k, h121l0⟩ := qz9 (g1 := g1) (v0 := v0) (n0 := n0) (g2 := (g2 ++ (gt ++ (z108 ++ z110)))) (show x107.length = n0 by first | assumption | (simp only [llA, lrA]; first | done | assumption | omega) | omega) h121
  replace h121k := qi9 rfl rfl rfl h121k
  try simp only [go_sem] at h121k
  rcases iteP hr with ⟨h123, hr⟩ | ⟨h123, hr⟩
  obtain ⟨x137, h124, hr⟩ := bsome hr
  obtain ⟨z138, h124k, h124l0⟩ := hrec (g1 := g1) (v0 := v0) (n0 := n0) (g2 := (g2 ++ (gt ++ (z108 ++ (z110 ++ z135))))) (show x134.2.2.length = n0 by first | assumption | (simp only [llA, lrA]; first | done | assumption | omega) | omega) h124
  try simp only [go_sem] at h124k
  obtain rfl := oiA hr
  refine ⟨⟨(gt ++ (z108 ++ (z110 ++ (z135 ++ z138)))), ?_⟩, (show x137.length = n0 by first | assumption | (simp only [llA, lrA]; first | done | assumption | omega) | omega)⟩
  rotate_left
  obtain ⟨x139, h125, hr⟩ := bsome hr
  obtain ⟨z140, h125k, h125l0⟩ := hrec (g1 := g1) (v0 := v0) (n0 := n0) (g2 := (g2 ++ (gt ++ (z108 ++ (z110 ++ z135))))) (show x134.2.2.length = n0 by first | assumption | (simp only [llA, lrA]; first | done | assumption | omega) | omega) h125
  try simp only [go_sem] at h125k
  obtain rfl := oiA hr
  refine ⟨⟨(gt ++ (z108 ++ (z110 ++ (z135 ++ z140)))), ?_⟩, (show x139.length = n0 by first | assumption | (simp only [llA, lrA]; first | done | assumption | omega) | omega)⟩
  rotate_left
  obtain ⟨x141, h126, hr⟩ := bsome hr
  obtain ⟨z142, h126k, h126l0⟩ := qU9 (g1 := g1) (v0 := v0) (n0 := n0) (g2 := (g2 ++ (gt ++ (z108 ++ z110)))) (show x107.length = n0 by first | assumption | (simp only [llA, lrA]; first | done | assumption | omega) | omega) h126
  replace h126k := qi9 rfl rfl rfl h126k
  try simp only [go_sem] at h126k
  obtain rfl := oiA hr
  refine ⟨⟨(gt ++ (z108 ++ (z110 ++ z142))), ?_⟩, (show x141.2.length = n0 by first | assumption | (simp only [llA, lrA]; first | done | assumption | omega) | omega)⟩
  rotate_left
  obtain ⟨x143, h127, x145, h128, hr⟩ := bs2 hr
  obtain ⟨z144, h127k, h127l0⟩ := qz9 (g1 := g1) (v0 := v0) (n0 := n0) (g2 := (g2 ++ (gt ++ (z108 ++ z110)))) (show x107.length = n0 by first | assumption | (simp only [llA, lrA]; first | done | assumption | omega) | omega) h127
  replace h127k := qi9 rfl rfl rfl h127k
  try simp only [go_sem] at h127k
  rcases iteP hr with ⟨h129, hr⟩ | ⟨h129, hr⟩
  obtain ⟨x146, h130, hr⟩ := bsome hr
  obtain ⟨z147, h130k, h130l0⟩ := hrec (g1 := g1) (v0 := v0) (n0 := n0) (g2 := (g2 ++ (gt ++ (z108 ++ (z110 ++ z144))))) (show x143.2.2.length = n0 by first | assumption | (simp only [llA, lrA]; first | done | assumption | omega) | omega) h130
  try simp only [go_sem] at h130k
  obtain rfl := oiA hr
  refine ⟨⟨(gt ++ (z108 ++ (z110 ++ (z144 ++ z147)))), ?_⟩, (show x146.length = n0 by first | assumption | (simp only [llA, lrA]; first | done | assumption | omega) | omega)⟩
  rotate_left
  obtain ⟨x148, h131, hr⟩ := bsome hr
  obtain ⟨z149, h131k, h131l0⟩ := hrec (g1 := g1) (v0 := v0) (n0 := n0) (g2 := (g2 ++ (gt ++ (z108 ++ (z110 ++ z144))))) (show x143.2.2.length = n0 by first | assumption | (simp only [llA, lrA]; first | done | assumption | omega) | omega) h131
  try simp only [go_sem] at h131k
  obtain rfl := oiA hr
  refine ⟨⟨(gt ++ (z108 ++ (z110 ++ (z144 ++ z149)))), ?_⟩, (show x148.length = n0 by first | assumption | (simp only [llA, lrA]; first | done | assumption | omega) | omega)⟩
  rotate_left
  all_goals (simp +decide only [go_sem, qeo9, qqn9, *])
theorem qjM9 {rec : Int × Int × Int × (List Bind) → Option ((List Bind))} (hrec : ∀ {s1 : Int} {s2 : Int} {s3 : Int} {o0 : List Bind} {g1 : AHeap} {v0 : Nat} {n0 : Nat} {g2 : AHeap} (hln0 : o0.length = n0) {r : (List Bind)} (_ : rec (s1, s2, s3, o0) = some r), ∃ hz : AHeap, callP C (Lim C) 105 [.ref g1.length v0 0 n0, PI s1, PI s2, PI s3, .fn 84 []] (g1 ++ (.row false v0 2 (rowP qc9 o0) :: g2)) = some (resOf [], (g1 ++ (.row false v0 2 (rowP qc9 r) :: (g2 ++ hz)))) ∧ r.length = n0) {s1 : Int} {s2 : Int} {s3 : Int} {o0 : List Bind} {g1 : AHeap} {v0 : Nat} {n0 : Nat} {g2 : AHeap} (hln0 : o0.length = n0) {r : (List Bind)} (hr : qbn9 rec s1 s2 s3 o0 = some r) : ∃ hz : AHeap, Lim C 105 [.ref g1.length v0 0 n0, PI s1, PI s2, PI s3, .fn 84 []] (g1 ++ (.row false v0 2 (rowP qc9 o0) :: g2)) = some (resOf [], (g1 ++ (.row false v0 2 (rowP qc9 r) :: (g2 ++ hz)))) ∧ r.length = n0 := by
  simp only [qbn9] at hr
  obtain ⟨x150, h1, hr⟩ := bsome hr
  obtain ⟨q1, h1L, h1X⟩ := (qjV9 hrec (g1 := g1) (v0 := v0) (n0 := n0) (g2 := g2)).L (g := []) h1 (show o0.length = n0 by first | assumption | (simp only [llA, lrA]; first | done | assumption | omega) | omega)
  have ⟨x151, hq1⟩ : ∃ y, y = x150 := ⟨_, rfl⟩
  subst hq1
  try dsimp only at hr
  obtain ⟨st1, _, _, rfl, h1R, y3, rfl, rfl, h1f0⟩ := h1X
  simp only [qeo9, go_sem] at h1L
  try simp only [hln0] at h1L
  obtain rfl := oiA hr
  refine ⟨y3, run_L is105 (nbA rfl) ?_, h1f0⟩
  rotate_left
  all_goals (simp +decide only [go_sem, c105, *])
theorem qkb9 {s1 : Int} {s2 : Int} {s3 : Int} {o0 : List Bind} {g1 : AHeap} {v0 : Nat} {n0 : Nat} {g2 : AHeap} (hln0 : o0.length = n0) {r : (List Bind)} (hr : qdU9 s1 s2 s3 o0 = some r) : ∃ hz : AHeap, Lim C 105 [.ref g1.length v0 0 n0, PI s1, PI s2, PI s3, .fn 84 []] (g1 ++ (.row false v0 2 (rowP qc9 o0) :: g2)) = some (resOf [], (g1 ++ (.row false v0 2 (rowP qc9 r) :: (g2 ++ hz)))) ∧ r.length = n0 := by
  obtain ⟨n, hn⟩ := qkj9 hr
  clear hr
  induction n generalizing s1 s2 s3 o0 g1 v0 n0 g2 r with
  | zero => cases hn
  | succ n ih =>
    refine qjM9 (rec := fixN _ n) (fun {s1} {s2} {s3} {o0} {g1} {v0} {n0} {g2} hln0 {r} hr => ?_) hln0 (g1 := g1) (v0 := v0) (n0 := n0) (g2 := g2) hn
    obtain ⟨hz, h1, f0⟩ := ih hln0 (g1 := g1) (v0 := v0) (n0 := n0) (g2 := g2) hr
    exact ⟨hz, qi9 rfl rfl rfl h1, f0⟩
def c83 : ACode := .seq (.reg [] [] [.M 5 0, .T 6 (.len (.tmp 5)), .N 4 6]) (.reg [] [] [.M 7 0, .M 8 4, .M 9 4, .T 10 (.wrap .u64 (.tmp 9)), .T 11 (.call 106 [.tmp 10]), .M 12 1, .T 13 (.call 105 [.tmp 7, .const (.int .i64 0), .tmp 8, .tmp 11, .tmp 12])])
theorem is83 : IsF C 83 14 19 c83 [] := ⟨⟨Tryd.f83, _, C_P ▸ Tryd.func83, rfl, rfl, rfl, by kernel_rfl, rfl⟩⟩
theorem qjH9 {o0 : List Bind} {g1 : AHeap} {v0 : Nat} {n0 : Nat} {g2 : AHeap} (hln0 : o0.length = n0) {r : (List Bind)} (hr : qct9 o0 = some r) : ∃ hz : AHeap, Lim C 83 [.ref g1.length v0 0 n0, .fn 84 []] (g1 ++ (.row false v0 2 (rowP qc9 o0) :: g2)) = some (resOf [], (g1 ++ (.row false v0 2 (rowP qc9 r) :: (g2 ++ hz)))) ∧ r.length = n0 := by
  simp only [qct9] at hr
  obtain ⟨x1, h1, x2, h2, hr⟩ := bs2 hr
  have h1k := fun h => qiT9 (h := h) h1
  try simp only [go_sem] at h1k
  try simp only [hln0] at h1k
  obtain ⟨z3, h2k, h2l0⟩ := qkb9 (g1 := g1) (v0 := v0) (n0 := n0) (g2 := g2) (show o0.length = n0 by first | assumption | (simp only [llA, lrA]; first | done | assumption | omega) | omega) h2
  replace h2k := qi9 rfl rfl rfl h2k
  try simp only [go_sem] at h2k
  try simp only [hln0] at h2k
  obtain rfl := oiA hr
  refine ⟨z3, run_L is83 (nbA rfl) ?_, (show x2.length = n0 by first | assumption | (simp only [llA, lrA]; first | done | assumption | omega) | omega)⟩
  rotate_left
  all_goals (simp +decide only [go_sem, c83, *])
def b49_0 : ACode := .seq (.reg [] [] [.K 33 (.bin .lss (.tmp 32) (.tmp 31))]) (.seq (.cond (.tmp 33) (some 33) (.skip) (.exit 0)) (.seq (.block 1 604467521783612674930688 (.seq (.reg [] [] [.T 34 (.ix 1 (.tmp 30) (.tmp 32)), .T 35 (.load none (.tmp 34)), .N 11 35]) (.seq (.reg [] [] [.M 36 11, .T 37 (.call 80 [.tmp 36]), .N 12 37]) (.seq (.seq (.reg [] [] [.M 39 12, .T 40 (.asr 128 (some (.d (.v (.int .i64 0)))) (.tmp 39) true), .M 38 40, .T 41 (.ext (.tmp 38) 0), .T 42 (.ext (.tmp 38) 1), .N 13 41, .N 14 42]) (.seq (.reg [] [] [.N 43 14]) (.cond (.tmp 43) (some 43) (.seq (.seq (.reg [] [] [.M 44 2, .T 45 (.ix 1 (.tmp 44) (cI 0)), .T 46 (.load none (.tmp 45)), .M 47 13, .K 48 (.bin .neq (.tmp 46) (.tmp 47))]) (.cond (.tmp 48) (some 48) (.seq (.reg [] [(6, 0)] [.K 6 (.mv (.const (.slice none 0 0))), .K 7 (.mv (.const (.bool false)))]) (.ret)) (.skip))) (.seq (.reg [] [] [.M 49 2, .T 50 (.cut 1 (.tmp 49) (some (cI 1)) none), .N 2 50]) (.exit 1))) (.skip)))) (.seq (.reg [] [] [.M 51 12, .T 52 (.asr 130 (some (.d (.v (.int .i64 0)))) (.tmp 51) false), .N 15 52]) (.seq (.reg [] [] [.M 53 0, .M 54 2, .T 55 (.call 81 [.tmp 53, .tmp 54]), .N 16 55]) (.seq (.reg [] [(17, 0)] [.M 57 8, .M 58 15, .T 59 (.look (Go.TypeDesc.int .i64) (.im true []) (.tmp 57) (.tmp 58) true), .M 56 59, .T 60 (.ext (.tmp 56) 0), .T 61 (.ext (.tmp 56) 1), .N 17 60, .N 18 61]) (.seq (.block 2 604467521783612674865152 (.seq (.reg [] [] [.M 63 18, .T 64 (.not (.tmp 63)), .N 62 64]) (.cond (.tmp 62) (some 62) (.seq (.reg [] [] [.M 65 8, .M 66 15, .M 67 2, .M 68 16, .T 69 (.cut 1 (.tmp 67) none (some (.tmp 68))), ⟨none, .mput (Go.TypeDesc.int .i64) (.tmp 65) (.tmp 66) (.tmp 69), none, false, false⟩]) (.reg [] [] [.M 70 9, .M 71 15, .M 72 2, .M 73 16, .T 74 (.cut 1 (.tmp 72) none (some (.tmp 73))), ⟨some (75, false), .call 58 [.tmp 74], none, false, true⟩, .T 76 (.build [(0, 1), (1, 1)] [.d (.v (.int .i64 0)), .im true []] [(0, .tmp 71), (1, .tmp 75)]), .T 77 (.lit 2 [(0, .tmp 76)]), .T 78 (.app 2 32 (.tmp 70) (.tmp 77)), .N 9 78])) (.seq (.reg [] [] [.M 80 17, .M 81 2, .M 82 16, .T 83 (.cut 1 (.tmp 81) none (some (.tmp 82))), .T 84 (.call 82 [.tmp 80, .tmp 83]), .T 85 (.not (.tmp 84)), .N 79 85]) (.cond (.tmp 79) (some 79) (.seq (.reg [] [(6, 0)] [.K 6 (.mv (.const (.slice none 0 0))), .K 7 (.mv (.const (.bool false)))]) (.ret)) (.skip)))))) (.reg [] [] [.M 86 2, .M 87 16, .T 88 (.cut 1 (.tmp 86) (some (.tmp 87)) none), .N 2 88]))))))))) (.reg [] [] [.T 89 (.bin .add (.tmp 32) (cI 1)), .N 32 89])))
def c49 : ACode := .seq (.reg [] [(6, 0)] [.K 6 (.mv (.const (.slice none 0 0))), .K 7 (.mv (.const (.bool false)))]) (.seq (.seq (.reg [] [] [.M 19 0, .M 20 1, .T 21 (.call 62 [.tmp 19, .tmp 20]), .T 22 (.bin .neq (.tmp 21) (cI 0)), .M 23 22, .MG 24 23 false 0, .MG 25 23 false 2, .TG 26 23 false (.call 62 [.tmp 24, .tmp 25]), .TG 27 23 false (.bin .neq (.tmp 26) (cI 0)), .K 28 (.pick (.tmp 23) (.const (.bool true)) (.tmp 27))]) (.cond (.tmp 28) (some 28) (.seq (.reg [] [(6, 0)] [.K 6 (.mv (.const (.slice none 0 0))), .K 7 (.mv (.const (.bool false)))]) (.ret)) (.skip))) (.seq (.reg [] [] [.T 29 (.mkMap), .N 8 29]) (.seq (.reg [] [(9, 2)] [.K 9 (.mv (.const (.slice none 0 0)))]) (.seq (.seq (.reg [] [] [.N 30 1, .K 31 (.len (.tmp 30)), .K 32 (.mv (cI 0))]) (.block 0 604467521783612674930688 (.loop b49_0))) (.seq (.reg [] [] [.M 90 9, .T 91 (.call 83 [.tmp 90, .func 84])]) (.seq (.reg [] [(6, 0)] [.M 92 9, .N 6 92, .K 7 (.mv (.const (.bool true)))]) (.ret)))))))
theorem is49 : IsF C 49 93 604467521783620459559879 c49 [.tmp 6, .tmp 7] := ⟨⟨Tryd.f49, _, C_P ▸ Tryd.func49, rfl, rfl, rfl, by kernel_rfl, rfl⟩⟩
def qdX9 (s0 : List Symbol) (s1 : List Int) (s6 : List Bind) (s30 : List Int) (s31 : Int) : (List Int) × Int × (List (Int × (List Int))) × (List Bind) → Nat × AHeap → St := fun (s2, s32, m8, o9) (v9, gt) => ⟨[(0, .d (.rd (s0.map qb9))), (1, .d (.rd (s1.map intD))), (2, .d (.rd (s2.map intD))), (6, .d (.rd (s6.map qc9))), (7, PB false), (8, .mp 0), (9, .ref 1 v9 0 o9.length), (30, .d (.rd (s30.map intD))), (31, PI s31), (32, PI s32)], (.map (mapP keyI (lsD intD) m8) :: (.row false v9 2 (rowP qc9 o9) :: gt))⟩
def qmq9 (s0 : List Symbol) (s1 : List Int) (s6 : List Bind) (s30 : List Int) (s31 : Int) : (((List Bind) × Bool) ⊕ ((List Int) × Int × (List (Int × (List Int))) × (List Bind))) → AExit × St → Prop
  | .inl r, q => XV C [.tmp 6, .tmp 7] (.tp [.d (.rd (r.1.map qc9)), PB r.2]) q
  | .inr (s2, s32, m8, o9), q => ∃ g, q = (.exit 0, qdX9 s0 s1 s6 s30 s31 (s2, s32, m8, o9) g)
theorem qmL9 {s0 : List Symbol} {s1 : List Int} {s6 : List Bind} {s30 : List Int} {s31 : Int} : Sim C 604467521783620459559879 b49_0 (qbb9 s0 s1 s6 s30 s31) (qdX9 s0 s1 s6 s30 s31) (qmq9 s0 s1 s6 s30 s31) := by
  intro s g r hr
  obtain ⟨s2, s32, m8, o9⟩ := s
  obtain ⟨v9, gt⟩ := g
  simp only [qbb9] at hr
  rcases iteP hr with ⟨h1, hr⟩ | ⟨h1, hr⟩
  obtain ⟨x3, h2, x4, h3, hr⟩ := bs2 hr
  have h3k := (qpu9 h3).k rfl rfl rfl
  try simp only [go_sem] at h3k
  obtain ⟨h4, hr⟩ := gsome hr
  rcases h5 : asI 128 .i64 x4 with _ | x5
  simp only [h5] at hr
  obtain ⟨x8, h6, x9, h7, hr⟩ := bs2 hr
  have h7k := (qnH9 h7).k rfl rfl rfl
  try simp only [go_sem] at h7k
  rcases h8 : mget m8 x8 with _ | x10
  simp only [h8] at hr
  obtain ⟨x14, h9, hr⟩ := bsome hr
  obtain ⟨h10, hr⟩ := gsome hr
  obtain ⟨h11, hr⟩ := gsome hr
  obtain ⟨x15, h12, hr⟩ := bsome hr
  obtain rfl := oiA hr
  refine ⟨((v9 + 1), (gt ++ (.row true 0 1 (rowP intD x14) :: []))), ?_⟩
  rotate_left
  simp only [h8] at hr
  obtain ⟨x11, h13, x12, h14, hr⟩ := bs2 hr
  have h14k := (qit9 h14).k rfl rfl rfl
  try simp only [go_sem] at h14k
  rcases iteB hr with ⟨h15, hr⟩ | ⟨h15, hr⟩
  obtain ⟨x13, h16, hr⟩ := bsome hr
  obtain rfl := oiA hr
  refine ⟨(v9, gt), ?_⟩
  rotate_left
  obtain rfl := oiA hr
  refine xv_of ?_
  rotate_left
  simp only [h5] at hr
  obtain ⟨x6, h17, hr⟩ := bsome hr
  rcases iteP hr with ⟨h18, hr⟩ | ⟨h18, hr⟩
  obtain ⟨x7, h19, hr⟩ := bsome hr
  obtain rfl := oiA hr
  refine ⟨(v9, gt), ?_⟩
  rotate_left
  obtain rfl := oiA hr
  refine xv_of ?_
  rotate_left
  obtain rfl := oiA hr
  refine xe_of ⟨(v9, gt), rfl⟩ ?_
  rotate_left
  all_goals (simp +decide only [go_sem, qdX9, b49_0, *])
theorem qhU9 {a0 : List Symbol} {a1 : List Int} {a2 : List Int} {r : (List Bind) × Bool} (hr : qdO9 a0 a1 a2 = some r) : Res C 49 [.rd (a0.map qb9), .rd (a1.map intD), .rd (a2.map intD)] (.tp [.d (.rd (r.1.map qc9)), PB r.2]) := by
  simp only [qdO9] at hr
  obtain ⟨x1, h1, hr⟩ := bsome hr
  have h1k := fun h => qix9 (h := h) h1
  try simp only [go_sem] at h1k
  rcases iteP hr with ⟨h2, hr⟩ | ⟨h2, hr⟩
  obtain ⟨x2, h3, hr⟩ := bsome hr
  have h3k := fun h => qix9 (h := h) h3
  try simp only [go_sem] at h3k
  rcases iteP hr with ⟨h4, hr⟩ | ⟨h4, hr⟩
  obtain ⟨x16, h5, hr⟩ := bsome hr
  obtain ⟨q5, h5L, h5X⟩ := qmL9.L (g := (0, [])) h5
  rcases x16 with x17 | ⟨x18, x19, x20, x21⟩
  try dsimp only at hr
  obtain ⟨st5, rfl, h5R⟩ := h5X
  simp only [qdX9, go_sem] at h5L
  obtain rfl := oiA hr
  refine run_V is49 (nbA rfl) ?_
  rotate_left
  try dsimp only at hr
  obtain ⟨⟨z22, z23⟩, rfl⟩ := h5X
  simp only [qdX9, go_sem] at h5L
  obtain ⟨x24, h6, hr⟩ := bsome hr
  obtain ⟨z25, h6k, h6l0⟩ := qjH9 (g1 := (.map (mapP keyI (lsD intD) x20) :: [])) (v0 := z22) (n0 := x21.length) (g2 := z23) rfl h6
  replace h6k := qi9 rfl rfl rfl h6k
  try simp only [go_sem] at h6k
  obtain rfl := oiA hr
  refine run_V is49 (nbA rfl) ?_
  rotate_left
  obtain rfl := oiA hr
  refine run_V is49 (nbA rfl) ?_
  rotate_left
  obtain rfl := oiA hr
  refine run_V is49 (nbA rfl) ?_
  rotate_left
  all_goals (simp +decide only [go_sem, c49, *])
def c45 : ACode := .seq (.reg [] [] [.K 4 (.mv (.const (.bool false)))]) (.seq (.reg [] [] [.T 5 (.load none (.tmp 1)), .T 6 (.load none (.tmp 2)), .M 7 0, .T 8 (.build [(0, 1), (1, 1)] [.d (.v (.int .i64 0)), .d (.v (.int .i64 0))] [(0, .tmp 6), (1, .tmp 7)]), .T 9 (.lit 2 [(0, .tmp 8)]), .T 10 (.app 2 16 (.tmp 5) (.tmp 9)), ⟨none, .store 1 (.tmp 1) (.tmp 10), none, false, false⟩]) (.seq (.reg [] [] [.K 4 (.mv (.const (.bool true)))]) (.ret)))
theorem is45 : IsF C 45 11 23 c45 [.tmp 4] := ⟨⟨Tryd.f45, _, C_P ▸ Tryd.func45, rfl, rfl, rfl, by kernel_rfl, rfl⟩⟩
theorem qnz9 {s0 : Int} {o1_0 : List Redex} {b2_0 : Int} {g1 : AHeap} {g2 : AHeap} {v1_0 : Nat} {n1_0 : Nat} {g3 : AHeap} {g4 : AHeap} (hln1_0 : o1_0.length = n1_0) {r : Bool × (List Redex)} (hr : qhl9 s0 o1_0 b2_0 = some r) : ∃ wv1_0 : Nat, Lim C 45 [PI s0, .ptr g1.length 0 0 0, .ptr (g1.length + g2.length + g3.length + 2) 0 0 0] (g1 ++ (.row false 0 1 [[.ref (g1.length + g2.length + 1) v1_0 0 n1_0]] :: (g2 ++ (.row false v1_0 2 (rowP qm9 o1_0) :: (g3 ++ (.row false 0 1 [[PI b2_0]] :: g4)))))) = some (resOf [PB r.1], (g1 ++ (.row false 0 1 [[.ref (g1.length + g2.length + 1) wv1_0 0 r.2.length]] :: (g2 ++ (.row false wv1_0 2 (rowP qm9 r.2) :: (g3 ++ (.row false 0 1 [[PI b2_0]] :: g4))))))) := by
  simp only [qhl9] at hr
  obtain ⟨h1, hr⟩ := gsome hr
  try simp only [hln1_0] at h1
  obtain rfl := oiA hr
  refine ⟨(v1_0 + 1), run_L is45 (nbA rfl) ?_⟩
  rotate_left
  all_goals (simp +decide only [go_sem, c45, *])
def b44_0 : ACode := .seq (.reg [] [] [.K 15 (.bin .lss (.tmp 14) (.tmp 13))]) (.seq (.cond (.tmp 15) (some 15) (.skip) (.exit 0)) (.seq (.block 1 4398113654144 (.seq (.reg [] [] [.M 16 14, .T 17 (.ix 2 (.tmp 12) (.tmp 14)), .T 18 (.load (some 2) (.tmp 17)), .K 8 (.alloc [.im true [], .im true []] 2), .N 7 16, ⟨none, .store 2 (.tmp 8) (.tmp 18), none, false, false⟩]) (.seq (.seq (.reg [] [] [.T 19 (.fa 0 (.tmp 8)), ⟨some (20, false), .load none (.tmp 19), none, true, false⟩, ⟨some (21, false), .ix 1 (.tmp 20) (cI 0), none, true, false⟩, ⟨some (22, false), .load none (.tmp 21), none, true, false⟩, .M 23 1, ⟨some (24, false), .ix 1 (.tmp 23) (cI 0), none, true, false⟩, ⟨some (25, false), .load none (.tmp 24), none, true, false⟩, .K 26 (.bin .neq (.tmp 22) (.tmp 25))]) (.cond (.tmp 26) (some 26) (.exit 1) (.skip))) (.seq (.reg [] [] [.T 28 (.fa 0 (.tmp 3)), .T 29 (.load none (.tmp 28)), .T 30 (.fa 0 (.tmp 8)), .T 31 (.load none (.tmp 30)), .M 32 1, .T 33 (.call 49 [.tmp 29, .tmp 31, .tmp 32]), .M 27 33, .T 34 (.ext (.tmp 27) 0), .T 35 (.ext (.tmp 27) 1), .M 9 34, .N 10 35]) (.seq (.reg [] [] [.M 36 10, .M 37 36, .MG 38 37 true 2, .MG 39 37 true 7, .TG 40 37 true (.callV (.tmp 38) [.tmp 39]), .TG 41 37 true (.not (.tmp 40)), .K 42 (.pick (.tmp 37) (.tmp 41) (.const (.bool false)))]) (.cond (.tmp 42) (some 42) (.seq (.reg [] [] [.K 6 (.mv (.const (.bool false)))]) (.ret)) (.skip))))))) (.reg [] [] [.T 43 (.bin .add (.tmp 14) (cI 1)), .N 14 43])))
def c44 : ACode := .seq (.reg [] [] [.K 3 (.box (.tmp 0)), .K 6 (.mv (.const (.bool false)))]) (.seq (.seq (.reg [] [] [.T 11 (.fa 1 (.tmp 3)), .K 12 (.load none (.tmp 11)), .K 13 (.len (.tmp 12)), .K 14 (.mv (cI 0))]) (.block 0 4398113654144 (.loop b44_0))) (.seq (.reg [] [] [.K 6 (.mv (.const (.bool true)))]) (.ret)))
theorem is44 : IsF C 44 44 4398113682895 c44 [.tmp 6] := ⟨⟨Tryd.f44, _, C_P ▸ Tryd.func44, rfl, rfl, rfl, by kernel_rfl, rfl⟩⟩
def qbq9 (s0_0 : List Symbol) (s0_1 : List Rule) (s1 : List Int) (s12 : List Rule) (s13 : Int) (b2_1_0 : Int) (b3_0 : List Symbol) (b3_1 : List Rule) (g1 : AHeap) (g2 : AHeap) (g3 : AHeap) (g4 : AHeap) : Int × (List Redex) → Nat × AHeap → St := fun (s14, o2_0_0) (v2_0_0, gt) => ⟨[(0, .ag [.d (.rd (s0_0.map qb9)), .d (.rd (s0_1.map qd9))]), (1, .d (.rd (s1.map intD))), (2, .fn 45 [.ptr g1.length 0 0 0, .ptr (g1.length + g2.length + g3.length + 2) 0 0 0]), (3, .ptr (g1.length + g2.length + g3.length + g4.length + 3) 0 0 0), (6, PB false), (12, .d (.rd (s12.map qd9))), (13, PI s13), (14, PI s14)], (g1 ++ (.row false 0 1 [[.ref (g1.length + g2.length + 1) v2_0_0 0 o2_0_0.length]] :: (g2 ++ (.row false v2_0_0 2 (rowP qm9 o2_0_0) :: (g3 ++ (.row false 0 1 [[PI b2_1_0]] :: (g4 ++ (.row false 0 2 [[.d (.rd (b3_0.map qb9)), .d (.rd (b3_1.map qd9))]] :: gt))))))))⟩
def qgN9 (s0_0 : List Symbol) (s0_1 : List Rule) (s1 : List Int) (s12 : List Rule) (s13 : Int) (b2_1_0 : Int) (b3_0 : List Symbol) (b3_1 : List Rule) (g1 : AHeap) (g2 : AHeap) (g3 : AHeap) (g4 : AHeap) : ((Bool × (List Redex)) ⊕ (Int × (List Redex))) → AExit × St → Prop
  | .inl r, q => XL C [.tmp 6] (fun vs hp => ∃ wv2_0_0 : Nat, ∃ hz : AHeap, vs = [PB r.1] ∧ hp = (g1 ++ (.row false 0 1 [[.ref (g1.length + g2.length + 1) wv2_0_0 0 r.2.length]] :: (g2 ++ (.row false wv2_0_0 2 (rowP qm9 r.2) :: (g3 ++ (.row false 0 1 [[PI b2_1_0]] :: (g4 ++ hz)))))))) q
  | .inr (s14, o2_0_0), q => ∃ g, q = (.exit 0, qbq9 s0_0 s0_1 s1 s12 s13 b2_1_0 b3_0 b3_1 g1 g2 g3 g4 (s14, o2_0_0) g)
theorem qgL9 {s0_0 : List Symbol} {s0_1 : List Rule} {s1 : List Int} {s12 : List Rule} {s13 : Int} {b2_1_0 : Int} {b3_0 : List Symbol} {b3_1 : List Rule} {g1 : AHeap} {g2 : AHeap} {g3 : AHeap} {g4 : AHeap} : Sim C 4398113682895 b44_0 (qR9 s0_0 s0_1 s1 s12 s13 b2_1_0 b3_0 b3_1) (qbq9 s0_0 s0_1 s1 s12 s13 b2_1_0 b3_0 b3_1 g1 g2 g3 g4) (qgN9 s0_0 s0_1 s1 s12 s13 b2_1_0 b3_0 b3_1 g1 g2 g3 g4) := by
  intro s g r hr
  obtain ⟨s14, o2_0_0⟩ := s
  obtain ⟨v2_0_0, gt⟩ := g
  simp only [qR9] at hr
  rcases iteP hr with ⟨h1, hr⟩ | ⟨h1, hr⟩
  obtain ⟨x1, h2, x2, h3, x3, h4, hr⟩ := bs3 hr
  rcases iteP hr with ⟨h5, hr⟩ | ⟨h5, hr⟩
  obtain ⟨x4, h6, hr⟩ := bsome hr
  have h6k := (qhU9 h6).k rfl rfl rfl
  try simp only [go_sem] at h6k
  rcases iteB hr with ⟨h7, hr⟩ | ⟨h7, hr⟩
  obtain ⟨x5, h8, hr⟩ := bsome hr
  obtain ⟨z6, h8k⟩ := qnz9 (g1 := g1) (g2 := g2) (v1_0 := v2_0_0) (n1_0 := o2_0_0.length) (g3 := g3) (g4 := (g4 ++ (.row false 0 2 [[.d (.rd (b3_0.map qb9)), .d (.rd (b3_1.map qd9))]] :: (gt ++ (.row false 0 2 [[.d (.rd (x1.L.map intD)), .d (.rd (x1.R.map intD))]] :: []))))) rfl h8
  replace h8k := qi9 rfl rfl rfl h8k
  try simp only [go_sem] at h8k
  rcases iteB hr with ⟨h9, hr⟩ | ⟨h9, hr⟩
  obtain rfl := oiA hr
  refine ⟨(z6, (gt ++ (.row false 0 2 [[.d (.rd (x1.L.map intD)), .d (.rd (x1.R.map intD))]] :: []))), ?_⟩
  rotate_left
  obtain rfl := oiA hr
  refine xl_of ⟨z6, (.row false 0 2 [[.d (.rd (b3_0.map qb9)), .d (.rd (b3_1.map qd9))]] :: (gt ++ (.row false 0 2 [[.d (.rd (x1.L.map intD)), .d (.rd (x1.R.map intD))]] :: []))), rfl, rfl⟩ ?_
  rotate_left
  obtain rfl := oiA hr
  refine ⟨(v2_0_0, (gt ++ (.row false 0 2 [[.d (.rd (x1.L.map intD)), .d (.rd (x1.R.map intD))]] :: []))), ?_⟩
  rotate_left
  obtain rfl := oiA hr
  refine ⟨(v2_0_0, (gt ++ (.row false 0 2 [[.d (.rd (x1.L.map intD)), .d (.rd (x1.R.map intD))]] :: []))), ?_⟩
  rotate_left
  obtain rfl := oiA hr
  refine xe_of ⟨(v2_0_0, gt), rfl⟩ ?_
  rotate_left
  all_goals (simp +decide only [go_sem, qbq9, b44_0, *])
theorem qho9 {s0_0 : List Symbol} {s0_1 : List Rule} {s1 : List Int} {o2_0_0 : List Redex} {b2_1_0 : Int} {g1 : AHeap} {g2 : AHeap} {v2_0_0 : Nat} {n2_0_0 : Nat} {g3 : AHeap} {g4 : AHeap} (hln2_0_0 : o2_0_0.length = n2_0_0) {r : Bool × (List Redex)} (hr : qbF9 s0_0 s0_1 s1 o2_0_0 b2_1_0 = some r) : ∃ wv2_0_0 : Nat, ∃ hz : AHeap, Lim C 44 [.ag [.d (.rd (s0_0.map qb9)), .d (.rd (s0_1.map qd9))], .d (.rd (s1.map intD)), .fn 45 [.ptr g1.length 0 0 0, .ptr (g1.length + g2.length + g3.length + 2) 0 0 0]] (g1 ++ (.row false 0 1 [[.ref (g1.length + g2.length + 1) v2_0_0 0 n2_0_0]] :: (g2 ++ (.row false v2_0_0 2 (rowP qm9 o2_0_0) :: (g3 ++ (.row false 0 1 [[PI b2_1_0]] :: g4)))))) = some (resOf [PB r.1], (g1 ++ (.row false 0 1 [[.ref (g1.length + g2.length + 1) wv2_0_0 0 r.2.length]] :: (g2 ++ (.row false wv2_0_0 2 (rowP qm9 r.2) :: (g3 ++ (.row false 0 1 [[PI b2_1_0]] :: (g4 ++ hz)))))))) := by
  simp only [qbF9] at hr
  obtain ⟨x7, h1, hr⟩ := bsome hr
  obtain ⟨q1, h1L, h1X⟩ := (qgL9 (g1 := g1) (g2 := g2) (g3 := g3) (g4 := g4)).L (g := (v2_0_0, [])) h1
  rcases x7 with x8 | ⟨x9, x10⟩
  try dsimp only at hr
  obtain ⟨st1, _, _, rfl, h1R, y4, y5, rfl, rfl⟩ := h1X
  simp only [qbq9, go_sem] at h1L
  try simp only [hln2_0_0] at h1L
  obtain rfl := oiA hr
  refine ⟨y4, y5, run_L is44 (nbA rfl) ?_⟩
  rotate_left
  try dsimp only at hr
  obtain ⟨⟨z11, z12⟩, rfl⟩ := h1X
  simp only [qbq9, go_sem] at h1L
  try simp only [hln2_0_0] at h1L
  obtain rfl := oiA hr
  refine ⟨z11, (.row false 0 2 [[.d (.rd (s0_0.map qb9)), .d (.rd (s0_1.map qd9))]] :: z12), run_L is44 (nbA rfl) ?_⟩
  rotate_left
  all_goals (simp +decide only [go_sem, c44, *])
def b14_0 : ACode := .seq (.reg [] [] [.K 18 (.bin .lss (.tmp 17) (.tmp 16))]) (.seq (.cond (.tmp 18) (some 18) (.skip) (.exit 0)) (.seq (.block 1 262336 (.seq (.reg [] [] [.M 19 17, .T 20 (.ix 1 (.tmp 15) (.tmp 17)), .T 21 (.load none (.tmp 20)), .K 6 (.alloc [.d (.v (.int .i64 0))] 1), ⟨none, .store 1 (.tmp 6) (.tmp 19), none, false, false⟩, .N 7 21]) (.reg [] [] [⟨some (22, false), .load (some 2) (.tmp 2), none, true, false⟩, .M 23 1, ⟨some (24, false), .load none (.tmp 6), none, true, false⟩, .M 25 7, ⟨some (26, false), .cut 1 (.tmp 23) (some (.tmp 24)) (some (.tmp 25)), none, true, false⟩, .T 27 (.mkF 45 [.tmp 5, .tmp 6]), .T 28 (.call 44 [.tmp 22, .tmp 26, .tmp 27])]))) (.reg [] [] [.T 29 (.bin .add (.tmp 17) (cI 1)), .N 17 29])))
def c14 : ACode := .seq (.reg [] [(4, 0)] [.K 2 (.box (.tmp 0)), .K 4 (.mv (.const (.slice none 0 0)))]) (.seq (.seq (.reg [] [] [.T 8 (.load (some 2) (.tmp 2)), .M 9 1, .T 10 (.call 42 [.tmp 8, .tmp 9]), .K 11 (.bin .neq (.tmp 10) (cI 0))]) (.cond (.tmp 11) (some 11) (.seq (.reg [] [(4, 0)] [.K 4 (.mv (.const (.slice none 0 0)))]) (.ret)) (.skip))) (.seq (.reg [] [(5, 2)] [.K 5 (.alloc [.im true []] 1)]) (.seq (.seq (.reg [] [] [.T 12 (.fa 0 (.tmp 2)), .T 13 (.load none (.tmp 12)), .M 14 1, .K 15 (.call 43 [.tmp 13, .tmp 14]), .K 16 (.len (.tmp 15)), .K 17 (.mv (cI 0))]) (.block 0 262336 (.loop b14_0))) (.seq (.reg [] [(4, 0)] [.T 30 (.load none (.tmp 5)), .N 4 30]) (.ret)))))
theorem is14 : IsF C 14 31 493815 c14 [.tmp 4] := ⟨⟨Tryd.f14, _, C_P ▸ Tryd.func14, rfl, rfl, rfl, by kernel_rfl, rfl⟩⟩
def qhj9 (s0 : System) (s1 : List Int) (s4 : List Redex) (s15 : List Int) (s16 : Int) (b2_0 : List Symbol) (b2_1 : List Rule) : Int × (List Redex) → Nat × AHeap → St := fun (s17, o5_0) (v5_0, gt) => ⟨[(0, .d (.ag (qf9 s0))), (1, .d (.rd (s1.map intD))), (2, .ptr 0 0 0 0), (4, .d (.rd (s4.map qm9))), (5, .ptr 1 0 0 0), (15, .d (.rd (s15.map intD))), (16, PI s16), (17, PI s17)], (.row false 0 2 [[.d (.rd (b2_0.map qb9)), .d (.rd (b2_1.map qd9))]] :: (.row false 0 1 [[.ref 2 v5_0 0 o5_0.length]] :: (.row false v5_0 2 (rowP qm9 o5_0) :: gt)))⟩
def qrw9 (s0 : System) (s1 : List Int) (s4 : List Redex) (s15 : List Int) (s16 : Int) (b2_0 : List Symbol) (b2_1 : List Rule) : (Int × (List Redex)) → AExit × St → Prop := fun (s17, o5_0) q => ∃ g, q = (.exit 0, qhj9 s0 s1 s4 s15 s16 b2_0 b2_1 (s17, o5_0) g)
theorem qra9 {s0 : System} {s1 : List Int} {s4 : List Redex} {s15 : List Int} {s16 : Int} {b2_0 : List Symbol} {b2_1 : List Rule} : Sim C 493815 b14_0 (qdS9 s0 s1 s4 s15 s16 b2_0 b2_1) (qhj9 s0 s1 s4 s15 s16 b2_0 b2_1) (qrw9 s0 s1 s4 s15 s16 b2_0 b2_1) := by
  intro s g r hr
  obtain ⟨s17, o5_0⟩ := s
  obtain ⟨v5_0, gt⟩ := g
  simp only [qdS9] at hr
  rcases iteP hr with ⟨h1, hr⟩ | ⟨h1, hr⟩
  obtain ⟨x3, h2, x4, h3, x5, h4, hr⟩ := bs3 hr
  obtain ⟨z6, z7, h4k⟩ := qho9 (g1 := (.row false 0 2 [[.d (.rd (b2_0.map qb9)), .d (.rd (b2_1.map qd9))]] :: [])) (g2 := []) (v2_0_0 := v5_0) (n2_0_0 := o5_0.length) (g3 := gt) (g4 := []) rfl h4
  replace h4k := qi9 rfl rfl rfl h4k
  try simp only [go_sem] at h4k
  obtain rfl := oiA hr
  refine ⟨(z6, (gt ++ (.row false 0 1 [[PI s17]] :: z7))), ?_⟩
  rotate_left
  obtain rfl := oiA hr
  refine xe_of ⟨(v5_0, gt), rfl⟩ ?_
  rotate_left
  all_goals (simp +decide only [go_sem, qhj9, b14_0, *])
theorem qsY9 {a0 : System} {a1 : List Int} {r : (List Redex)} (hr : qgW9 a0 a1 = some r) : Res C 14 [.ag (qf9 a0), .rd (a1.map intD)] (.d (.rd (r.map qm9))) := by
  simp only [qgW9] at hr
  obtain ⟨x1, h1, hr⟩ := bsome hr
  have h1k := fun h => (qiG9 h1).o rfl rfl rfl (h := h) (args := [.ag [.d (.rd (a0.Sig.map qb9)), .d (.rd (a0.Rules.map qd9))], .d (.rd (a1.map intD))]) rfl
  try simp only [go_sem] at h1k
  rcases iteP hr with ⟨h2, hr⟩ | ⟨h2, hr⟩
  obtain ⟨x2, h3, hr⟩ := bsome hr
  have h3k := (qja9 h3).k rfl rfl rfl
  try simp only [go_sem] at h3k
  obtain ⟨x8, h4, hr⟩ := bsome hr
  obtain ⟨q4, h4L, h4X⟩ := qra9.L (g := (0, [])) h4
  obtain ⟨x9, x10⟩ := x8
  try dsimp only at hr
  obtain ⟨⟨z11, z12⟩, rfl⟩ := h4X
  simp only [qhj9, go_sem] at h4L
  obtain rfl := oiA hr
  refine run_V is14 (nbA rfl) ?_
  rotate_left
  obtain rfl := oiA hr
  refine run_V is14 (nbA rfl) ?_
  rotate_left
  all_goals (simp +decide only [go_sem, c14, *])
def c60 : ACode := .seq (.reg [] [] [.K 4 (.mv (.const (.bool false)))]) (.seq (.reg [] [] [.T 5 (.load none (.tmp 1)), .M 6 0, .T 7 (.build [(0, 1), (1, 1)] [.d (.v (.int .i64 0)), .d (.v (.int .i64 0))] [(0, .tmp 5), (1, .tmp 6)]), ⟨none, .store 2 (.tmp 2) (.tmp 7), none, false, false⟩]) (.seq (.reg [] [] [.K 4 (.mv (.const (.bool false)))]) (.ret)))
theorem is60 : IsF C 60 8 23 c60 [.tmp 4] := ⟨⟨Tryd.f60, _, C_P ▸ Tryd.func60, rfl, rfl, rfl, by kernel_rfl, rfl⟩⟩
theorem qko9 {s0 : Int} {b2_0 : Int} {b2_1 : Int} {b1_0 : Int} {g1 : AHeap} {g2 : AHeap} {g3 : AHeap} {r : Bool × Int × Int} (hr : qet9 s0 b2_0 b2_1 b1_0 = some r) : Lim C 60 [PI s0, .ptr (g1.length + g2.length + 1) 0 0 0, .ptr g1.length 0 0 0] (g1 ++ (.row false 0 2 [[PI b2_0, PI b2_1]] :: (g2 ++ (.row false 0 1 [[PI b1_0]] :: g3)))) = some (resOf [PB r.1], (g1 ++ (.row false 0 2 [[PI r.2.1, PI r.2.2]] :: (g2 ++ (.row false 0 1 [[PI b1_0]] :: g3))))) := by
  simp only [qet9] at hr
  obtain rfl := oiA hr
  refine run_L is60 (nbA rfl) ?_
  rotate_left
  all_goals (simp +decide only [go_sem, c60, *])
def qS9 (s0_0 : List Symbol) (s0_1 : List Rule) (s1 : List Int) (s12 : List Rule) (s13 : Int) (b2_0_0 : Int) (b3_0 : List Symbol) (b3_1 : List Rule) (g1 : AHeap) (g2 : AHeap) (g3 : AHeap) : Int × Int × Int → AHeap → St := fun (s14, b2_1_0, b2_1_1) gt => ⟨[(0, .ag [.d (.rd (s0_0.map qb9)), .d (.rd (s0_1.map qd9))]), (1, .d (.rd (s1.map intD))), (2, .fn 60 [.ptr (g1.length + g2.length + 1) 0 0 0, .ptr g1.length 0 0 0]), (3, .ptr (g1.length + g2.length + g3.length + 2) 0 0 0), (6, PB false), (12, .d (.rd (s12.map qd9))), (13, PI s13), (14, PI s14)], (g1 ++ (.row false 0 2 [[PI b2_1_0, PI b2_1_1]] :: (g2 ++ (.row false 0 1 [[PI b2_0_0]] :: (g3 ++ (.row false 0 2 [[.d (.rd (b3_0.map qb9)), .d (.rd (b3_1.map qd9))]] :: gt))))))⟩
def qeU9 (s0_0 : List Symbol) (s0_1 : List Rule) (s1 : List Int) (s12 : List Rule) (s13 : Int) (b2_0_0 : Int) (b3_0 : List Symbol) (b3_1 : List Rule) (g1 : AHeap) (g2 : AHeap) (g3 : AHeap) : ((Bool × Int × Int) ⊕ (Int × Int × Int)) → AExit × St → Prop
  | .inl r, q => XL C [.tmp 6] (fun vs hp => ∃ hz : AHeap, vs = [PB r.1] ∧ hp = (g1 ++ (.row false 0 2 [[PI r.2.1, PI r.2.2]] :: (g2 ++ (.row false 0 1 [[PI b2_0_0]] :: (g3 ++ hz)))))) q
  | .inr (s14, b2_1_0, b2_1_1), q => ∃ g, q = (.exit 0, qS9 s0_0 s0_1 s1 s12 s13 b2_0_0 b3_0 b3_1 g1 g2 g3 (s14, b2_1_0, b2_1_1) g)
theorem qfa9 {s0_0 : List Symbol} {s0_1 : List Rule} {s1 : List Int} {s12 : List Rule} {s13 : Int} {b2_0_0 : Int} {b3_0 : List Symbol} {b3_1 : List Rule} {g1 : AHeap} {g2 : AHeap} {g3 : AHeap} : Sim C 4398113682895 b44_0 (qq9 s0_0 s0_1 s1 s12 s13 b2_0_0 b3_0 b3_1) (qS9 s0_0 s0_1 s1 s12 s13 b2_0_0 b3_0 b3_1 g1 g2 g3) (qeU9 s0_0 s0_1 s1 s12 s13 b2_0_0 b3_0 b3_1 g1 g2 g3) := by
  intro s g r hr
  obtain ⟨s14, b2_1_0, b2_1_1⟩ := s
  have ⟨gt, hg0⟩ : ∃ y, y = g := ⟨_, rfl⟩
  subst hg0
  simp only [qq9] at hr
  rcases iteP hr with ⟨h1, hr⟩ | ⟨h1, hr⟩
  obtain ⟨x1, h2, x2, h3, x3, h4, hr⟩ := bs3 hr
  rcases iteP hr with ⟨h5, hr⟩ | ⟨h5, hr⟩
  obtain ⟨x4, h6, hr⟩ := bsome hr
  have h6k := (qhU9 h6).k rfl rfl rfl
  try simp only [go_sem] at h6k
  rcases iteB hr with ⟨h7, hr⟩ | ⟨h7, hr⟩
  obtain ⟨x5, h8, hr⟩ := bsome hr
  have h8k := qi9 rfl rfl rfl (qko9 (g1 := g1) (g2 := g2) (g3 := (g3 ++ (.row false 0 2 [[.d (.rd (b3_0.map qb9)), .d (.rd (b3_1.map qd9))]] :: (gt ++ (.row false 0 2 [[.d (.rd (x1.L.map intD)), .d (.rd (x1.R.map intD))]] :: []))))) h8)
  try simp only [go_sem] at h8k
  rcases iteB hr with ⟨h9, hr⟩ | ⟨h9, hr⟩
  obtain rfl := oiA hr
  refine ⟨(gt ++ (.row false 0 2 [[.d (.rd (x1.L.map intD)), .d (.rd (x1.R.map intD))]] :: [])), ?_⟩
  rotate_left
  obtain rfl := oiA hr
  refine xl_of ⟨(.row false 0 2 [[.d (.rd (b3_0.map qb9)), .d (.rd (b3_1.map qd9))]] :: (gt ++ (.row false 0 2 [[.d (.rd (x1.L.map intD)), .d (.rd (x1.R.map intD))]] :: []))), rfl, rfl⟩ ?_
  rotate_left
  obtain rfl := oiA hr
  refine ⟨(gt ++ (.row false 0 2 [[.d (.rd (x1.L.map intD)), .d (.rd (x1.R.map intD))]] :: [])), ?_⟩
  rotate_left
  obtain rfl := oiA hr
  refine ⟨(gt ++ (.row false 0 2 [[.d (.rd (x1.L.map intD)), .d (.rd (x1.R.map intD))]] :: [])), ?_⟩
  rotate_left
  obtain rfl := oiA hr
  refine xe_of ⟨gt, rfl⟩ ?_
  rotate_left
  all_goals (simp +decide only [go_sem, qS9, b44_0, *])
theorem qfg9 {s0_0 : List Symbol} {s0_1 : List Rule} {s1 : List Int} {b2_1_0 : Int} {b2_1_1 : Int} {b2_0_0 : Int} {g1 : AHeap} {g2 : AHeap} {g3 : AHeap} {r : Bool × Int × Int} (hr : qX9 s0_0 s0_1 s1 b2_1_0 b2_1_1 b2_0_0 = some r) : ∃ hz : AHeap, Lim C 44 [.ag [.d (.rd (s0_0.map qb9)), .d (.rd (s0_1.map qd9))], .d (.rd (s1.map intD)), .fn 60 [.ptr (g1.length + g2.length + 1) 0 0 0, .ptr g1.length 0 0 0]] (g1 ++ (.row false 0 2 [[PI b2_1_0, PI b2_1_1]] :: (g2 ++ (.row false 0 1 [[PI b2_0_0]] :: g3)))) = some (resOf [PB r.1], (g1 ++ (.row false 0 2 [[PI r.2.1, PI r.2.2]] :: (g2 ++ (.row false 0 1 [[PI b2_0_0]] :: (g3 ++ hz)))))) := by
  simp only [qX9] at hr
  obtain ⟨x6, h1, hr⟩ := bsome hr
  obtain ⟨q1, h1L, h1X⟩ := (qfa9 (g1 := g1) (g2 := g2) (g3 := g3)).L (g := []) h1
  rcases x6 with x7 | ⟨x8, x9, x10⟩
  try dsimp only at hr
  obtain ⟨st1, _, _, rfl, h1R, y6, rfl, rfl⟩ := h1X
  simp only [qS9, go_sem] at h1L
  obtain rfl := oiA hr
  refine ⟨y6, run_L is44 (nbA rfl) ?_⟩
  rotate_left
  try dsimp only at hr
  obtain ⟨z11, rfl⟩ := h1X
  simp only [qS9, go_sem] at h1L
  obtain rfl := oiA hr
  refine ⟨(.row false 0 2 [[.d (.rd (s0_0.map qb9)), .d (.rd (s0_1.map qd9))]] :: z11), run_L is44 (nbA rfl) ?_⟩
  rotate_left
  all_goals (simp +decide only [go_sem, c44, *])
end Ld

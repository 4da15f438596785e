import Derived.Test.YtfjgfcnhklopdaaDoorSPW4
set_option maxHeartbeats 4000000
set_option linter.unusedVariables false
set_option linter.unusedSimpArgs false
namespace Ld
open Go Go.Proofs Go.Abs
set_option maxRecDepth 8000
def qoM9 : ACode := .seq (.seq (.reg [] [] [.M 107 12, .M 108 2, .K 109 (.bin .lss (.tmp 107) (.tmp 108))]) (.cond (.tmp 109) (some 109) (.skip) (.exit 6))) (.seq (.block 7 21268296969665970819914479276526665728 (.seq (.seq (.reg [] [] [.M 112 3, .M 113 0, .M 114 12, ⟨some (115, false), .ix 2 (.tmp 113) (.tmp 114), none, true, false⟩, ⟨some (116, false), .load (some 2) (.tmp 115), none, true, false⟩, .M 117 0, .M 118 12, .T 119 (.bin .sub (.tmp 118) (cI 1)), ⟨some (120, false), .ix 2 (.tmp 117) (.tmp 119), none, true, false⟩, ⟨some (121, false), .load (some 2) (.tmp 120), none, true, false⟩, ⟨some (122, false), .callV (.tmp 112) [.tmp 116, .tmp 121], none, true, false⟩, .T 123 (.bin .lss (.tmp 122) (cI 0)), .K 124 (.not (.tmp 123))]) (.cond (.tmp 124) (some 124) (.exit 6) (.skip))) (.reg [] [] [.M 125 0, .M 126 12, .M 127 0, .M 128 12, .T 129 (.bin .sub (.tmp 128) (cI 1)), .M 130 0, .M 131 12, .T 132 (.bin .sub (.tmp 131) (cI 1)), ⟨some (133, false), .ix 2 (.tmp 130) (.tmp 132), none, true, false⟩, ⟨some (134, false), .load (some 2) (.tmp 133), none, true, false⟩, .M 135 0, .M 136 12, ⟨some (137, false), .ix 2 (.tmp 135) (.tmp 136), none, true, false⟩, ⟨some (138, false), .load (some 2) (.tmp 137), none, true, false⟩, ⟨some (139, false), .ix 2 (.tmp 125) (.tmp 126), none, true, false⟩, ⟨none, .store 2 (.tmp 139) (.tmp 134), none, false, false⟩, ⟨some (140, false), .ix 2 (.tmp 127) (.tmp 129), none, true, false⟩, ⟨none, .store 2 (.tmp 140) (.tmp 138), none, false, false⟩]))) (.reg [] [] [.M 110 12, .T 111 (.bin .add (.tmp 110) (cI 1)), .N 12 111]))
def qoI9 : ACode := .seq (.seq (.reg [] [] [.M 68 11, .K 69 (.bin .geq (.tmp 68) (cI 1))]) (.cond (.tmp 69) (some 69) (.skip) (.exit 4))) (.seq (.block 5 19343403409644425500950528 (.seq (.seq (.reg [] [] [.M 72 3, .M 73 0, .M 74 11, ⟨some (75, false), .ix 2 (.tmp 73) (.tmp 74), none, true, false⟩, ⟨some (76, false), .load (some 2) (.tmp 75), none, true, false⟩, .M 77 0, .M 78 11, .T 79 (.bin .sub (.tmp 78) (cI 1)), ⟨some (80, false), .ix 2 (.tmp 77) (.tmp 79), none, true, false⟩, ⟨some (81, false), .load (some 2) (.tmp 80), none, true, false⟩, ⟨some (82, false), .callV (.tmp 72) [.tmp 76, .tmp 81], none, true, false⟩, .T 83 (.bin .lss (.tmp 82) (cI 0)), .K 84 (.not (.tmp 83))]) (.cond (.tmp 84) (some 84) (.exit 4) (.skip))) (.reg [] [] [.M 85 0, .M 86 11, .M 87 0, .M 88 11, .T 89 (.bin .sub (.tmp 88) (cI 1)), .M 90 0, .M 91 11, .T 92 (.bin .sub (.tmp 91) (cI 1)), ⟨some (93, false), .ix 2 (.tmp 90) (.tmp 92), none, true, false⟩, ⟨some (94, false), .load (some 2) (.tmp 93), none, true, false⟩, .M 95 0, .M 96 11, ⟨some (97, false), .ix 2 (.tmp 95) (.tmp 96), none, true, false⟩, ⟨some (98, false), .load (some 2) (.tmp 97), none, true, false⟩, ⟨some (99, false), .ix 2 (.tmp 85) (.tmp 86), none, true, false⟩, ⟨none, .store 2 (.tmp 99) (.tmp 94), none, false, false⟩, ⟨some (100, false), .ix 2 (.tmp 87) (.tmp 89), none, true, false⟩, ⟨none, .store 2 (.tmp 100) (.tmp 98), none, false, false⟩]))) (.reg [] [] [.M 70 11, .T 71 (.bin .sub (.tmp 70) (cI 1)), .N 11 71]))
def qnW9 : ACode := .seq (.seq (.reg [] [] [.M 19 9, .M 20 2, .T 21 (.bin .lss (.tmp 19) (.tmp 20)), .M 22 21, .MG 23 22 true 3, .MG 24 22 true 0, .MG 25 22 true 9, ⟨some (26, false), .ix 2 (.tmp 24) (.tmp 25), some (22, true), true, false⟩, ⟨some (27, false), .load (some 2) (.tmp 26), some (22, true), true, false⟩, .MG 28 22 true 0, .MG 29 22 true 9, .TG 30 22 true (.bin .sub (.tmp 29) (cI 1)), ⟨some (31, false), .ix 2 (.tmp 28) (.tmp 30), some (22, true), true, false⟩, ⟨some (32, false), .load (some 2) (.tmp 31), some (22, true), true, false⟩, ⟨some (33, false), .callV (.tmp 23) [.tmp 27, .tmp 32], some (22, true), true, false⟩, .TG 34 22 true (.bin .lss (.tmp 33) (cI 0)), .TG 35 22 true (.not (.tmp 34)), .K 36 (.pick (.tmp 22) (.tmp 35) (.const (.bool false)))]) (.cond (.tmp 36) (some 36) (.skip) (.exit 2))) (.block 3 68719476736 (.reg [] [] [.M 37 9, .T 38 (.bin .add (.tmp 37) (cI 1)), .N 9 38]))
def qnR9 : ACode := .seq (.seq (.reg [] [] [.M 15 10, .K 16 (.bin .lss (.tmp 15) (cI 5))]) (.cond (.tmp 16) (some 16) (.skip) (.exit 0))) (.seq (.block 1 21268317252094917911888073248812898304 (.seq (.block 2 68719542272 (.loop qnW9)) (.seq (.seq (.reg [] [] [.M 39 9, .M 40 2, .K 41 (.bin .eql (.tmp 39) (.tmp 40))]) (.cond (.tmp 41) (some 41) (.seq (.reg [] [] [.K 8 (.mv (.const (.bool true)))]) (.ret)) (.skip))) (.seq (.seq (.reg [] [] [.M 42 2, .M 43 1, .T 44 (.bin .sub (.tmp 42) (.tmp 43)), .K 45 (.bin .lss (.tmp 44) (cI 50))]) (.cond (.tmp 45) (some 45) (.seq (.reg [] [] [.K 8 (.mv (.const (.bool false)))]) (.ret)) (.skip))) (.seq (.reg [] [] [.M 46 0, .M 47 9, .M 48 0, .M 49 9, .T 50 (.bin .sub (.tmp 49) (cI 1)), .M 51 0, .M 52 9, .T 53 (.bin .sub (.tmp 52) (cI 1)), ⟨some (54, false), .ix 2 (.tmp 51) (.tmp 53), none, true, false⟩, ⟨some (55, false), .load (some 2) (.tmp 54), none, true, false⟩, .M 56 0, .M 57 9, ⟨some (58, false), .ix 2 (.tmp 56) (.tmp 57), none, true, false⟩, ⟨some (59, false), .load (some 2) (.tmp 58), none, true, false⟩, ⟨some (60, false), .ix 2 (.tmp 46) (.tmp 47), none, true, false⟩, ⟨none, .store 2 (.tmp 60) (.tmp 55), none, false, false⟩, ⟨some (61, false), .ix 2 (.tmp 48) (.tmp 50), none, true, false⟩, ⟨none, .store 2 (.tmp 61) (.tmp 59), none, false, false⟩]) (.seq (.seq (.reg [] [] [.M 62 9, .M 63 1, .T 64 (.bin .sub (.tmp 62) (.tmp 63)), .K 65 (.bin .geq (.tmp 64) (cI 2))]) (.cond (.tmp 65) (some 65) (.seq (.reg [] [] [.M 66 9, .T 67 (.bin .sub (.tmp 66) (cI 1)), .N 11 67]) (.block 4 19343440303170025034942464 (.loop qoI9))) (.skip))) (.seq (.reg [] [] [.M 101 2, .M 102 9, .T 103 (.bin .sub (.tmp 101) (.tmp 102)), .K 104 (.bin .geq (.tmp 103) (cI 2))]) (.cond (.tmp 104) (some 104) (.seq (.reg [] [] [.M 105 9, .T 106 (.bin .add (.tmp 105) (cI 1)), .N 12 106]) (.block 6 21268317252094917911888073248812898304 (.loop qoM9))) (.skip))))))))) (.reg [] [] [.M 17 10, .T 18 (.bin .add (.tmp 17) (cI 1)), .N 10 18]))
def c127 : ACode := .seq (.reg [] [] [.K 8 (.mv (.const (.bool false)))]) (.seq (.reg [] [] [.M 13 1, .T 14 (.bin .add (.tmp 13) (cI 1)), .N 9 14]) (.seq (.seq (.reg [] [] [.K 10 (.mv (cI 0))]) (.block 0 21268317252094917911888073248812898304 (.loop qnR9))) (.seq (.reg [] [] [.K 8 (.mv (.const (.bool false)))]) (.ret))))
theorem is127 : IsF C 127 141 21268317252094917911888073248812900111 c127 [.tmp 8] := ⟨⟨Tryd.f127, _, C_P ▸ Tryd.func127, rfl, rfl, rfl, by kernel_rfl, rfl⟩⟩
def qbv9 (s1 : Int) (s2 : Int) (s9 : Int) (s10 : Int) (g1 : AHeap) (v0 : Nat) (n0 : Nat) (g2 : AHeap) : Int × (List Bind) → AHeap → St := fun (s12, o0) gt => ⟨[(0, .ref g1.length v0 0 n0), (1, PI s1), (2, PI s2), (3, .fn 84 []), (8, PB false), (9, PI s9), (10, PI s10), (12, PI s12)], (g1 ++ (.row false v0 2 (rowP qc9 o0) :: (g2 ++ gt)))⟩
def qdt9 (s1 : Int) (s2 : Int) (s9 : Int) (s10 : Int) (g1 : AHeap) (v0 : Nat) (n0 : Nat) (g2 : AHeap) : Int × (List Bind) → Prop := fun (s12, o0) => o0.length = n0
def qfV9 (s1 : Int) (s2 : Int) (s9 : Int) (s10 : Int) (g1 : AHeap) (v0 : Nat) (n0 : Nat) (g2 : AHeap) : ((List Bind)) → AExit × St → Prop := fun o0 q => ∃ d12 : PV, ∃ h1 : AHeap, q = (.exit 6, ⟨[(0, .ref g1.length v0 0 n0), (1, PI s1), (2, PI s2), (3, .fn 84 []), (8, PB false), (9, PI s9), (10, PI s10), (12, d12)], (g1 ++ (.row false v0 2 (rowP qc9 o0) :: (g2 ++ h1)))⟩) ∧ o0.length = n0
theorem qdq9 {s1 : Int} {s2 : Int} {s9 : Int} {s10 : Int} {g1 : AHeap} {v0 : Nat} {n0 : Nat} {g2 : AHeap} : SimI C 21268317252094917911888073248812900111 qoM9 (qdt9 s1 s2 s9 s10 g1 v0 n0 g2) (qx9 s1 s2 s9 s10) (qbv9 s1 s2 s9 s10 g1 v0 n0 g2) (qfV9 s1 s2 s9 s10 g1 v0 n0 g2) := by
  intro s g r hI hr
  obtain ⟨s12, o0⟩ := s
  have ⟨gt, hg0⟩ : ∃ y, y = g := ⟨_, rfl⟩
  subst hg0
  simp only [qdt9] at hI
  have hI0 := hI
  simp only [qx9] at hr
  rcases iteP hr with ⟨h1, hr⟩ | ⟨h1, hr⟩
  obtain ⟨x26, h2, x27, h3, x28, h4, hr⟩ := bs3 hr
  have h2a := eq_true (qa9 h2).1
  have h2b : (s12 < (n0 : Int)) = True := eq_true (by have hb : s12 < (o0.length : Int) := (qa9 h2).2.1; omega)
  have h2c := (qa9 h2).2.2
  have h3a := eq_true (qa9 h3).1
  have h3b : ((w64 (s12 - 1)) < (n0 : Int)) = True := eq_true (by have hb : (w64 (s12 - 1)) < (o0.length : Int) := (qa9 h3).2.1; omega)
  have h3c := (qa9 h3).2.2
  have h4k := fun h => (qw9 h4).o rfl rfl rfl (h := h) (args := [.ag [PI x26.Var, .d (.rd (x26.T.map intD))], .ag [PI x27.Var, .d (.rd (x27.T.map intD))]]) rfl
  try simp only [go_sem] at h4k
  rcases iteP hr with ⟨h5, hr⟩ | ⟨h5, hr⟩
  obtain ⟨x29, h6, hr⟩ := bsome hr
  have h6a := eq_true (qa9 h6).1
  have h6b : ((w64 (s12 - 1)) < (n0 : Int)) = True := eq_true (by have hb : (w64 (s12 - 1)) < ((o0.set (s12).toNat x27).length : Int) := (qa9 h6).2.1; simp only [llA, lrA] at hb; omega)
  have h6c := (qa9 h6).2.2
  obtain rfl := oiA hr
  refine ⟨⟨gt, ?_⟩, (show ((o0.set (s12).toNat x27).set (w64 (s12 - 1)).toNat x26).length = n0 by first | assumption | (simp only [llA, lrA]; first | done | assumption | omega) | omega)⟩
  rotate_left
  obtain rfl := oiA hr
  refine xe_of ⟨PI s12, gt, rfl, (show o0.length = n0 by first | assumption | (simp only [llA, lrA]; first | done | assumption | omega) | omega)⟩ ?_
  rotate_left
  obtain rfl := oiA hr
  refine xe_of ⟨PI s12, gt, rfl, (show o0.length = n0 by first | assumption | (simp only [llA, lrA]; first | done | assumption | omega) | omega)⟩ ?_
  rotate_left
  all_goals (simp +decide only [go_sem, qbv9, qoM9, *])
def qcf9 (s1 : Int) (s2 : Int) (s9 : Int) (s10 : Int) (g1 : AHeap) (v0 : Nat) (n0 : Nat) (g2 : AHeap) : Int × (List Bind) → AHeap → St := fun (s11, o0) gt => ⟨[(0, .ref g1.length v0 0 n0), (1, PI s1), (2, PI s2), (3, .fn 84 []), (8, PB false), (9, PI s9), (10, PI s10), (11, PI s11)], (g1 ++ (.row false v0 2 (rowP qc9 o0) :: (g2 ++ gt)))⟩
def qdr9 (s1 : Int) (s2 : Int) (s9 : Int) (s10 : Int) (g1 : AHeap) (v0 : Nat) (n0 : Nat) (g2 : AHeap) : Int × (List Bind) → Prop := fun (s11, o0) => o0.length = n0
def qge9 (s1 : Int) (s2 : Int) (s9 : Int) (s10 : Int) (g1 : AHeap) (v0 : Nat) (n0 : Nat) (g2 : AHeap) : ((List Bind)) → AExit × St → Prop := fun o0 q => ∃ d11 : PV, ∃ h1 : AHeap, q = (.exit 4, ⟨[(0, .ref g1.length v0 0 n0), (1, PI s1), (2, PI s2), (3, .fn 84 []), (8, PB false), (9, PI s9), (10, PI s10), (11, d11)], (g1 ++ (.row false v0 2 (rowP qc9 o0) :: (g2 ++ h1)))⟩) ∧ o0.length = n0
theorem qgp9 {s1 : Int} {s2 : Int} {s9 : Int} {s10 : Int} {g1 : AHeap} {v0 : Nat} {n0 : Nat} {g2 : AHeap} : SimI C 21268317252094917911888073248812900111 qoI9 (qdr9 s1 s2 s9 s10 g1 v0 n0 g2) (qI9 s1 s2 s9 s10) (qcf9 s1 s2 s9 s10 g1 v0 n0 g2) (qge9 s1 s2 s9 s10 g1 v0 n0 g2) := by
  intro s g r hI hr
  obtain ⟨s11, o0⟩ := s
  have ⟨gt, hg0⟩ : ∃ y, y = g := ⟨_, rfl⟩
  subst hg0
  simp only [qdr9] at hI
  have hI0 := hI
  simp only [qI9] at hr
  rcases iteP hr with ⟨h1, hr⟩ | ⟨h1, hr⟩
  obtain ⟨x10, h2, x11, h3, x12, h4, hr⟩ := bs3 hr
  have h2a := eq_true (qa9 h2).1
  have h2b : (s11 < (n0 : Int)) = True := eq_true (by have hb : s11 < (o0.length : Int) := (qa9 h2).2.1; omega)
  have h2c := (qa9 h2).2.2
  have h3a := eq_true (qa9 h3).1
  have h3b : ((w64 (s11 - 1)) < (n0 : Int)) = True := eq_true (by have hb : (w64 (s11 - 1)) < (o0.length : Int) := (qa9 h3).2.1; omega)
  have h3c := (qa9 h3).2.2
  have h4k := fun h => (qw9 h4).o rfl rfl rfl (h := h) (args := [.ag [PI x10.Var, .d (.rd (x10.T.map intD))], .ag [PI x11.Var, .d (.rd (x11.T.map intD))]]) rfl
  try simp only [go_sem] at h4k
  rcases iteP hr with ⟨h5, hr⟩ | ⟨h5, hr⟩
  obtain ⟨x13, h6, hr⟩ := bsome hr
  have h6a := eq_true (qa9 h6).1
  have h6b : ((w64 (s11 - 1)) < (n0 : Int)) = True := eq_true (by have hb : (w64 (s11 - 1)) < ((o0.set (s11).toNat x11).length : Int) := (qa9 h6).2.1; simp only [llA, lrA] at hb; omega)
  have h6c := (qa9 h6).2.2
  obtain rfl := oiA hr
  refine ⟨⟨gt, ?_⟩, (show ((o0.set (s11).toNat x11).set (w64 (s11 - 1)).toNat x10).length = n0 by first | assumption | (simp only [llA, lrA]; first | done | assumption | omega) | omega)⟩
  rotate_left
  obtain rfl := oiA hr
  refine xe_of ⟨PI s11, gt, rfl, (show o0.length = n0 by first | assumption | (simp only [llA, lrA]; first | done | assumption | omega) | omega)⟩ ?_
  rotate_left
  obtain rfl := oiA hr
  refine xe_of ⟨PI s11, gt, rfl, (show o0.length = n0 by first | assumption | (simp only [llA, lrA]; first | done | assumption | omega) | omega)⟩ ?_
  rotate_left
  all_goals (simp +decide only [go_sem, qcf9, qoI9, *])
def qbx9 (s1 : Int) (s2 : Int) (s10 : Int) (o0 : List Bind) (g1 : AHeap) (v0 : Nat) (n0 : Nat) (g2 : AHeap) : Int → AHeap → St := fun s9 gt => ⟨[(0, .ref g1.length v0 0 n0), (1, PI s1), (2, PI s2), (3, .fn 84 []), (8, PB false), (9, PI s9), (10, PI s10)], (g1 ++ (.row false v0 2 (rowP qc9 o0) :: (g2 ++ gt)))⟩
def qds9 (s1 : Int) (s2 : Int) (s10 : Int) (o0 : List Bind) (g1 : AHeap) (v0 : Nat) (n0 : Nat) (g2 : AHeap) : Int → Prop := fun s9 => o0.length = n0
def qgd9 (s1 : Int) (s2 : Int) (s10 : Int) (o0 : List Bind) (g1 : AHeap) (v0 : Nat) (n0 : Nat) (g2 : AHeap) : Int → AExit × St → Prop := fun s9 q => ∃ g, q = (.exit 2, qbx9 s1 s2 s10 o0 g1 v0 n0 g2 s9 g)
theorem qgk9 {s1 : Int} {s2 : Int} {s10 : Int} {o0 : List Bind} {g1 : AHeap} {v0 : Nat} {n0 : Nat} {g2 : AHeap} : SimI C 21268317252094917911888073248812900111 qnW9 (qds9 s1 s2 s10 o0 g1 v0 n0 g2) (qC9 s1 s2 s10 o0) (qbx9 s1 s2 s10 o0 g1 v0 n0 g2) (qgd9 s1 s2 s10 o0 g1 v0 n0 g2) := by
  intro s g r hI hr
  have ⟨s9, hs0⟩ : ∃ y, y = s := ⟨_, rfl⟩
  subst hs0
  have ⟨gt, hg0⟩ : ∃ y, y = g := ⟨_, rfl⟩
  subst hg0
  simp only [qds9] at hI
  have hI0 := hI
  simp only [qC9] at hr
  rcases iteP hr with ⟨h1, hr⟩ | ⟨h1, hr⟩
  obtain ⟨x1, h2, x2, h3, x3, h4, hr⟩ := bs3 hr
  have h2a := eq_true (qa9 h2).1
  have h2b : (s9 < (n0 : Int)) = True := eq_true (by have hb : s9 < (o0.length : Int) := (qa9 h2).2.1; omega)
  have h2c := (qa9 h2).2.2
  have h3a := eq_true (qa9 h3).1
  have h3b : ((w64 (s9 - 1)) < (n0 : Int)) = True := eq_true (by have hb : (w64 (s9 - 1)) < (o0.length : Int) := (qa9 h3).2.1; omega)
  have h3c := (qa9 h3).2.2
  have h4k := fun h => (qw9 h4).o rfl rfl rfl (h := h) (args := [.ag [PI x1.Var, .d (.rd (x1.T.map intD))], .ag [PI x2.Var, .d (.rd (x2.T.map intD))]]) rfl
  try simp only [go_sem] at h4k
  rcases iteP hr with ⟨h5, hr⟩ | ⟨h5, hr⟩
  obtain rfl := oiA hr
  refine xe_of ⟨gt, rfl⟩ ?_
  rotate_left
  obtain rfl := oiA hr
  refine ⟨⟨gt, ?_⟩, (show o0.length = n0 by first | assumption | (simp only [llA, lrA]; first | done | assumption | omega) | omega)⟩
  rotate_left
  obtain rfl := oiA hr
  refine xe_of ⟨gt, rfl⟩ ?_
  rotate_left
  all_goals (simp +decide only [go_sem, qbx9, qnW9, *])
def qZ9 (s1 : Int) (s2 : Int) (g1 : AHeap) (v0 : Nat) (n0 : Nat) (g2 : AHeap) : Int × Int × (List Bind) → AHeap → St := fun (s9, s10, o0) gt => ⟨[(0, .ref g1.length v0 0 n0), (1, PI s1), (2, PI s2), (3, .fn 84 []), (8, PB false), (9, PI s9), (10, PI s10)], (g1 ++ (.row false v0 2 (rowP qc9 o0) :: (g2 ++ gt)))⟩
def qdo9 (s1 : Int) (s2 : Int) (g1 : AHeap) (v0 : Nat) (n0 : Nat) (g2 : AHeap) : Int × Int × (List Bind) → Prop := fun (s9, s10, o0) => o0.length = n0
def qgo9 (s1 : Int) (s2 : Int) (g1 : AHeap) (v0 : Nat) (n0 : Nat) (g2 : AHeap) : ((Bool × (List Bind)) ⊕ (Int × Int × (List Bind))) → AExit × St → Prop
  | .inl r, q => XL C [.tmp 8] (fun vs hp => ∃ hz : AHeap, vs = [PB r.1] ∧ hp = (g1 ++ (.row false v0 2 (rowP qc9 r.2) :: (g2 ++ hz))) ∧ r.2.length = n0) q
  | .inr (s9, s10, o0), q => ∃ g, q = (.exit 0, qZ9 s1 s2 g1 v0 n0 g2 (s9, s10, o0) g) ∧ o0.length = n0
theorem qfZ9 {s1 : Int} {s2 : Int} {g1 : AHeap} {v0 : Nat} {n0 : Nat} {g2 : AHeap} : SimI C 21268317252094917911888073248812900111 qnR9 (qdo9 s1 s2 g1 v0 n0 g2) (qH9 s1 s2) (qZ9 s1 s2 g1 v0 n0 g2) (qgo9 s1 s2 g1 v0 n0 g2) := by
  intro s g r hI hr
  obtain ⟨s9, s10, o0⟩ := s
  have ⟨gt, hg0⟩ : ∃ y, y = g := ⟨_, rfl⟩
  subst hg0
  simp only [qdo9] at hI
  have hI0 := hI
  simp only [qH9] at hr
  rcases iteP hr with ⟨h1, hr⟩ | ⟨h1, hr⟩
  obtain ⟨x4, h2, hr⟩ := bsome hr
  obtain ⟨q2, h2L, h2X⟩ := (qgk9 (g1 := g1) (v0 := v0) (n0 := n0) (g2 := (g2 ++ gt))).L (g := []) h2 (show o0.length = n0 by first | assumption | (simp only [llA, lrA]; first | done | assumption | omega) | omega)
  have ⟨x5, hq2⟩ : ∃ y, y = x4 := ⟨_, rfl⟩
  subst hq2
  try dsimp only at hr
  obtain ⟨z6, rfl⟩ := h2X
  simp only [qbx9, go_sem] at h2L
  try simp only [hI0] at h2L
  rcases iteP hr with ⟨h3, hr⟩ | ⟨h3, hr⟩
  obtain rfl := oiA hr
  refine xl_of ⟨(gt ++ z6), rfl, rfl, (show o0.length = n0 by first | assumption | (simp only [llA, lrA]; first | done | assumption | omega) | omega)⟩ ?_
  rotate_left
  rcases iteP hr with ⟨h4, hr⟩ | ⟨h4, hr⟩
  obtain rfl := oiA hr
  refine xl_of ⟨(gt ++ z6), rfl, rfl, (show o0.length = n0 by first | assumption | (simp only [llA, lrA]; first | done | assumption | omega) | omega)⟩ ?_
  rotate_left
  obtain ⟨x7, h5, x8, h6, x9, h7, hr⟩ := bs3 hr
  have h5a := eq_true (qa9 h5).1
  have h5b : ((w64 (x5 - 1)) < (n0 : Int)) = True := eq_true (by have hb : (w64 (x5 - 1)) < (o0.length : Int) := (qa9 h5).2.1; omega)
  have h5c := (qa9 h5).2.2
  have h6a := eq_true (qa9 h6).1
  have h6b : (x5 < (n0 : Int)) = True := eq_true (by have hb : x5 < (o0.length : Int) := (qa9 h6).2.1; omega)
  have h6c := (qa9 h6).2.2
  have h7a := eq_true (qa9 h7).1
  have h7b : ((w64 (x5 - 1)) < (n0 : Int)) = True := eq_true (by have hb : (w64 (x5 - 1)) < ((o0.set (x5).toNat x7).length : Int) := (qa9 h7).2.1; simp only [llA, lrA] at hb; omega)
  have h7c := (qa9 h7).2.2
  rcases iteP hr with ⟨h8, hr⟩ | ⟨h8, hr⟩
  obtain ⟨x14, h9, hr⟩ := bsome hr
  obtain ⟨q9, h9L, h9X⟩ := (qgp9 (g1 := g1) (v0 := v0) (n0 := n0) (g2 := (g2 ++ (gt ++ z6)))).L (g := []) h9 (show ((o0.set (x5).toNat x7).set (w64 (x5 - 1)).toNat x8).length = n0 by first | assumption | (simp only [llA, lrA]; first | done | assumption | omega) | omega)
  have ⟨x15, hq9⟩ : ∃ y, y = x14 := ⟨_, rfl⟩
  subst hq9
  try dsimp only at hr
  obtain ⟨z16, z17, rfl, h9l0⟩ := h9X
  simp only [qcf9, go_sem] at h9L
  try simp only [hI0] at h9L
  rcases iteP hr with ⟨h10, hr⟩ | ⟨h10, hr⟩
  obtain ⟨x22, h11, hr⟩ := bsome hr
  obtain ⟨q11, h11L, h11X⟩ := (qdq9 (g1 := g1) (v0 := v0) (n0 := n0) (g2 := (g2 ++ (gt ++ (z6 ++ z17))))).L (g := []) h11 (show x15.length = n0 by first | assumption | (simp only [llA, lrA]; first | done | assumption | omega) | omega)
  have ⟨x23, hq11⟩ : ∃ y, y = x22 := ⟨_, rfl⟩
  subst hq11
  try dsimp only at hr
  obtain ⟨z24, z25, rfl, h11l0⟩ := h11X
  simp only [qbv9, go_sem] at h11L
  try simp only [hI0] at h11L
  obtain rfl := oiA hr
  refine ⟨⟨(gt ++ (z6 ++ (z17 ++ z25))), ?_⟩, (show x23.length = n0 by first | assumption | (simp only [llA, lrA]; first | done | assumption | omega) | omega)⟩
  rotate_left
  obtain rfl := oiA hr
  refine ⟨⟨(gt ++ (z6 ++ z17)), ?_⟩, (show x15.length = n0 by first | assumption | (simp only [llA, lrA]; first | done | assumption | omega) | omega)⟩
  rotate_left
  rcases iteP hr with ⟨h12, hr⟩ | ⟨h12, hr⟩
  obtain ⟨x30, h13, hr⟩ := bsome hr
  obtain ⟨q13, h13L, h13X⟩ := (qdq9 (g1 := g1) (v0 := v0) (n0 := n0) (g2 := (g2 ++ (gt ++ z6)))).L (g := []) h13 (show ((o0.set (x5).toNat x7).set (w64 (x5 - 1)).toNat x8).length = n0 by first | assumption | (simp only [llA, lrA]; first | done | assumption | omega) | omega)
  have ⟨x31, hq13⟩ : ∃ y, y = x30 := ⟨_, rfl⟩
  subst hq13
  try dsimp only at hr
  obtain ⟨z32, z33, rfl, h13l0⟩ := h13X
  simp only [qbv9, go_sem] at h13L
  try simp only [hI0] at h13L
  obtain rfl := oiA hr
  refine ⟨⟨(gt ++ (z6 ++ z33)), ?_⟩, (show x31.length = n0 by first | assumption | (simp only [llA, lrA]; first | done | assumption | omega) | omega)⟩
  rotate_left
  obtain rfl := oiA hr
  refine ⟨⟨(gt ++ z6), ?_⟩, (show ((o0.set (x5).toNat x7).set (w64 (x5 - 1)).toNat x8).length = n0 by first | assumption | (simp only [llA, lrA]; first | done | assumption | omega) | omega)⟩
  rotate_left
  obtain rfl := oiA hr
  refine xe_of ⟨gt, rfl, (show o0.length = n0 by first | assumption | (simp only [llA, lrA]; first | done | assumption | omega) | omega)⟩ ?_
  rotate_left
  all_goals (simp +decide only [go_sem, qZ9, qnR9, *])
theorem qdz9 {s1 : Int} {s2 : Int} {o0 : List Bind} {g1 : AHeap} {v0 : Nat} {n0 : Nat} {g2 : AHeap} (hln0 : o0.length = n0) {r : Bool × (List Bind)} (hr : qO9 s1 s2 o0 = some r) : ∃ hz : AHeap, Lim C 127 [.ref g1.length v0 0 n0, PI s1, PI s2, .fn 84 []] (g1 ++ (.row false v0 2 (rowP qc9 o0) :: g2)) = some (resOf [PB r.1], (g1 ++ (.row false v0 2 (rowP qc9 r.2) :: (g2 ++ hz)))) ∧ r.2.length = n0 := by
  simp only [qO9] at hr
  obtain ⟨x34, h1, hr⟩ := bsome hr
  obtain ⟨q1, h1L, h1X⟩ := (qfZ9 (g1 := g1) (v0 := v0) (n0 := n0) (g2 := g2)).L (g := []) h1 (show o0.length = n0 by first | assumption | (simp only [llA, lrA]; first | done | assumption | omega) | omega)
  rcases x34 with x35 | ⟨x36, x37, x38⟩
  try dsimp only at hr
  obtain ⟨st1, _, _, rfl, h1R, y2, rfl, rfl, h1f0⟩ := h1X
  simp only [qZ9, go_sem] at h1L
  try simp only [hln0] at h1L
  obtain rfl := oiA hr
  refine ⟨y2, run_L is127 (nbA rfl) ?_, h1f0⟩
  rotate_left
  try dsimp only at hr
  obtain ⟨z39, rfl, h1l0⟩ := h1X
  simp only [qZ9, go_sem] at h1L
  try simp only [hln0] at h1L
  obtain rfl := oiA hr
  refine ⟨z39, run_L is127 (nbA rfl) ?_, (show x38.length = n0 by first | assumption | (simp only [llA, lrA]; first | done | assumption | omega) | omega)⟩
  rotate_left
  all_goals (simp +decide only [go_sem, c127, *])
def qom9 : ACode := .seq (.seq (.reg [] [] [.M 123 12, .M 124 13, .T 125 (.bin .leq (.tmp 123) (.tmp 124)), .M 126 125, .MG 127 126 true 4, .MG 128 126 true 0, .MG 129 126 true 13, ⟨some (130, false), .ix 2 (.tmp 128) (.tmp 129), some (126, true), true, false⟩, ⟨some (131, false), .load (some 2) (.tmp 130), some (126, true), true, false⟩, .MG 132 126 true 0, .MG 133 126 true 1, ⟨some (134, false), .ix 2 (.tmp 132) (.tmp 133), some (126, true), true, false⟩, ⟨some (135, false), .load (some 2) (.tmp 134), some (126, true), true, false⟩, ⟨some (136, false), .callV (.tmp 127) [.tmp 131, .tmp 135], some (126, true), true, false⟩, .TG 137 126 true (.bin .lss (.tmp 136) (cI 0)), .TG 138 126 true (.not (.tmp 137)), .K 139 (.pick (.tmp 126) (.tmp 138) (.const (.bool false)))]) (.cond (.tmp 139) (some 139) (.skip) (.exit 8))) (.block 9 696898287454081973172991196020261297061888 (.reg [] [] [.M 140 13, .T 141 (.bin .sub (.tmp 140) (cI 1)), .N 13 141]))
def qoh9 : ACode := .seq (.seq (.reg [] [] [.M 105 12, .M 106 13, .T 107 (.bin .leq (.tmp 105) (.tmp 106)), .M 108 107, .MG 109 108 true 4, .MG 110 108 true 0, .MG 111 108 true 12, ⟨some (112, false), .ix 2 (.tmp 110) (.tmp 111), some (108, true), true, false⟩, ⟨some (113, false), .load (some 2) (.tmp 112), some (108, true), true, false⟩, .MG 114 108 true 0, .MG 115 108 true 1, ⟨some (116, false), .ix 2 (.tmp 114) (.tmp 115), some (108, true), true, false⟩, ⟨some (117, false), .load (some 2) (.tmp 116), some (108, true), true, false⟩, ⟨some (118, false), .callV (.tmp 109) [.tmp 113, .tmp 117], some (108, true), true, false⟩, .TG 119 108 true (.bin .lss (.tmp 118) (cI 0)), .K 120 (.pick (.tmp 108) (.tmp 119) (.const (.bool false)))]) (.cond (.tmp 120) (some 120) (.skip) (.exit 6))) (.block 7 1329227995784915872903807060280344576 (.reg [] [] [.M 121 12, .T 122 (.bin .add (.tmp 121) (cI 1)), .N 12 122]))
def qnP9 : ACode := .block 5 22997644815212700899624582372475683083386880 (.seq (.block 6 1329227995784915872903807060280344576 (.loop qoh9)) (.seq (.block 8 696899616682077758088864099827321577406464 (.loop qom9)) (.seq (.seq (.reg [] [] [.M 142 12, .M 143 13, .K 144 (.bin .gtr (.tmp 142) (.tmp 143))]) (.cond (.tmp 144) (some 144) (.exit 4) (.skip))) (.seq (.reg [] [] [.M 145 0, .M 146 12, .M 147 0, .M 148 13, .M 149 0, .M 150 13, ⟨some (151, false), .ix 2 (.tmp 149) (.tmp 150), none, true, false⟩, ⟨some (152, false), .load (some 2) (.tmp 151), none, true, false⟩, .M 153 0, .M 154 12, ⟨some (155, false), .ix 2 (.tmp 153) (.tmp 154), none, true, false⟩, ⟨some (156, false), .load (some 2) (.tmp 155), none, true, false⟩, ⟨some (157, false), .ix 2 (.tmp 145) (.tmp 146), none, true, false⟩, ⟨none, .store 2 (.tmp 157) (.tmp 152), none, false, false⟩, ⟨some (158, false), .ix 2 (.tmp 147) (.tmp 148), none, true, false⟩, ⟨none, .store 2 (.tmp 158) (.tmp 156), none, false, false⟩]) (.seq (.reg [] [] [.M 159 12, .T 160 (.bin .add (.tmp 159) (cI 1)), .N 12 160]) (.reg [] [] [.M 161 13, .T 162 (.bin .sub (.tmp 161) (cI 1)), .N 13 162]))))))
def qor9 : ACode := .seq (.seq (.reg [] [] [.M 50 12, .M 51 13, .T 52 (.bin .leq (.tmp 50) (.tmp 51)), .M 53 52, .MG 54 53 true 4, .MG 55 53 true 0, .MG 56 53 true 13, ⟨some (57, false), .ix 2 (.tmp 55) (.tmp 56), some (53, true), true, false⟩, ⟨some (58, false), .load (some 2) (.tmp 57), some (53, true), true, false⟩, .MG 59 53 true 0, .MG 60 53 true 1, ⟨some (61, false), .ix 2 (.tmp 59) (.tmp 60), some (53, true), true, false⟩, ⟨some (62, false), .load (some 2) (.tmp 61), some (53, true), true, false⟩, ⟨some (63, false), .callV (.tmp 54) [.tmp 58, .tmp 62], some (53, true), true, false⟩, .TG 64 53 true (.bin .lss (.tmp 63) (cI 0)), .TG 65 53 true (.not (.tmp 64)), .K 66 (.pick (.tmp 53) (.tmp 65) (.const (.bool false)))]) (.cond (.tmp 66) (some 66) (.skip) (.exit 2))) (.block 3 73786976294838206464 (.reg [] [] [.M 67 13, .T 68 (.bin .sub (.tmp 67) (cI 1)), .N 13 68]))
def qnN9 : ACode := .seq (.seq (.reg [] [] [.M 32 12, .M 33 13, .T 34 (.bin .leq (.tmp 32) (.tmp 33)), .M 35 34, .MG 36 35 true 4, .MG 37 35 true 0, .MG 38 35 true 12, ⟨some (39, false), .ix 2 (.tmp 37) (.tmp 38), some (35, true), true, false⟩, ⟨some (40, false), .load (some 2) (.tmp 39), some (35, true), true, false⟩, .MG 41 35 true 0, .MG 42 35 true 1, ⟨some (43, false), .ix 2 (.tmp 41) (.tmp 42), some (35, true), true, false⟩, ⟨some (44, false), .load (some 2) (.tmp 43), some (35, true), true, false⟩, ⟨some (45, false), .callV (.tmp 36) [.tmp 40, .tmp 44], some (35, true), true, false⟩, .TG 46 35 true (.bin .lss (.tmp 45) (cI 0)), .K 47 (.pick (.tmp 35) (.tmp 46) (.const (.bool false)))]) (.cond (.tmp 47) (some 47) (.skip) (.exit 0))) (.block 1 140737488355328 (.reg [] [] [.M 48 12, .T 49 (.bin .add (.tmp 48) (cI 1)), .N 12 49]))
def c129 : ACode := .seq (.reg [] [] [.K 10 (.mv (cI 0)), .K 11 (.mv (.const (.bool false)))]) (.seq (.reg [] [] [.M 14 0, .M 15 1, .M 16 0, .M 17 3, .M 18 0, .M 19 3, ⟨some (20, false), .ix 2 (.tmp 18) (.tmp 19), none, true, false⟩, ⟨some (21, false), .load (some 2) (.tmp 20), none, true, false⟩, .M 22 0, .M 23 1, ⟨some (24, false), .ix 2 (.tmp 22) (.tmp 23), none, true, false⟩, ⟨some (25, false), .load (some 2) (.tmp 24), none, true, false⟩, ⟨some (26, false), .ix 2 (.tmp 14) (.tmp 15), none, true, false⟩, ⟨none, .store 2 (.tmp 26) (.tmp 21), none, false, false⟩, ⟨some (27, false), .ix 2 (.tmp 16) (.tmp 17), none, true, false⟩, ⟨none, .store 2 (.tmp 27) (.tmp 25), none, false, false⟩]) (.seq (.reg [] [] [.M 28 1, .T 29 (.bin .add (.tmp 28) (cI 1)), .M 30 2, .T 31 (.bin .sub (.tmp 30) (cI 1)), .N 12 29, .N 13 31]) (.seq (.block 0 140737488355328 (.loop qnN9)) (.seq (.block 2 73786976294838206464 (.loop qor9)) (.seq (.seq (.reg [] [] [.M 69 12, .M 70 13, .K 71 (.bin .gtr (.tmp 69) (.tmp 70))]) (.cond (.tmp 71) (some 71) (.seq (.reg [] [] [.M 72 0, .M 73 13, .M 74 0, .M 75 1, .M 76 0, .M 77 1, ⟨some (78, false), .ix 2 (.tmp 76) (.tmp 77), none, true, false⟩, ⟨some (79, false), .load (some 2) (.tmp 78), none, true, false⟩, .M 80 0, .M 81 13, ⟨some (82, false), .ix 2 (.tmp 80) (.tmp 81), none, true, false⟩, ⟨some (83, false), .load (some 2) (.tmp 82), none, true, false⟩, ⟨some (84, false), .ix 2 (.tmp 72) (.tmp 73), none, true, false⟩, ⟨none, .store 2 (.tmp 84) (.tmp 79), none, false, false⟩, ⟨some (85, false), .ix 2 (.tmp 74) (.tmp 75), none, true, false⟩, ⟨none, .store 2 (.tmp 85) (.tmp 83), none, false, false⟩]) (.seq (.reg [] [] [.M 86 13, .N 10 86, .K 11 (.mv (.const (.bool true)))]) (.ret))) (.skip))) (.seq (.reg [] [] [.M 87 0, .M 88 12, .M 89 0, .M 90 13, .M 91 0, .M 92 13, ⟨some (93, false), .ix 2 (.tmp 91) (.tmp 92), none, true, false⟩, ⟨some (94, false), .load (some 2) (.tmp 93), none, true, false⟩, .M 95 0, .M 96 12, ⟨some (97, false), .ix 2 (.tmp 95) (.tmp 96), none, true, false⟩, ⟨some (98, false), .load (some 2) (.tmp 97), none, true, false⟩, ⟨some (99, false), .ix 2 (.tmp 87) (.tmp 88), none, true, false⟩, ⟨none, .store 2 (.tmp 99) (.tmp 94), none, false, false⟩, ⟨some (100, false), .ix 2 (.tmp 89) (.tmp 90), none, true, false⟩, ⟨none, .store 2 (.tmp 100) (.tmp 98), none, false, false⟩]) (.seq (.reg [] [] [.M 101 12, .T 102 (.bin .add (.tmp 101) (cI 1)), .N 12 102]) (.seq (.reg [] [] [.M 103 13, .T 104 (.bin .sub (.tmp 103) (cI 1)), .N 13 104]) (.seq (.block 4 22997644815212700899624582372475683083386880 (.loop qnP9)) (.seq (.reg [] [] [.M 163 0, .M 164 13, .M 165 0, .M 166 1, .M 167 0, .M 168 1, ⟨some (169, false), .ix 2 (.tmp 167) (.tmp 168), none, true, false⟩, ⟨some (170, false), .load (some 2) (.tmp 169), none, true, false⟩, .M 171 0, .M 172 13, ⟨some (173, false), .ix 2 (.tmp 171) (.tmp 172), none, true, false⟩, ⟨some (174, false), .load (some 2) (.tmp 173), none, true, false⟩, ⟨some (175, false), .ix 2 (.tmp 163) (.tmp 164), none, true, false⟩, ⟨none, .store 2 (.tmp 175) (.tmp 170), none, false, false⟩, ⟨some (176, false), .ix 2 (.tmp 165) (.tmp 166), none, true, false⟩, ⟨none, .store 2 (.tmp 176) (.tmp 174), none, false, false⟩]) (.seq (.reg [] [] [.M 177 13, .N 10 177, .K 11 (.mv (.const (.bool false)))]) (.ret))))))))))))
theorem is129 : IsF C 129 178 22997644815212700899627017342834150232570911 c129 [.tmp 10, .tmp 11] := ⟨⟨Tryd.f129, _, C_P ▸ Tryd.func129, rfl, rfl, rfl, by kernel_rfl, rfl⟩⟩
def qcM9 (s1 : Int) (s2 : Int) (s3 : Int) (s12 : Int) (o0 : List Bind) (g1 : AHeap) (v0 : Nat) (n0 : Nat) (g2 : AHeap) : Int → AHeap → St := fun s13 gt => ⟨[(0, .ref g1.length v0 0 n0), (1, PI s1), (2, PI s2), (3, PI s3), (4, .fn 84 []), (10, PI 0), (11, PB false), (12, PI s12), (13, PI s13)], (g1 ++ (.row false v0 2 (rowP qc9 o0) :: (g2 ++ gt)))⟩
def qga9 (s1 : Int) (s2 : Int) (s3 : Int) (s12 : Int) (o0 : List Bind) (g1 : AHeap) (v0 : Nat) (n0 : Nat) (g2 : AHeap) : Int → Prop := fun s13 => o0.length = n0
def qkk9 (s1 : Int) (s2 : Int) (s3 : Int) (s12 : Int) (o0 : List Bind) (g1 : AHeap) (v0 : Nat) (n0 : Nat) (g2 : AHeap) : Int → AExit × St → Prop := fun s13 q => ∃ g, q = (.exit 8, qcM9 s1 s2 s3 s12 o0 g1 v0 n0 g2 s13 g)
theorem qjU9 {s1 : Int} {s2 : Int} {s3 : Int} {s12 : Int} {o0 : List Bind} {g1 : AHeap} {v0 : Nat} {n0 : Nat} {g2 : AHeap} : SimI C 22997644815212700899627017342834150232570911 qom9 (qga9 s1 s2 s3 s12 o0 g1 v0 n0 g2) (qcd9 s1 s2 s3 s12 o0) (qcM9 s1 s2 s3 s12 o0 g1 v0 n0 g2) (qkk9 s1 s2 s3 s12 o0 g1 v0 n0 g2) := by
  intro s g r hI hr
  have ⟨s13, hs0⟩ : ∃ y, y = s := ⟨_, rfl⟩
  subst hs0
  have ⟨gt, hg0⟩ : ∃ y, y = g := ⟨_, rfl⟩
  subst hg0
  simp only [qga9] at hI
  have hI0 := hI
  simp only [qcd9] at hr
  rcases iteP hr with ⟨h1, hr⟩ | ⟨h1, hr⟩
  obtain ⟨x28, h2, x29, h3, x30, h4, hr⟩ := bs3 hr
  have h2a := eq_true (qa9 h2).1
  have h2b : (s13 < (n0 : Int)) = True := eq_true (by have hb : s13 < (o0.length : Int) := (qa9 h2).2.1; omega)
  have h2c := (qa9 h2).2.2
  have h3a := eq_true (qa9 h3).1
  have h3b : (s1 < (n0 : Int)) = True := eq_true (by have hb : s1 < (o0.length : Int) := (qa9 h3).2.1; omega)
  have h3c := (qa9 h3).2.2
  have h4k := fun h => (qw9 h4).o rfl rfl rfl (h := h) (args := [.ag [PI x28.Var, .d (.rd (x28.T.map intD))], .ag [PI x29.Var, .d (.rd (x29.T.map intD))]]) rfl
  try simp only [go_sem] at h4k
  rcases iteP hr with ⟨h5, hr⟩ | ⟨h5, hr⟩
  obtain rfl := oiA hr
  refine xe_of ⟨gt, rfl⟩ ?_
  rotate_left
  obtain rfl := oiA hr
  refine ⟨⟨gt, ?_⟩, (show o0.length = n0 by first | assumption | (simp only [llA, lrA]; first | done | assumption | omega) | omega)⟩
  rotate_left
  obtain rfl := oiA hr
  refine xe_of ⟨gt, rfl⟩ ?_
  rotate_left
  all_goals (simp +decide only [go_sem, qcM9, qom9, *])
def qcR9 (s1 : Int) (s2 : Int) (s3 : Int) (s13 : Int) (o0 : List Bind) (g1 : AHeap) (v0 : Nat) (n0 : Nat) (g2 : AHeap) : Int → AHeap → St := fun s12 gt => ⟨[(0, .ref g1.length v0 0 n0), (1, PI s1), (2, PI s2), (3, PI s3), (4, .fn 84 []), (10, PI 0), (11, PB false), (12, PI s12), (13, PI s13)], (g1 ++ (.row false v0 2 (rowP qc9 o0) :: (g2 ++ gt)))⟩
def qgi9 (s1 : Int) (s2 : Int) (s3 : Int) (s13 : Int) (o0 : List Bind) (g1 : AHeap) (v0 : Nat) (n0 : Nat) (g2 : AHeap) : Int → Prop := fun s12 => o0.length = n0
def qjX9 (s1 : Int) (s2 : Int) (s3 : Int) (s13 : Int) (o0 : List Bind) (g1 : AHeap) (v0 : Nat) (n0 : Nat) (g2 : AHeap) : Int → AExit × St → Prop := fun s12 q => ∃ g, q = (.exit 6, qcR9 s1 s2 s3 s13 o0 g1 v0 n0 g2 s12 g)
theorem qkl9 {s1 : Int} {s2 : Int} {s3 : Int} {s13 : Int} {o0 : List Bind} {g1 : AHeap} {v0 : Nat} {n0 : Nat} {g2 : AHeap} : SimI C 22997644815212700899627017342834150232570911 qoh9 (qgi9 s1 s2 s3 s13 o0 g1 v0 n0 g2) (qci9 s1 s2 s3 s13 o0) (qcR9 s1 s2 s3 s13 o0 g1 v0 n0 g2) (qjX9 s1 s2 s3 s13 o0 g1 v0 n0 g2) := by
  intro s g r hI hr
  have ⟨s12, hs0⟩ : ∃ y, y = s := ⟨_, rfl⟩
  subst hs0
  have ⟨gt, hg0⟩ : ∃ y, y = g := ⟨_, rfl⟩
  subst hg0
  simp only [qgi9] at hI
  have hI0 := hI
  simp only [qci9] at hr
  rcases iteP hr with ⟨h1, hr⟩ | ⟨h1, hr⟩
  obtain ⟨x22, h2, x23, h3, x24, h4, hr⟩ := bs3 hr
  have h2a := eq_true (qa9 h2).1
  have h2b : (s12 < (n0 : Int)) = True := eq_true (by have hb : s12 < (o0.length : Int) := (qa9 h2).2.1; omega)
  have h2c := (qa9 h2).2.2
  have h3a := eq_true (qa9 h3).1
  have h3b : (s1 < (n0 : Int)) = True := eq_true (by have hb : s1 < (o0.length : Int) := (qa9 h3).2.1; omega)
  have h3c := (qa9 h3).2.2
  have h4k := fun h => (qw9 h4).o rfl rfl rfl (h := h) (args := [.ag [PI x22.Var, .d (.rd (x22.T.map intD))], .ag [PI x23.Var, .d (.rd (x23.T.map intD))]]) rfl
  try simp only [go_sem] at h4k
  rcases iteP hr with ⟨h5, hr⟩ | ⟨h5, hr⟩
  obtain rfl := oiA hr
  refine ⟨⟨gt, ?_⟩, (show o0.length = n0 by first | assumption | (simp only [llA, lrA]; first | done | assumption | omega) | omega)⟩
  rotate_left
  obtain rfl := oiA hr
  refine xe_of ⟨gt, rfl⟩ ?_
  rotate_left
  obtain rfl := oiA hr
  refine xe_of ⟨gt, rfl⟩ ?_
  rotate_left
  all_goals (simp +decide only [go_sem, qcR9, qoh9, *])
def qcQ9 (s1 : Int) (s2 : Int) (s3 : Int) (g1 : AHeap) (v0 : Nat) (n0 : Nat) (g2 : AHeap) : Int × Int × (List Bind) → AHeap → St := fun (s12, s13, o0) gt => ⟨[(0, .ref g1.length v0 0 n0), (1, PI s1), (2, PI s2), (3, PI s3), (4, .fn 84 []), (10, PI 0), (11, PB false), (12, PI s12), (13, PI s13)], (g1 ++ (.row false v0 2 (rowP qc9 o0) :: (g2 ++ gt)))⟩
def qfY9 (s1 : Int) (s2 : Int) (s3 : Int) (g1 : AHeap) (v0 : Nat) (n0 : Nat) (g2 : AHeap) : Int × Int × (List Bind) → Prop := fun (s12, s13, o0) => o0.length = n0
def qjV9 (s1 : Int) (s2 : Int) (s3 : Int) (g1 : AHeap) (v0 : Nat) (n0 : Nat) (g2 : AHeap) : (Int × Int × (List Bind)) → AExit × St → Prop := fun (s12, s13, o0) q => ∃ g, q = (.exit 4, qcQ9 s1 s2 s3 g1 v0 n0 g2 (s12, s13, o0) g) ∧ o0.length = n0
theorem qka9 {s1 : Int} {s2 : Int} {s3 : Int} {g1 : AHeap} {v0 : Nat} {n0 : Nat} {g2 : AHeap} : SimI C 22997644815212700899627017342834150232570911 qnP9 (qfY9 s1 s2 s3 g1 v0 n0 g2) (qbb9 s1 s2 s3) (qcQ9 s1 s2 s3 g1 v0 n0 g2) (qjV9 s1 s2 s3 g1 v0 n0 g2) := by
  intro s g r hI hr
  obtain ⟨s12, s13, o0⟩ := s
  have ⟨gt, hg0⟩ : ∃ y, y = g := ⟨_, rfl⟩
  subst hg0
  simp only [qfY9] at hI
  have hI0 := hI
  simp only [qbb9] at hr
  obtain ⟨x25, h1, hr⟩ := bsome hr
  obtain ⟨q1, h1L, h1X⟩ := (qkl9 (g1 := g1) (v0 := v0) (n0 := n0) (g2 := (g2 ++ gt))).L (g := []) h1 (show o0.length = n0 by first | assumption | (simp only [llA, lrA]; first | done | assumption | omega) | omega)
  have ⟨x26, hq1⟩ : ∃ y, y = x25 := ⟨_, rfl⟩
  subst hq1
  try dsimp only at hr
  obtain ⟨z27, rfl⟩ := h1X
  simp only [qcR9, go_sem] at h1L
  try simp only [hI0] at h1L
  obtain ⟨x31, h2, hr⟩ := bsome hr
  obtain ⟨q2, h2L, h2X⟩ := (qjU9 (g1 := g1) (v0 := v0) (n0 := n0) (g2 := (g2 ++ (gt ++ z27)))).L (g := []) h2 (show o0.length = n0 by first | assumption | (simp only [llA, lrA]; first | done | assumption | omega) | omega)
  have ⟨x32, hq2⟩ : ∃ y, y = x31 := ⟨_, rfl⟩
  subst hq2
  try dsimp only at hr
  obtain ⟨z33, rfl⟩ := h2X
  simp only [qcM9, go_sem] at h2L
  try simp only [hI0] at h2L
  rcases iteP hr with ⟨h3, hr⟩ | ⟨h3, hr⟩
  obtain rfl := oiA hr
  refine xe_of ⟨(gt ++ (z27 ++ z33)), rfl, (show o0.length = n0 by first | assumption | (simp only [llA, lrA]; first | done | assumption | omega) | omega)⟩ ?_
  rotate_left
  obtain ⟨x34, h4, x35, h5, x36, h6, hr⟩ := bs3 hr
  have h4a := eq_true (qa9 h4).1
  have h4b : (x32 < (n0 : Int)) = True := eq_true (by have hb : x32 < (o0.length : Int) := (qa9 h4).2.1; omega)
  have h4c := (qa9 h4).2.2
  have h5a := eq_true (qa9 h5).1
  have h5b : (x26 < (n0 : Int)) = True := eq_true (by have hb : x26 < (o0.length : Int) := (qa9 h5).2.1; omega)
  have h5c := (qa9 h5).2.2
  have h6a := eq_true (qa9 h6).1
  have h6b : (x32 < (n0 : Int)) = True := eq_true (by have hb : x32 < ((o0.set (x26).toNat x34).length : Int) := (qa9 h6).2.1; simp only [llA, lrA] at hb; omega)
  have h6c := (qa9 h6).2.2
  obtain rfl := oiA hr
  refine ⟨⟨(gt ++ (z27 ++ z33)), ?_⟩, (show ((o0.set (x26).toNat x34).set (x32).toNat x35).length = n0 by first | assumption | (simp only [llA, lrA]; first | done | assumption | omega) | omega)⟩
  rotate_left
  all_goals (simp +decide only [go_sem, qcQ9, qnP9, *])
def qcP9 (s1 : Int) (s2 : Int) (s3 : Int) (s12 : Int) (o0 : List Bind) (g1 : AHeap) (v0 : Nat) (n0 : Nat) (g2 : AHeap) : Int → AHeap → St := fun s13 gt => ⟨[(0, .ref g1.length v0 0 n0), (1, PI s1), (2, PI s2), (3, PI s3), (4, .fn 84 []), (10, PI 0), (11, PB false), (12, PI s12), (13, PI s13)], (g1 ++ (.row false v0 2 (rowP qc9 o0) :: (g2 ++ gt)))⟩
def qfX9 (s1 : Int) (s2 : Int) (s3 : Int) (s12 : Int) (o0 : List Bind) (g1 : AHeap) (v0 : Nat) (n0 : Nat) (g2 : AHeap) : Int → Prop := fun s13 => o0.length = n0
def qkg9 (s1 : Int) (s2 : Int) (s3 : Int) (s12 : Int) (o0 : List Bind) (g1 : AHeap) (v0 : Nat) (n0 : Nat) (g2 : AHeap) : Int → AExit × St → Prop := fun s13 q => ∃ g, q = (.exit 2, qcP9 s1 s2 s3 s12 o0 g1 v0 n0 g2 s13 g)
theorem qkf9 {s1 : Int} {s2 : Int} {s3 : Int} {s12 : Int} {o0 : List Bind} {g1 : AHeap} {v0 : Nat} {n0 : Nat} {g2 : AHeap} : SimI C 22997644815212700899627017342834150232570911 qor9 (qfX9 s1 s2 s3 s12 o0 g1 v0 n0 g2) (qce9 s1 s2 s3 s12 o0) (qcP9 s1 s2 s3 s12 o0 g1 v0 n0 g2) (qkg9 s1 s2 s3 s12 o0 g1 v0 n0 g2) := by
  intro s g r hI hr
  have ⟨s13, hs0⟩ : ∃ y, y = s := ⟨_, rfl⟩
  subst hs0
  have ⟨gt, hg0⟩ : ∃ y, y = g := ⟨_, rfl⟩
  subst hg0
  simp only [qfX9] at hI
  have hI0 := hI
  simp only [qce9] at hr
  rcases iteP hr with ⟨h1, hr⟩ | ⟨h1, hr⟩
  obtain ⟨x10, h2, x11, h3, x12, h4, hr⟩ := bs3 hr
  have h2a := eq_true (qa9 h2).1
  have h2b : (s13 < (n0 : Int)) = True := eq_true (by have hb : s13 < (o0.length : Int) := (qa9 h2).2.1; omega)
  have h2c := (qa9 h2).2.2
  have h3a := eq_true (qa9 h3).1
  have h3b : (s1 < (n0 : Int)) = True := eq_true (by have hb : s1 < (o0.length : Int) := (qa9 h3).2.1; omega)
  have h3c := (qa9 h3).2.2
  have h4k := fun h => (qw9 h4).o rfl rfl rfl (h := h) (args := [.ag [PI x10.Var, .d (.rd (x10.T.map intD))], .ag [PI x11.Var, .d (.rd (x11.T.map intD))]]) rfl
  try simp only [go_sem] at h4k
  rcases iteP hr with ⟨h5, hr⟩ | ⟨h5, hr⟩
  obtain rfl := oiA hr
  refine xe_of ⟨gt, rfl⟩ ?_
  rotate_left
  obtain rfl := oiA hr
  refine ⟨⟨gt, ?_⟩, (show o0.length = n0 by first | assumption | (simp only [llA, lrA]; first | done | assumption | omega) | omega)⟩
  rotate_left
  obtain rfl := oiA hr
  refine xe_of ⟨gt, rfl⟩ ?_
  rotate_left
  all_goals (simp +decide only [go_sem, qcP9, qor9, *])
def qcK9 (s1 : Int) (s2 : Int) (s3 : Int) (s13 : Int) (o0 : List Bind) (g1 : AHeap) (v0 : Nat) (n0 : Nat) (g2 : AHeap) : Int → AHeap → St := fun s12 gt => ⟨[(0, .ref g1.length v0 0 n0), (1, PI s1), (2, PI s2), (3, PI s3), (4, .fn 84 []), (10, PI 0), (11, PB false), (12, PI s12), (13, PI s13)], (g1 ++ (.row false v0 2 (rowP qc9 o0) :: (g2 ++ gt)))⟩
def qgn9 (s1 : Int) (s2 : Int) (s3 : Int) (s13 : Int) (o0 : List Bind) (g1 : AHeap) (v0 : Nat) (n0 : Nat) (g2 : AHeap) : Int → Prop := fun s12 => o0.length = n0
def qjT9 (s1 : Int) (s2 : Int) (s3 : Int) (s13 : Int) (o0 : List Bind) (g1 : AHeap) (v0 : Nat) (n0 : Nat) (g2 : AHeap) : Int → AExit × St → Prop := fun s12 q => ∃ g, q = (.exit 0, qcK9 s1 s2 s3 s13 o0 g1 v0 n0 g2 s12 g)
theorem qkc9 {s1 : Int} {s2 : Int} {s3 : Int} {s13 : Int} {o0 : List Bind} {g1 : AHeap} {v0 : Nat} {n0 : Nat} {g2 : AHeap} : SimI C 22997644815212700899627017342834150232570911 qnN9 (qgn9 s1 s2 s3 s13 o0 g1 v0 n0 g2) (qch9 s1 s2 s3 s13 o0) (qcK9 s1 s2 s3 s13 o0 g1 v0 n0 g2) (qjT9 s1 s2 s3 s13 o0 g1 v0 n0 g2) := by
  intro s g r hI hr
  have ⟨s12, hs0⟩ : ∃ y, y = s := ⟨_, rfl⟩
  subst hs0
  have ⟨gt, hg0⟩ : ∃ y, y = g := ⟨_, rfl⟩
  subst hg0
  simp only [qgn9] at hI
  have hI0 := hI
  simp only [qch9] at hr
  rcases iteP hr with ⟨h1, hr⟩ | ⟨h1, hr⟩
  obtain ⟨x4, h2, x5, h3, x6, h4, hr⟩ := bs3 hr
  have h2a := eq_true (qa9 h2).1
  have h2b : (s12 < (n0 : Int)) = True := eq_true (by have hb : s12 < (o0.length : Int) := (qa9 h2).2.1; omega)
  have h2c := (qa9 h2).2.2
  have h3a := eq_true (qa9 h3).1
  have h3b : (s1 < (n0 : Int)) = True := eq_true (by have hb : s1 < (o0.length : Int) := (qa9 h3).2.1; omega)
  have h3c := (qa9 h3).2.2
  have h4k := fun h => (qw9 h4).o rfl rfl rfl (h := h) (args := [.ag [PI x4.Var, .d (.rd (x4.T.map intD))], .ag [PI x5.Var, .d (.rd (x5.T.map intD))]]) rfl
  try simp only [go_sem] at h4k
  rcases iteP hr with ⟨h5, hr⟩ | ⟨h5, hr⟩
  obtain rfl := oiA hr
  refine ⟨⟨gt, ?_⟩, (show o0.length = n0 by first | assumption | (simp only [llA, lrA]; first | done | assumption | omega) | omega)⟩
  rotate_left
  obtain rfl := oiA hr
  refine xe_of ⟨gt, rfl⟩ ?_
  rotate_left
  obtain rfl := oiA hr
  refine xe_of ⟨gt, rfl⟩ ?_
  rotate_left
  all_goals (simp +decide only [go_sem, qcK9, qnN9, *])
theorem qz9 {s1 : Int} {s2 : Int} {s3 : Int} {o0 : List Bind} {g1 : AHeap} {v0 : Nat} {n0 : Nat} {g2 : AHeap} (hln0 : o0.length = n0) {r : Int × Bool × (List Bind)} (hr : qs9 s1 s2 s3 o0 = some r) : ∃ hz : AHeap, Lim C 129 [.ref g1.length v0 0 n0, PI s1, PI s2, PI s3, .fn 84 []] (g1 ++ (.row false v0 2 (rowP qc9 o0) :: g2)) = some (resOf [PI r.1, PB r.2.1], (g1 ++ (.row false v0 2 (rowP qc9 r.2.2) :: (g2 ++ hz)))) ∧ r.2.2.length = n0 := by
  simp only [qs9] at hr
  obtain ⟨x1, h1, x2, h2, x3, h3, hr⟩ := bs3 hr
  have h1a := eq_true (qa9 h1).1
  have h1b : (s3 < (n0 : Int)) = True := eq_true (by have hb : s3 < (o0.length : Int) := (qa9 h1).2.1; omega)
  have h1c := (qa9 h1).2.2
  have h2a := eq_true (qa9 h2).1
  have h2b : (s1 < (n0 : Int)) = True := eq_true (by have hb : s1 < (o0.length : Int) := (qa9 h2).2.1; omega)
  have h2c := (qa9 h2).2.2
  have h3a := eq_true (qa9 h3).1
  have h3b : (s3 < (n0 : Int)) = True := eq_true (by have hb : s3 < ((o0.set (s1).toNat x1).length : Int) := (qa9 h3).2.1; simp only [llA, lrA] at hb; omega)
  have h3c := (qa9 h3).2.2
  obtain ⟨x7, h4, hr⟩ := bsome hr
  obtain ⟨q4, h4L, h4X⟩ := (qkc9 (g1 := g1) (v0 := v0) (n0 := n0) (g2 := g2)).L (g := []) h4 (show ((o0.set (s1).toNat x1).set (s3).toNat x2).length = n0 by first | assumption | (simp only [llA, lrA]; first | done | assumption | omega) | omega)
  have ⟨x8, hq4⟩ : ∃ y, y = x7 := ⟨_, rfl⟩
  subst hq4
  try dsimp only at hr
  obtain ⟨z9, rfl⟩ := h4X
  simp only [qcK9, go_sem] at h4L
  try simp only [hln0] at h4L
  obtain ⟨x13, h5, hr⟩ := bsome hr
  obtain ⟨q5, h5L, h5X⟩ := (qkf9 (g1 := g1) (v0 := v0) (n0 := n0) (g2 := (g2 ++ z9))).L (g := []) h5 (show ((o0.set (s1).toNat x1).set (s3).toNat x2).length = n0 by first | assumption | (simp only [llA, lrA]; first | done | assumption | omega) | omega)
  have ⟨x14, hq5⟩ : ∃ y, y = x13 := ⟨_, rfl⟩
  subst hq5
  try dsimp only at hr
  obtain ⟨z15, rfl⟩ := h5X
  simp only [qcP9, go_sem] at h5L
  try simp only [hln0] at h5L
  rcases iteP hr with ⟨h6, hr⟩ | ⟨h6, hr⟩
  obtain ⟨x16, h7, x17, h8, x18, h9, hr⟩ := bs3 hr
  have h7a := eq_true (qa9 h7).1
  have h7b : (s1 < (n0 : Int)) = True := eq_true (by have hb : s1 < (((o0.set (s1).toNat x1).set (s3).toNat x2).length : Int) := (qa9 h7).2.1; simp only [llA, lrA] at hb; omega)
  have h7c := (qa9 h7).2.2
  have h8a := eq_true (qa9 h8).1
  have h8b : (x14 < (n0 : Int)) = True := eq_true (by have hb : x14 < (((o0.set (s1).toNat x1).set (s3).toNat x2).length : Int) := (qa9 h8).2.1; simp only [llA, lrA] at hb; omega)
  have h8c := (qa9 h8).2.2
  have h9a := eq_true (qa9 h9).1
  have h9b : (s1 < (n0 : Int)) = True := eq_true (by have hb : s1 < ((((o0.set (s1).toNat x1).set (s3).toNat x2).set (x14).toNat x16).length : Int) := (qa9 h9).2.1; simp only [llA, lrA] at hb; omega)
  have h9c := (qa9 h9).2.2
  obtain rfl := oiA hr
  refine ⟨(z9 ++ z15), run_L is129 (nbA rfl) ?_, (show ((((o0.set (s1).toNat x1).set (s3).toNat x2).set (x14).toNat x16).set (s1).toNat x17).length = n0 by first | assumption | (simp only [llA, lrA]; first | done | assumption | omega) | omega)⟩
  rotate_left
  obtain ⟨x19, h10, x20, h11, x21, h12, hr⟩ := bs3 hr
  have h10a := eq_true (qa9 h10).1
  have h10b : (x14 < (n0 : Int)) = True := eq_true (by have hb : x14 < (((o0.set (s1).toNat x1).set (s3).toNat x2).length : Int) := (qa9 h10).2.1; simp only [llA, lrA] at hb; omega)
  have h10c := (qa9 h10).2.2
  have h11a := eq_true (qa9 h11).1
  have h11b : (x8 < (n0 : Int)) = True := eq_true (by have hb : x8 < (((o0.set (s1).toNat x1).set (s3).toNat x2).length : Int) := (qa9 h11).2.1; simp only [llA, lrA] at hb; omega)
  have h11c := (qa9 h11).2.2
  have h12a := eq_true (qa9 h12).1
  have h12b : (x14 < (n0 : Int)) = True := eq_true (by have hb : x14 < ((((o0.set (s1).toNat x1).set (s3).toNat x2).set (x8).toNat x19).length : Int) := (qa9 h12).2.1; simp only [llA, lrA] at hb; omega)
  have h12c := (qa9 h12).2.2
  obtain ⟨x37, h13, hr⟩ := bsome hr
  obtain ⟨q13, h13L, h13X⟩ := (qka9 (g1 := g1) (v0 := v0) (n0 := n0) (g2 := (g2 ++ (z9 ++ z15)))).L (g := []) h13 (show ((((o0.set (s1).toNat x1).set (s3).toNat x2).set (x8).toNat x19).set (x14).toNat x20).length = n0 by first | assumption | (simp only [llA, lrA]; first | done | assumption | omega) | omega)
  obtain ⟨x38, x39, x40⟩ := x37
  try dsimp only at hr
  obtain ⟨z41, rfl, h13l0⟩ := h13X
  simp only [qcQ9, go_sem] at h13L
  try simp only [hln0] at h13L
  obtain ⟨x42, h14, x43, h15, x44, h16, hr⟩ := bs3 hr
  have h14a := eq_true (qa9 h14).1
  have h14b : (s1 < (n0 : Int)) = True := eq_true (by have hb : s1 < (x40.length : Int) := (qa9 h14).2.1; omega)
  have h14c := (qa9 h14).2.2
  have h15a := eq_true (qa9 h15).1
  have h15b : (x39 < (n0 : Int)) = True := eq_true (by have hb : x39 < (x40.length : Int) := (qa9 h15).2.1; omega)
  have h15c := (qa9 h15).2.2
  have h16a := eq_true (qa9 h16).1
  have h16b : (s1 < (n0 : Int)) = True := eq_true (by have hb : s1 < ((x40.set (x39).toNat x42).length : Int) := (qa9 h16).2.1; simp only [llA, lrA] at hb; omega)
  have h16c := (qa9 h16).2.2
  obtain rfl := oiA hr
  refine ⟨(z9 ++ (z15 ++ z41)), run_L is129 (nbA rfl) ?_, (show ((x40.set (x39).toNat x42).set (s1).toNat x43).length = n0 by first | assumption | (simp only [llA, lrA]; first | done | assumption | omega) | omega)⟩
  rotate_left
  all_goals (simp +decide only [go_sem, c129, *])
end Ld
namespace Ld
open Go Go.Proofs Go.Abs
set_option maxRecDepth 8000
def qoN9 : ACode := .seq (.seq (.reg [] [] [.M 50 11, .M 51 12, .T 52 (.bin .leq (.tmp 50) (.tmp 51)), .M 53 52, .MG 54 53 true 4, .MG 55 53 true 0, .MG 56 53 true 1, ⟨some (57, false), .ix 2 (.tmp 55) (.tmp 56), some (53, true), true, false⟩, ⟨some (58, false), .load (some 2) (.tmp 57), some (53, true), true, false⟩, .MG 59 53 true 0, .MG 60 53 true 12, ⟨some (61, false), .ix 2 (.tmp 59) (.tmp 60), some (53, true), true, false⟩, ⟨some (62, false), .load (some 2) (.tmp 61), some (53, true), true, false⟩, ⟨some (63, false), .callV (.tmp 54) [.tmp 58, .tmp 62], some (53, true), true, false⟩, .TG 64 53 true (.bin .lss (.tmp 63) (cI 0)), .K 65 (.pick (.tmp 53) (.tmp 64) (.const (.bool false)))]) (.cond (.tmp 65) (some 65) (.skip) (.exit 4))) (.block 5 36893488147419103232 (.reg [] [] [.M 66 12, .T 67 (.bin .sub (.tmp 66) (cI 1)), .N 12 67]))
def qoE9 : ACode := .seq (.seq (.reg [] [] [.M 31 11, .M 32 12, .T 33 (.bin .leq (.tmp 31) (.tmp 32)), .M 34 33, .MG 35 34 true 4, .MG 36 34 true 0, .MG 37 34 true 1, ⟨some (38, false), .ix 2 (.tmp 36) (.tmp 37), some (34, true), true, false⟩, ⟨some (39, false), .load (some 2) (.tmp 38), some (34, true), true, false⟩, .MG 40 34 true 0, .MG 41 34 true 11, ⟨some (42, false), .ix 2 (.tmp 40) (.tmp 41), some (34, true), true, false⟩, ⟨some (43, false), .load (some 2) (.tmp 42), some (34, true), true, false⟩, ⟨some (44, false), .callV (.tmp 35) [.tmp 39, .tmp 43], some (34, true), true, false⟩, .TG 45 34 true (.bin .lss (.tmp 44) (cI 0)), .TG 46 34 true (.not (.tmp 45)), .K 47 (.pick (.tmp 34) (.tmp 46) (.const (.bool false)))]) (.cond (.tmp 47) (some 47) (.skip) (.exit 2))) (.block 3 140737488355328 (.reg [] [] [.M 48 11, .T 49 (.bin .add (.tmp 48) (cI 1)), .N 11 49]))
def qoB9 : ACode := .block 1 1217485249602318761984 (.seq (.block 2 140737488355328 (.loop qoE9)) (.seq (.block 4 36893628884907458560 (.loop qoN9)) (.seq (.seq (.reg [] [] [.M 68 11, .M 69 12, .K 70 (.bin .gtr (.tmp 68) (.tmp 69))]) (.cond (.tmp 70) (some 70) (.exit 0) (.skip))) (.seq (.reg [] [] [.M 71 0, .M 72 11, .M 73 0, .M 74 12, .M 75 0, .M 76 12, ⟨some (77, false), .ix 2 (.tmp 75) (.tmp 76), none, true, false⟩, ⟨some (78, false), .load (some 2) (.tmp 77), none, true, false⟩, .M 79 0, .M 80 11, ⟨some (81, false), .ix 2 (.tmp 79) (.tmp 80), none, true, false⟩, ⟨some (82, false), .load (some 2) (.tmp 81), none, true, false⟩, ⟨some (83, false), .ix 2 (.tmp 71) (.tmp 72), none, true, false⟩, ⟨none, .store 2 (.tmp 83) (.tmp 78), none, false, false⟩, ⟨some (84, false), .ix 2 (.tmp 73) (.tmp 74), none, true, false⟩, ⟨none, .store 2 (.tmp 84) (.tmp 82), none, false, false⟩]) (.seq (.reg [] [] [.M 85 11, .T 86 (.bin .add (.tmp 85) (cI 1)), .N 11 86]) (.reg [] [] [.M 87 12, .T 88 (.bin .sub (.tmp 87) (cI 1)), .N 12 88]))))))
def c128 : ACode := .seq (.reg [] [] [.K 10 (.mv (cI 0))]) (.seq (.reg [] [] [.M 13 0, .M 14 1, .M 15 0, .M 16 3, .M 17 0, .M 18 3, ⟨some (19, false), .ix 2 (.tmp 17) (.tmp 18), none, true, false⟩, ⟨some (20, false), .load (some 2) (.tmp 19), none, true, false⟩, .M 21 0, .M 22 1, ⟨some (23, false), .ix 2 (.tmp 21) (.tmp 22), none, true, false⟩, ⟨some (24, false), .load (some 2) (.tmp 23), none, true, false⟩, ⟨some (25, false), .ix 2 (.tmp 13) (.tmp 14), none, true, false⟩, ⟨none, .store 2 (.tmp 25) (.tmp 20), none, false, false⟩, ⟨some (26, false), .ix 2 (.tmp 15) (.tmp 16), none, true, false⟩, ⟨none, .store 2 (.tmp 26) (.tmp 24), none, false, false⟩]) (.seq (.reg [] [] [.M 27 1, .T 28 (.bin .add (.tmp 27) (cI 1)), .M 29 2, .T 30 (.bin .sub (.tmp 29) (cI 1)), .N 11 28, .N 12 30]) (.seq (.block 0 1217485249602318761984 (.loop qoB9)) (.seq (.reg [] [] [.M 89 11, .N 10 89]) (.ret)))))
theorem is128 : IsF C 128 90 1217485249602318769183 c128 [.tmp 10] := ⟨⟨Tryd.f128, _, C_P ▸ Tryd.func128, rfl, rfl, rfl, by kernel_rfl, rfl⟩⟩
def qbY9 (s1 : Int) (s2 : Int) (s3 : Int) (s11 : Int) (o0 : List Bind) (g1 : AHeap) (v0 : Nat) (n0 : Nat) (g2 : AHeap) : Int → AHeap → St := fun s12 gt => ⟨[(0, .ref g1.length v0 0 n0), (1, PI s1), (2, PI s2), (3, PI s3), (4, .fn 84 []), (10, PI 0), (11, PI s11), (12, PI s12)], (g1 ++ (.row false v0 2 (rowP qc9 o0) :: (g2 ++ gt)))⟩
def qew9 (s1 : Int) (s2 : Int) (s3 : Int) (s11 : Int) (o0 : List Bind) (g1 : AHeap) (v0 : Nat) (n0 : Nat) (g2 : AHeap) : Int → Prop := fun s12 => o0.length = n0
def qiy9 (s1 : Int) (s2 : Int) (s3 : Int) (s11 : Int) (o0 : List Bind) (g1 : AHeap) (v0 : Nat) (n0 : Nat) (g2 : AHeap) : Int → AExit × St → Prop := fun s12 q => ∃ g, q = (.exit 4, qbY9 s1 s2 s3 s11 o0 g1 v0 n0 g2 s12 g)
theorem qie9 {s1 : Int} {s2 : Int} {s3 : Int} {s11 : Int} {o0 : List Bind} {g1 : AHeap} {v0 : Nat} {n0 : Nat} {g2 : AHeap} : SimI C 1217485249602318769183 qoN9 (qew9 s1 s2 s3 s11 o0 g1 v0 n0 g2) (qbz9 s1 s2 s3 s11 o0) (qbY9 s1 s2 s3 s11 o0 g1 v0 n0 g2) (qiy9 s1 s2 s3 s11 o0 g1 v0 n0 g2) := by
  intro s g r hI hr
  have ⟨s12, hs0⟩ : ∃ y, y = s := ⟨_, rfl⟩
  subst hs0
  have ⟨gt, hg0⟩ : ∃ y, y = g := ⟨_, rfl⟩
  subst hg0
  simp only [qew9] at hI
  have hI0 := hI
  simp only [qbz9] at hr
  rcases iteP hr with ⟨h1, hr⟩ | ⟨h1, hr⟩
  obtain ⟨x10, h2, x11, h3, x12, h4, hr⟩ := bs3 hr
  have h2a := eq_true (qa9 h2).1
  have h2b : (s1 < (n0 : Int)) = True := eq_true (by have hb : s1 < (o0.length : Int) := (qa9 h2).2.1; omega)
  have h2c := (qa9 h2).2.2
  have h3a := eq_true (qa9 h3).1
  have h3b : (s12 < (n0 : Int)) = True := eq_true (by have hb : s12 < (o0.length : Int) := (qa9 h3).2.1; omega)
  have h3c := (qa9 h3).2.2
  have h4k := fun h => (qw9 h4).o rfl rfl rfl (h := h) (args := [.ag [PI x10.Var, .d (.rd (x10.T.map intD))], .ag [PI x11.Var, .d (.rd (x11.T.map intD))]]) rfl
  try simp only [go_sem] at h4k
  rcases iteP hr with ⟨h5, hr⟩ | ⟨h5, hr⟩
  obtain rfl := oiA hr
  refine ⟨⟨gt, ?_⟩, (show o0.length = n0 by first | assumption | (simp only [llA, lrA]; first | done | assumption | omega) | omega)⟩
  rotate_left
  obtain rfl := oiA hr
  refine xe_of ⟨gt, rfl⟩ ?_
  rotate_left
  obtain rfl := oiA hr
  refine xe_of ⟨gt, rfl⟩ ?_
  rotate_left
  all_goals (simp +decide only [go_sem, qbY9, qoN9, *])
def qbW9 (s1 : Int) (s2 : Int) (s3 : Int) (s12 : Int) (o0 : List Bind) (g1 : AHeap) (v0 : Nat) (n0 : Nat) (g2 : AHeap) : Int → AHeap → St := fun s11 gt => ⟨[(0, .ref g1.length v0 0 n0), (1, PI s1), (2, PI s2), (3, PI s3), (4, .fn 84 []), (10, PI 0), (11, PI s11), (12, PI s12)], (g1 ++ (.row false v0 2 (rowP qc9 o0) :: (g2 ++ gt)))⟩
def qey9 (s1 : Int) (s2 : Int) (s3 : Int) (s12 : Int) (o0 : List Bind) (g1 : AHeap) (v0 : Nat) (n0 : Nat) (g2 : AHeap) : Int → Prop := fun s11 => o0.length = n0
def qic9 (s1 : Int) (s2 : Int) (s3 : Int) (s12 : Int) (o0 : List Bind) (g1 : AHeap) (v0 : Nat) (n0 : Nat) (g2 : AHeap) : Int → AExit × St → Prop := fun s11 q => ∃ g, q = (.exit 2, qbW9 s1 s2 s3 s12 o0 g1 v0 n0 g2 s11 g)
theorem qiI9 {s1 : Int} {s2 : Int} {s3 : Int} {s12 : Int} {o0 : List Bind} {g1 : AHeap} {v0 : Nat} {n0 : Nat} {g2 : AHeap} : SimI C 1217485249602318769183 qoE9 (qey9 s1 s2 s3 s12 o0 g1 v0 n0 g2) (qby9 s1 s2 s3 s12 o0) (qbW9 s1 s2 s3 s12 o0 g1 v0 n0 g2) (qic9 s1 s2 s3 s12 o0 g1 v0 n0 g2) := by
  intro s g r hI hr
  have ⟨s11, hs0⟩ : ∃ y, y = s := ⟨_, rfl⟩
  subst hs0
  have ⟨gt, hg0⟩ : ∃ y, y = g := ⟨_, rfl⟩
  subst hg0
  simp only [qey9] at hI
  have hI0 := hI
  simp only [qby9] at hr
  rcases iteP hr with ⟨h1, hr⟩ | ⟨h1, hr⟩
  obtain ⟨x4, h2, x5, h3, x6, h4, hr⟩ := bs3 hr
  have h2a := eq_true (qa9 h2).1
  have h2b : (s1 < (n0 : Int)) = True := eq_true (by have hb : s1 < (o0.length : Int) := (qa9 h2).2.1; omega)
  have h2c := (qa9 h2).2.2
  have h3a := eq_true (qa9 h3).1
  have h3b : (s11 < (n0 : Int)) = True := eq_true (by have hb : s11 < (o0.length : Int) := (qa9 h3).2.1; omega)
  have h3c := (qa9 h3).2.2
  have h4k := fun h => (qw9 h4).o rfl rfl rfl (h := h) (args := [.ag [PI x4.Var, .d (.rd (x4.T.map intD))], .ag [PI x5.Var, .d (.rd (x5.T.map intD))]]) rfl
  try simp only [go_sem] at h4k
  rcases iteP hr with ⟨h5, hr⟩ | ⟨h5, hr⟩
  obtain rfl := oiA hr
  refine xe_of ⟨gt, rfl⟩ ?_
  rotate_left
  obtain rfl := oiA hr
  refine ⟨⟨gt, ?_⟩, (show o0.length = n0 by first | assumption | (simp only [llA, lrA]; first | done | assumption | omega) | omega)⟩
  rotate_left
  obtain rfl := oiA hr
  refine xe_of ⟨gt, rfl⟩ ?_
  rotate_left
  all_goals (simp +decide only [go_sem, qbW9, qoE9, *])
def qbZ9 (s1 : Int) (s2 : Int) (s3 : Int) (g1 : AHeap) (v0 : Nat) (n0 : Nat) (g2 : AHeap) : Int × Int × (List Bind) → AHeap → St := fun (s11, s12, o0) gt => ⟨[(0, .ref g1.length v0 0 n0), (1, PI s1), (2, PI s2), (3, PI s3), (4, .fn 84 []), (10, PI 0), (11, PI s11), (12, PI s12)], (g1 ++ (.row false v0 2 (rowP qc9 o0) :: (g2 ++ gt)))⟩
def qex9 (s1 : Int) (s2 : Int) (s3 : Int) (g1 : AHeap) (v0 : Nat) (n0 : Nat) (g2 : AHeap) : Int × Int × (List Bind) → Prop := fun (s11, s12, o0) => o0.length = n0
def qix9 (s1 : Int) (s2 : Int) (s3 : Int) (g1 : AHeap) (v0 : Nat) (n0 : Nat) (g2 : AHeap) : (Int × Int × (List Bind)) → AExit × St → Prop := fun (s11, s12, o0) q => ∃ g, q = (.exit 0, qbZ9 s1 s2 s3 g1 v0 n0 g2 (s11, s12, o0) g) ∧ o0.length = n0
theorem qiB9 {s1 : Int} {s2 : Int} {s3 : Int} {g1 : AHeap} {v0 : Nat} {n0 : Nat} {g2 : AHeap} : SimI C 1217485249602318769183 qoB9 (qex9 s1 s2 s3 g1 v0 n0 g2) (qN9 s1 s2 s3) (qbZ9 s1 s2 s3 g1 v0 n0 g2) (qix9 s1 s2 s3 g1 v0 n0 g2) := by
  intro s g r hI hr
  obtain ⟨s11, s12, o0⟩ := s
  have ⟨gt, hg0⟩ : ∃ y, y = g := ⟨_, rfl⟩
  subst hg0
  simp only [qex9] at hI
  have hI0 := hI
  simp only [qN9] at hr
  obtain ⟨x7, h1, hr⟩ := bsome hr
  obtain ⟨q1, h1L, h1X⟩ := (qiI9 (g1 := g1) (v0 := v0) (n0 := n0) (g2 := (g2 ++ gt))).L (g := []) h1 (show o0.length = n0 by first | assumption | (simp only [llA, lrA]; first | done | assumption | omega) | omega)
  have ⟨x8, hq1⟩ : ∃ y, y = x7 := ⟨_, rfl⟩
  subst hq1
  try dsimp only at hr
  obtain ⟨z9, rfl⟩ := h1X
  simp only [qbW9, go_sem] at h1L
  try simp only [hI0] at h1L
  obtain ⟨x13, h2, hr⟩ := bsome hr
  obtain ⟨q2, h2L, h2X⟩ := (qie9 (g1 := g1) (v0 := v0) (n0 := n0) (g2 := (g2 ++ (gt ++ z9)))).L (g := []) h2 (show o0.length = n0 by first | assumption | (simp only [llA, lrA]; first | done | assumption | omega) | omega)
  have ⟨x14, hq2⟩ : ∃ y, y = x13 := ⟨_, rfl⟩
  subst hq2
  try dsimp only at hr
  obtain ⟨z15, rfl⟩ := h2X
  simp only [qbY9, go_sem] at h2L
  try simp only [hI0] at h2L
  rcases iteP hr with ⟨h3, hr⟩ | ⟨h3, hr⟩
  obtain rfl := oiA hr
  refine xe_of ⟨(gt ++ (z9 ++ z15)), rfl, (show o0.length = n0 by first | assumption | (simp only [llA, lrA]; first | done | assumption | omega) | omega)⟩ ?_
  rotate_left
  obtain ⟨x16, h4, x17, h5, x18, h6, hr⟩ := bs3 hr
  have h4a := eq_true (qa9 h4).1
  have h4b : (x14 < (n0 : Int)) = True := eq_true (by have hb : x14 < (o0.length : Int) := (qa9 h4).2.1; omega)
  have h4c := (qa9 h4).2.2
  have h5a := eq_true (qa9 h5).1
  have h5b : (x8 < (n0 : Int)) = True := eq_true (by have hb : x8 < (o0.length : Int) := (qa9 h5).2.1; omega)
  have h5c := (qa9 h5).2.2
  have h6a := eq_true (qa9 h6).1
  have h6b : (x14 < (n0 : Int)) = True := eq_true (by have hb : x14 < ((o0.set (x8).toNat x16).length : Int) := (qa9 h6).2.1; simp only [llA, lrA] at hb; omega)
  have h6c := (qa9 h6).2.2
  obtain rfl := oiA hr
  refine ⟨⟨(gt ++ (z9 ++ z15)), ?_⟩, (show ((o0.set (x8).toNat x16).set (x14).toNat x17).length = n0 by first | assumption | (simp only [llA, lrA]; first | done | assumption | omega) | omega)⟩
  rotate_left
  all_goals (simp +decide only [go_sem, qbZ9, qoB9, *])
theorem qX9 {s1 : Int} {s2 : Int} {s3 : Int} {o0 : List Bind} {g1 : AHeap} {v0 : Nat} {n0 : Nat} {g2 : AHeap} (hln0 : o0.length = n0) {r : Int × (List Bind)} (hr : qA9 s1 s2 s3 o0 = some r) : ∃ hz : AHeap, Lim C 128 [.ref g1.length v0 0 n0, PI s1, PI s2, PI s3, .fn 84 []] (g1 ++ (.row false v0 2 (rowP qc9 o0) :: g2)) = some (resOf [PI r.1], (g1 ++ (.row false v0 2 (rowP qc9 r.2) :: (g2 ++ hz)))) ∧ r.2.length = n0 := by
  simp only [qA9] at hr
  obtain ⟨x1, h1, x2, h2, x3, h3, hr⟩ := bs3 hr
  have h1a := eq_true (qa9 h1).1
  have h1b : (s3 < (n0 : Int)) = True := eq_true (by have hb : s3 < (o0.length : Int) := (qa9 h1).2.1; omega)
  have h1c := (qa9 h1).2.2
  have h2a := eq_true (qa9 h2).1
  have h2b : (s1 < (n0 : Int)) = True := eq_true (by have hb : s1 < (o0.length : Int) := (qa9 h2).2.1; omega)
  have h2c := (qa9 h2).2.2
  have h3a := eq_true (qa9 h3).1
  have h3b : (s3 < (n0 : Int)) = True := eq_true (by have hb : s3 < ((o0.set (s1).toNat x1).length : Int) := (qa9 h3).2.1; simp only [llA, lrA] at hb; omega)
  have h3c := (qa9 h3).2.2
  obtain ⟨x19, h4, hr⟩ := bsome hr
  obtain ⟨q4, h4L, h4X⟩ := (qiB9 (g1 := g1) (v0 := v0) (n0 := n0) (g2 := g2)).L (g := []) h4 (show ((o0.set (s1).toNat x1).set (s3).toNat x2).length = n0 by first | assumption | (simp only [llA, lrA]; first | done | assumption | omega) | omega)
  obtain ⟨x20, x21, x22⟩ := x19
  try dsimp only at hr
  obtain ⟨z23, rfl, h4l0⟩ := h4X
  simp only [qbZ9, go_sem] at h4L
  try simp only [hln0] at h4L
  obtain rfl := oiA hr
  refine ⟨z23, run_L is128 (nbA rfl) ?_, (show x22.length = n0 by first | assumption | (simp only [llA, lrA]; first | done | assumption | omega) | omega)⟩
  rotate_left
  all_goals (simp +decide only [go_sem, c128, *])
def qoj9 : ACode := .seq (.seq (.reg [] [] [.M 28 11, .M 29 1, .M 30 8, .T 31 (.binM .quo (.tmp 30) (cI 4)), .T 32 (.bin .mul (.tmp 31) (cI 2)), .T 33 (.bin .add (.tmp 29) (.tmp 32)), .T 34 (.bin .add (.tmp 33) (cI 1)), .K 35 (.bin .leq (.tmp 28) (.tmp 34))]) (.cond (.tmp 35) (some 35) (.skip) (.exit 0))) (.seq (.block 1 35218731831296 (.seq (.reg [] [] [.T 38 (.call 138 [.tmp 9]), .M 39 10, .T 40 (.bin .sub (.tmp 39) (.const (.int .u64 1))), .T 41 (.binM .and (.tmp 38) (.tmp 40)), .T 42 (.wrap .i64 (.tmp 41)), .N 12 42]) (.seq (.seq (.reg [] [] [.M 43 12, .M 44 8, .K 45 (.bin .geq (.tmp 43) (.tmp 44))]) (.cond (.tmp 45) (some 45) (.reg [] [] [.M 46 12, .M 47 8, .T 48 (.bin .sub (.tmp 46) (.tmp 47)), .N 12 48]) (.skip))) (.reg [] [] [.M 49 0, .M 50 11, .M 51 0, .M 52 1, .M 53 12, .T 54 (.bin .add (.tmp 52) (.tmp 53)), .M 55 0, .M 56 1, .M 57 12, .T 58 (.bin .add (.tmp 56) (.tmp 57)), ⟨some (59, false), .ix 2 (.tmp 55) (.tmp 58), none, true, false⟩, ⟨some (60, false), .load (some 2) (.tmp 59), none, true, false⟩, .M 61 0, .M 62 11, ⟨some (63, false), .ix 2 (.tmp 61) (.tmp 62), none, true, false⟩, ⟨some (64, false), .load (some 2) (.tmp 63), none, true, false⟩, ⟨some (65, false), .ix 2 (.tmp 49) (.tmp 50), none, true, false⟩, ⟨none, .store 2 (.tmp 65) (.tmp 60), none, false, false⟩, ⟨some (66, false), .ix 2 (.tmp 51) (.tmp 54), none, true, false⟩, ⟨none, .store 2 (.tmp 66) (.tmp 64), none, false, false⟩])))) (.reg [] [] [.M 36 11, .T 37 (.bin .add (.tmp 36) (cI 1)), .N 11 37]))
def c124 : ACode := .seq (.reg [] [] [.M 13 2, .M 14 1, .T 15 (.bin .sub (.tmp 13) (.tmp 14)), .N 8 15]) (.seq (.reg [] [] [.M 16 8, .K 17 (.bin .geq (.tmp 16) (cI 8))]) (.cond (.tmp 17) (some 17) (.seq (.reg [] [] [.M 18 8, .T 19 (.wrap .u64 (.tmp 18)), .K 9 (.alloc [.d (.v (.int .u64 0))] 1), ⟨none, .store 1 (.tmp 9) (.tmp 19), none, false, false⟩]) (.seq (.reg [] [] [.M 20 8, .T 21 (.call 137 [.tmp 20]), .N 10 21]) (.seq (.reg [] [] [.M 22 1, .M 23 8, .T 24 (.binM .quo (.tmp 23) (cI 4)), .T 25 (.bin .mul (.tmp 24) (cI 2)), .T 26 (.bin .add (.tmp 22) (.tmp 25)), .T 27 (.bin .sub (.tmp 26) (cI 1)), .N 11 27]) (.block 0 35218731831296 (.loop qoj9))))) (.skip)))
theorem is124 : IsF C 124 67 35218731966215 c124 [] := ⟨⟨Tryd.f124, _, C_P ▸ Tryd.func124, rfl, rfl, rfl, by kernel_rfl, rfl⟩⟩
def qcl9 (s1 : Int) (s2 : Int) (s8 : Int) (s10 : Int) (g1 : AHeap) (v0 : Nat) (n0 : Nat) (g2 : AHeap) : Int × (List Bind) × Int → AHeap → St := fun (s11, o0, b9_0) gt => ⟨[(0, .ref g1.length v0 0 n0), (1, PI s1), (2, PI s2), (8, PI s8), (9, .ptr (g1.length + g2.length + 1) 0 0 0), (10, .d (.v (.int .u64 s10))), (11, PI s11)], (g1 ++ (.row false v0 2 (rowP qc9 o0) :: (g2 ++ (.row false 0 1 [[.d (.v (.int .u64 b9_0))]] :: gt))))⟩
def qeP9 (s1 : Int) (s2 : Int) (s8 : Int) (s10 : Int) (g1 : AHeap) (v0 : Nat) (n0 : Nat) (g2 : AHeap) : Int × (List Bind) × Int → Prop := fun (s11, o0, b9_0) => o0.length = n0
def qiP9 (s1 : Int) (s2 : Int) (s8 : Int) (s10 : Int) (g1 : AHeap) (v0 : Nat) (n0 : Nat) (g2 : AHeap) : (Int × (List Bind) × Int) → AExit × St → Prop := fun (s11, o0, b9_0) q => ∃ g, q = (.exit 0, qcl9 s1 s2 s8 s10 g1 v0 n0 g2 (s11, o0, b9_0) g) ∧ o0.length = n0
theorem qiL9 {s1 : Int} {s2 : Int} {s8 : Int} {s10 : Int} {g1 : AHeap} {v0 : Nat} {n0 : Nat} {g2 : AHeap} : SimI C 35218731966215 qoj9 (qeP9 s1 s2 s8 s10 g1 v0 n0 g2) (qF9 s1 s2 s8 s10) (qcl9 s1 s2 s8 s10 g1 v0 n0 g2) (qiP9 s1 s2 s8 s10 g1 v0 n0 g2) := by
  intro s g r hI hr
  obtain ⟨s11, o0, b9_0⟩ := s
  have ⟨gt, hg0⟩ : ∃ y, y = g := ⟨_, rfl⟩
  subst hg0
  simp only [qeP9] at hI
  have hI0 := hI
  simp only [qF9] at hr
  obtain ⟨x3, h1, hr⟩ := bsome hr
  rcases iteP hr with ⟨h2, hr⟩ | ⟨h2, hr⟩
  obtain ⟨x4, h3, hr⟩ := bsome hr
  have h3k := qh9 rfl rfl rfl (qki9 (g1 := (g1 ++ (.row false v0 2 (rowP qc9 o0) :: g2))) (g2 := gt) h3)
  try simp only [go_sem] at h3k
  rcases iteP hr with ⟨h4, hr⟩ | ⟨h4, hr⟩
  obtain ⟨x5, h5, x6, h6, x7, h7, hr⟩ := bs3 hr
  have h5a := eq_true (qa9 h5).1
  have h5b : ((w64 (s1 + (w64 ((w64 (andV .u64 x4.1 (IntKind.u64.wrap (s10 - 1)))) - s8)))) < (n0 : Int)) = True := eq_true (by have hb : (w64 (s1 + (w64 ((w64 (andV .u64 x4.1 (IntKind.u64.wrap (s10 - 1)))) - s8)))) < (o0.length : Int) := (qa9 h5).2.1; omega)
  have h5c := (qa9 h5).2.2
  have h6a := eq_true (qa9 h6).1
  have h6b : (s11 < (n0 : Int)) = True := eq_true (by have hb : s11 < (o0.length : Int) := (qa9 h6).2.1; omega)
  have h6c := (qa9 h6).2.2
  have h7a := eq_true (qa9 h7).1
  have h7b : ((w64 (s1 + (w64 ((w64 (andV .u64 x4.1 (IntKind.u64.wrap (s10 - 1)))) - s8)))) < (n0 : Int)) = True := eq_true (by have hb : (w64 (s1 + (w64 ((w64 (andV .u64 x4.1 (IntKind.u64.wrap (s10 - 1)))) - s8)))) < ((o0.set (s11).toNat x5).length : Int) := (qa9 h7).2.1; simp only [llA, lrA] at hb; omega)
  have h7c := (qa9 h7).2.2
  obtain rfl := oiA hr
  refine ⟨⟨gt, ?_⟩, (show ((o0.set (s11).toNat x5).set (w64 (s1 + (w64 ((w64 (andV .u64 x4.1 (IntKind.u64.wrap (s10 - 1)))) - s8)))).toNat x6).length = n0 by first | assumption | (simp only [llA, lrA]; first | done | assumption | omega) | omega)⟩
  rotate_left
  obtain ⟨x8, h8, x9, h9, x10, h10, hr⟩ := bs3 hr
  have h8a := eq_true (qa9 h8).1
  have h8b : ((w64 (s1 + (w64 (andV .u64 x4.1 (IntKind.u64.wrap (s10 - 1)))))) < (n0 : Int)) = True := eq_true (by have hb : (w64 (s1 + (w64 (andV .u64 x4.1 (IntKind.u64.wrap (s10 - 1)))))) < (o0.length : Int) := (qa9 h8).2.1; omega)
  have h8c := (qa9 h8).2.2
  have h9a := eq_true (qa9 h9).1
  have h9b : (s11 < (n0 : Int)) = True := eq_true (by have hb : s11 < (o0.length : Int) := (qa9 h9).2.1; omega)
  have h9c := (qa9 h9).2.2
  have h10a := eq_true (qa9 h10).1
  have h10b : ((w64 (s1 + (w64 (andV .u64 x4.1 (IntKind.u64.wrap (s10 - 1)))))) < (n0 : Int)) = True := eq_true (by have hb : (w64 (s1 + (w64 (andV .u64 x4.1 (IntKind.u64.wrap (s10 - 1)))))) < ((o0.set (s11).toNat x8).length : Int) := (qa9 h10).2.1; simp only [llA, lrA] at hb; omega)
  have h10c := (qa9 h10).2.2
  obtain rfl := oiA hr
  refine ⟨⟨gt, ?_⟩, (show ((o0.set (s11).toNat x8).set (w64 (s1 + (w64 (andV .u64 x4.1 (IntKind.u64.wrap (s10 - 1)))))).toNat x9).length = n0 by first | assumption | (simp only [llA, lrA]; first | done | assumption | omega) | omega)⟩
  rotate_left
  obtain rfl := oiA hr
  refine xe_of ⟨gt, rfl, (show o0.length = n0 by first | assumption | (simp only [llA, lrA]; first | done | assumption | omega) | omega)⟩ ?_
  rotate_left
  all_goals (simp +decide only [go_sem, qcl9, qoj9, *])
theorem qjb9 {s1 : Int} {s2 : Int} {o0 : List Bind} {g1 : AHeap} {v0 : Nat} {n0 : Nat} {g2 : AHeap} (hln0 : o0.length = n0) {r : (List Bind)} (hr : qbT9 s1 s2 o0 = some r) : ∃ hz : AHeap, Lim C 124 [.ref g1.length v0 0 n0, PI s1, PI s2, .fn 84 []] (g1 ++ (.row false v0 2 (rowP qc9 o0) :: g2)) = some (resOf [], (g1 ++ (.row false v0 2 (rowP qc9 r) :: (g2 ++ hz)))) ∧ r.length = n0 := by
  simp only [qbT9] at hr
  rcases iteP hr with ⟨h1, hr⟩ | ⟨h1, hr⟩
  obtain ⟨x1, h2, x2, h3, hr⟩ := bs2 hr
  have h2k := (qjI9 h2).k rfl rfl rfl
  try simp only [go_sem] at h2k
  obtain ⟨x11, h4, hr⟩ := bsome hr
  obtain ⟨q4, h4L, h4X⟩ := (qiL9 (g1 := g1) (v0 := v0) (n0 := n0) (g2 := g2)).L (g := []) h4 (show o0.length = n0 by first | assumption | (simp only [llA, lrA]; first | done | assumption | omega) | omega)
  obtain ⟨x12, x13, x14⟩ := x11
  try dsimp only at hr
  obtain ⟨z15, rfl, h4l0⟩ := h4X
  simp only [qcl9, go_sem] at h4L
  try simp only [hln0] at h4L
  obtain rfl := oiA hr
  refine ⟨(.row false 0 1 [[.d (.v (.int .u64 x14))]] :: z15), run_L is124 (nbA rfl) ?_, (show x13.length = n0 by first | assumption | (simp only [llA, lrA]; first | done | assumption | omega) | omega)⟩
  rotate_left
  obtain rfl := oiA hr
  refine ⟨[], run_L is124 (nbA rfl) ?_, (show o0.length = n0 by first | assumption | (simp only [llA, lrA]; first | done | assumption | omega) | omega)⟩
  rotate_left
  all_goals (simp +decide only [go_sem, c124, *])
def qqQ9 : ACode := .seq (.reg [] [] [.K 28 (.bin .lss (.tmp 27) (.tmp 26))]) (.seq (.cond (.tmp 28) (some 28) (.skip) (.exit 2)) (.seq (.block 3 268435712 (.seq (.reg [] [] [.T 29 (.ix 1 (.tmp 25) (.tmp 27)), .T 30 (.load none (.tmp 29)), .N 8 30]) (.reg [] [] [.M 31 6, .M 32 8, .T 33 (.app 1 8 (.tmp 31) (.tmp 32)), .N 6 33]))) (.reg [] [] [.T 34 (.bin .add (.tmp 27) (cI 1)), .N 27 34])))
def qqE9 : ACode := .seq (.reg [] [] [.K 12 (.bin .lss (.tmp 11) (.tmp 10))]) (.seq (.cond (.tmp 12) (some 12) (.skip) (.exit 0)) (.seq (.block 1 1052704 (.seq (.reg [] [] [.T 13 (.ix 1 (.tmp 9) (.tmp 11)), .T 14 (.load none (.tmp 13)), .N 5 14]) (.seq (.reg [] [] [.M 15 3, .M 16 5, .T 17 (.len (.tmp 16)), .T 18 (.bin .add (.tmp 15) (.tmp 17)), .N 3 18]) (.seq (.reg [] [] [.M 19 3, .K 20 (.bin .lss (.tmp 19) (cI 0))]) (.cond (.tmp 20) (some 20) (.reg [] [] [.T 21 (.mkI 9 (.const (.string { data := #[108, 101, 110, 32, 111, 117, 116, 32, 111, 102, 32, 114, 97, 110, 103, 101] }))), ⟨none, .raw ({ dst := none, op := Go.Op.panic (.tmp 21), type := 0, pos := "slices.go:496", after := #[{ on := 0, ground := Go.Ground.data }], guard := none }), none, false, false⟩]) (.skip)))))) (.reg [] [] [.T 22 (.bin .add (.tmp 11) (cI 1)), .N 11 22])))
def c66 : ACode := .seq (.reg [] [(2, 0)] [.K 2 (.mv (.const (.slice none 0 0)))]) (.seq (.reg [] [] [.K 3 (.mv (cI 0))]) (.seq (.seq (.reg [] [] [.N 9 0, .K 10 (.len (.tmp 9)), .K 11 (.mv (cI 0))]) (.block 0 1052704 (.loop qqE9))) (.seq (.reg [] [] [.M 23 3, .T 24 (.call 92 [.const (.slice none 0 0), .tmp 23]), .N 6 24]) (.seq (.seq (.reg [] [] [.N 25 0, .K 26 (.len (.tmp 25)), .K 27 (.mv (cI 0))]) (.block 2 268435712 (.loop qqQ9))) (.seq (.reg [] [(2, 0)] [.M 35 6, .N 2 35]) (.ret))))))
theorem is66 : IsF C 66 36 504373101 c66 [.tmp 2] := ⟨⟨Tryd.f66, _, C_P ▸ Tryd.func66, rfl, rfl, rfl, by kernel_rfl, rfl⟩⟩
def qcn9 (s0 : List (List Int)) (s2 : List Int) (s3 : Int) (s9 : List (List Int)) (s10 : Int) (s11 : Int) (s25 : List (List Int)) (s26 : Int) : Int × (List Int) → Nat → St := fun (s27, o6) v6 => ⟨[(0, .d (.rd (s0.map (lsD intD)))), (2, .d (.rd (s2.map intD))), (3, PI s3), (6, .ref 0 v6 0 o6.length), (9, .d (.rd (s9.map (lsD intD)))), (10, PI s10), (11, PI s11), (25, .d (.rd (s25.map (lsD intD)))), (26, PI s26), (27, PI s27)], (.row false v6 1 (rowP intD o6) :: [])⟩
def qiM9 (s0 : List (List Int)) (s2 : List Int) (s3 : Int) (s9 : List (List Int)) (s10 : Int) (s11 : Int) (s25 : List (List Int)) (s26 : Int) : (Int × (List Int)) → AExit × St → Prop := fun (s27, o6) q => ∃ g, q = (.exit 2, qcn9 s0 s2 s3 s9 s10 s11 s25 s26 (s27, o6) g)
theorem qiO9 {s0 : List (List Int)} {s2 : List Int} {s3 : Int} {s9 : List (List Int)} {s10 : Int} {s11 : Int} {s25 : List (List Int)} {s26 : Int} : Sim C 504373101 qqQ9 (qR9 s0 s2 s3 s9 s10 s11 s25 s26) (qcn9 s0 s2 s3 s9 s10 s11 s25 s26) (qiM9 s0 s2 s3 s9 s10 s11 s25 s26) := by
  intro s g r hr
  obtain ⟨s27, o6⟩ := s
  have ⟨v6, hg0⟩ : ∃ y, y = g := ⟨_, rfl⟩
  subst hg0
  simp only [qR9] at hr
  rcases iteP hr with ⟨h1, hr⟩ | ⟨h1, hr⟩
  obtain ⟨x5, h2, hr⟩ := bsome hr
  obtain ⟨h3, hr⟩ := gsome hr
  obtain rfl := oiA hr
  refine ⟨(v6 + 1), ?_⟩
  rotate_left
  obtain rfl := oiA hr
  refine xe_of ⟨v6, rfl⟩ ?_
  rotate_left
  all_goals (simp +decide only [go_sem, qcn9, qqQ9, *])
def qco9 (s0 : List (List Int)) (s2 : List Int) (s9 : List (List Int)) (s10 : Int) : Int × Int → Unit → St := fun (s3, s11) _ => ⟨[(0, .d (.rd (s0.map (lsD intD)))), (2, .d (.rd (s2.map intD))), (3, PI s3), (9, .d (.rd (s9.map (lsD intD)))), (10, PI s10), (11, PI s11)], []⟩
def qiW9 (s0 : List (List Int)) (s2 : List Int) (s9 : List (List Int)) (s10 : Int) : (Int × Int) → AExit × St → Prop := fun (s3, s11) q => ∃ g, q = (.exit 0, qco9 s0 s2 s9 s10 (s3, s11) g)
theorem qiN9 {s0 : List (List Int)} {s2 : List Int} {s9 : List (List Int)} {s10 : Int} : Sim C 504373101 qqE9 (qP9 s0 s2 s9 s10) (qco9 s0 s2 s9 s10) (qiW9 s0 s2 s9 s10) := by
  intro s g r hr
  obtain ⟨s3, s11⟩ := s
  simp only [qP9] at hr
  rcases iteP hr with ⟨h1, hr⟩ | ⟨h1, hr⟩
  obtain ⟨x1, h2, hr⟩ := bsome hr
  rcases iteP hr with ⟨h3, hr⟩ | ⟨h3, hr⟩
  cases hr
  obtain rfl := oiA hr
  refine ⟨(), ?_⟩
  rotate_left
  obtain rfl := oiA hr
  refine xe_of ⟨(), rfl⟩ ?_
  rotate_left
  all_goals (simp +decide only [go_sem, qco9, qqE9, *])
theorem qjg9 {a0 : List (List Int)} {r : (List Int)} (hr : qbS9 a0 = some r) : Res C 66 [.rd (a0.map (lsD intD))] (.d (.rd (r.map intD))) := by
  simp only [qbS9] at hr
  obtain ⟨x2, h1, hr⟩ := bsome hr
  obtain ⟨q1, h1L, h1X⟩ := qiN9.L (g := ()) h1
  obtain ⟨x3, x4⟩ := x2
  try dsimp only at hr
  obtain ⟨⟨⟩, rfl⟩ := h1X
  simp only [qco9, go_sem] at h1L
  obtain ⟨h2, hr⟩ := gsome hr
  obtain ⟨x6, h3, hr⟩ := bsome hr
  obtain ⟨q3, h3L, h3X⟩ := qiO9.L (g := 1) h3
  obtain ⟨x7, x8⟩ := x6
  try dsimp only at hr
  obtain ⟨z9, rfl⟩ := h3X
  simp only [qcn9, go_sem] at h3L
  obtain rfl := oiA hr
  refine run_V is66 (nbA rfl) ?_
  rotate_left
  all_goals (simp +decide only [go_sem, c66, *])
end Ld

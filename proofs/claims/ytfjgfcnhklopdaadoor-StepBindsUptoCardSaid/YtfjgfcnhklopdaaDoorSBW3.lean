import Derived.Test.YtfjgfcnhklopdaaDoorSBW2
set_option maxHeartbeats 4000000
set_option linter.unusedVariables false
set_option linter.unusedSimpArgs false
namespace Ld
open Go Go.Proofs Go.Abs
set_option maxRecDepth 8000
def qlG9 : ACode := .seq (.seq (.reg [] [] [.M 50 11, .M 51 12, .T 52 (.bin .leq (.tmp 50) (.tmp 51)), .M 53 52, .MG 54 53 true 4, .MG 55 53 true 0, .MG 56 53 true 1, ⟨some (57, false), .ix 2 (.tmp 55) (.tmp 56), some (53, true), true, false⟩, ⟨some (58, false), .load (some 2) (.tmp 57), some (53, true), true, false⟩, .MG 59 53 true 0, .MG 60 53 true 12, ⟨some (61, false), .ix 2 (.tmp 59) (.tmp 60), some (53, true), true, false⟩, ⟨some (62, false), .load (some 2) (.tmp 61), some (53, true), true, false⟩, ⟨some (63, false), .callV (.tmp 54) [.tmp 58, .tmp 62], some (53, true), true, false⟩, .TG 64 53 true (.bin .lss (.tmp 63) (cI 0)), .K 65 (.pick (.tmp 53) (.tmp 64) (.const (.bool false)))]) (.cond (.tmp 65) (some 65) (.skip) (.exit 4))) (.block 5 36893488147419103232 (.reg [] [] [.M 66 12, .T 67 (.bin .sub (.tmp 66) (cI 1)), .N 12 67]))
def qlq9 : ACode := .seq (.seq (.reg [] [] [.M 31 11, .M 32 12, .T 33 (.bin .leq (.tmp 31) (.tmp 32)), .M 34 33, .MG 35 34 true 4, .MG 36 34 true 0, .MG 37 34 true 1, ⟨some (38, false), .ix 2 (.tmp 36) (.tmp 37), some (34, true), true, false⟩, ⟨some (39, false), .load (some 2) (.tmp 38), some (34, true), true, false⟩, .MG 40 34 true 0, .MG 41 34 true 11, ⟨some (42, false), .ix 2 (.tmp 40) (.tmp 41), some (34, true), true, false⟩, ⟨some (43, false), .load (some 2) (.tmp 42), some (34, true), true, false⟩, ⟨some (44, false), .callV (.tmp 35) [.tmp 39, .tmp 43], some (34, true), true, false⟩, .TG 45 34 true (.bin .lss (.tmp 44) (cI 0)), .TG 46 34 true (.not (.tmp 45)), .K 47 (.pick (.tmp 34) (.tmp 46) (.const (.bool false)))]) (.cond (.tmp 47) (some 47) (.skip) (.exit 2))) (.block 3 140737488355328 (.reg [] [] [.M 48 11, .T 49 (.bin .add (.tmp 48) (cI 1)), .N 11 49]))
def qlc9 : ACode := .block 1 1217485249602318761984 (.seq (.block 2 140737488355328 (.loop qlq9)) (.seq (.block 4 36893628884907458560 (.loop qlG9)) (.seq (.seq (.reg [] [] [.M 68 11, .M 69 12, .K 70 (.bin .gtr (.tmp 68) (.tmp 69))]) (.cond (.tmp 70) (some 70) (.exit 0) (.skip))) (.seq (.reg [] [] [.M 71 0, .M 72 11, .M 73 0, .M 74 12, .M 75 0, .M 76 12, ⟨some (77, false), .ix 2 (.tmp 75) (.tmp 76), none, true, false⟩, ⟨some (78, false), .load (some 2) (.tmp 77), none, true, false⟩, .M 79 0, .M 80 11, ⟨some (81, false), .ix 2 (.tmp 79) (.tmp 80), none, true, false⟩, ⟨some (82, false), .load (some 2) (.tmp 81), none, true, false⟩, ⟨some (83, false), .ix 2 (.tmp 71) (.tmp 72), none, true, false⟩, ⟨none, .store 2 (.tmp 83) (.tmp 78), none, false, false⟩, ⟨some (84, false), .ix 2 (.tmp 73) (.tmp 74), none, true, false⟩, ⟨none, .store 2 (.tmp 84) (.tmp 82), none, false, false⟩]) (.seq (.reg [] [] [.M 85 11, .T 86 (.bin .add (.tmp 85) (cI 1)), .N 11 86]) (.reg [] [] [.M 87 12, .T 88 (.bin .sub (.tmp 87) (cI 1)), .N 12 88]))))))
def c128 : ACode := .seq (.reg [] [] [.K 10 (.mv (cI 0))]) (.seq (.reg [] [] [.M 13 0, .M 14 1, .M 15 0, .M 16 3, .M 17 0, .M 18 3, ⟨some (19, false), .ix 2 (.tmp 17) (.tmp 18), none, true, false⟩, ⟨some (20, false), .load (some 2) (.tmp 19), none, true, false⟩, .M 21 0, .M 22 1, ⟨some (23, false), .ix 2 (.tmp 21) (.tmp 22), none, true, false⟩, ⟨some (24, false), .load (some 2) (.tmp 23), none, true, false⟩, ⟨some (25, false), .ix 2 (.tmp 13) (.tmp 14), none, true, false⟩, ⟨none, .store 2 (.tmp 25) (.tmp 20), none, false, false⟩, ⟨some (26, false), .ix 2 (.tmp 15) (.tmp 16), none, true, false⟩, ⟨none, .store 2 (.tmp 26) (.tmp 24), none, false, false⟩]) (.seq (.reg [] [] [.M 27 1, .T 28 (.bin .add (.tmp 27) (cI 1)), .M 29 2, .T 30 (.bin .sub (.tmp 29) (cI 1)), .N 11 28, .N 12 30]) (.seq (.block 0 1217485249602318761984 (.loop qlc9)) (.seq (.reg [] [] [.M 89 11, .N 10 89]) (.ret)))))
theorem is128 : IsF C 128 90 1217485249602318769183 c128 [.tmp 10] := ⟨⟨Tryd.f128, _, C_P ▸ Tryd.func128, rfl, rfl, rfl, by kernel_rfl, rfl⟩⟩
def qby9 (s1 : Int) (s2 : Int) (s3 : Int) (s11 : Int) (o0 : List Bind) (g1 : AHeap) (v0 : Nat) (n0 : Nat) (g2 : AHeap) : Int → AHeap → St := fun s12 gt => ⟨[(0, .ref g1.length v0 0 n0), (1, PI s1), (2, PI s2), (3, PI s3), (4, .fn 84 []), (10, PI 0), (11, PI s11), (12, PI s12)], (g1 ++ (.row false v0 2 (rowP qb9 o0) :: (g2 ++ gt)))⟩
def qcK9 (s1 : Int) (s2 : Int) (s3 : Int) (s11 : Int) (o0 : List Bind) (g1 : AHeap) (v0 : Nat) (n0 : Nat) (g2 : AHeap) : Int → Prop := fun s12 => o0.length = n0
def qdM9 (s1 : Int) (s2 : Int) (s3 : Int) (s11 : Int) (o0 : List Bind) (g1 : AHeap) (v0 : Nat) (n0 : Nat) (g2 : AHeap) : Int → AExit × St → Prop := fun s12 q => ∃ h1 : AHeap, q = (.exit 4, ⟨[(0, .ref g1.length v0 0 n0), (1, PI s1), (2, PI s2), (3, PI s3), (4, .fn 84 []), (10, PI 0), (11, PI s11), (12, PI s12)], (g1 ++ (.row false v0 2 (rowP qb9 o0) :: (g2 ++ h1)))⟩)
theorem qic9 (s1 : Int) (s2 : Int) (s3 : Int) (s11 : Int) (o0 : List Bind) (g1 : AHeap) (v0 : Nat) (n0 : Nat) (g2 : AHeap) : ∀ (s : Int) (g : AHeap) r, qcK9 s1 s2 s3 s11 o0 g1 v0 n0 g2 s → qbw9 s1 s2 s3 s11 o0 s = some r → Sum.elim (fun s' => (∃ g', semA C (Lim C) 1217485249602318769183 qlG9 (qby9 s1 s2 s3 s11 o0 g1 v0 n0 g2 s g) = some (.normal, qby9 s1 s2 s3 s11 o0 g1 v0 n0 g2 s' g')) ∧ qcK9 s1 s2 s3 s11 o0 g1 v0 n0 g2 s') (fun x => ∃ q, semA C (Lim C) 1217485249602318769183 qlG9 (qby9 s1 s2 s3 s11 o0 g1 v0 n0 g2 s g) = some q ∧ q.1 ≠ .normal ∧ qdM9 s1 s2 s3 s11 o0 g1 v0 n0 g2 x q) r := by
  intro s g r hI hr
  have ⟨s12, hs0⟩ : ∃ y, y = s := ⟨_, rfl⟩
  subst hs0
  have ⟨gt, hg0⟩ : ∃ y, y = g := ⟨_, rfl⟩
  subst hg0
  simp only [qcK9] at hI
  have hI0 := hI
  simp only [qbw9] at hr
  rcases pcA (s11 ≤ s12) with h1 | h1
  simp only [h1, if_true] at hr
  obtain ⟨x10, h2, hr⟩ := bsome hr
  have h2a := eq_true (qc9 h2).1
  have h2b : (s1 < (n0 : Int)) = True := eq_true (by have hb : s1 < (o0.length : Int) := (qc9 h2).2.1; omega)
  have h2c := (qc9 h2).2.2
  obtain ⟨x11, h3, hr⟩ := bsome hr
  have h3a := eq_true (qc9 h3).1
  have h3b : (s12 < (n0 : Int)) = True := eq_true (by have hb : s12 < (o0.length : Int) := (qc9 h3).2.1; omega)
  have h3c := (qc9 h3).2.2
  obtain ⟨x12, h4, hr⟩ := bsome hr
  have h4k := fun h => qv9 (h := h) (args := [.ag [PI x10.Var, .d (.rd (x10.T.map intD))], .ag [PI x11.Var, .d (.rd (x11.T.map intD))]]) h4 rfl
  try simp only [go_sem] at h4k
  rcases pcA (x12 < 0) with h5 | h5
  simp only [h5, if_true] at hr
  obtain rfl := oiA hr
  refine ⟨⟨gt, ?_⟩, (show o0.length = n0 by first | assumption | (simp only [llA, lrA]; first | done | assumption | omega) | omega)⟩
  rotate_left
  simp only [h5, if_false] at hr
  obtain rfl := oiA hr
  refine ⟨(.exit 4, ⟨[(0, .ref g1.length v0 0 n0), (1, PI s1), (2, PI s2), (3, PI s3), (4, .fn 84 []), (10, PI 0), (11, PI s11), (12, PI s12)], (g1 ++ (.row false v0 2 (rowP qb9 o0) :: (g2 ++ gt)))⟩), ?_, nofun, gt, rfl⟩
  rotate_left
  simp only [h1, if_false] at hr
  obtain rfl := oiA hr
  refine ⟨(.exit 4, ⟨[(0, .ref g1.length v0 0 n0), (1, PI s1), (2, PI s2), (3, PI s3), (4, .fn 84 []), (10, PI 0), (11, PI s11), (12, PI s12)], (g1 ++ (.row false v0 2 (rowP qb9 o0) :: (g2 ++ gt)))⟩), ?_, nofun, gt, rfl⟩
  rotate_left
  all_goals (simp +decide only [go_sem, Int.reduceToNat, Nat.reduceAdd, Nat.reduceLT, Nat.reduceMul, Nat.reducePow, reduceCtorEq, qby9, qlG9, *])
theorem qij9 {s1 : Int} {s2 : Int} {s3 : Int} {s11 : Int} {o0 : List Bind} {g1 : AHeap} {v0 : Nat} {n0 : Nat} {g2 : AHeap} {s : Int} {g : AHeap} {x} (h : wh (qbw9 s1 s2 s3 s11 o0) s = some x) (hI : qcK9 s1 s2 s3 s11 o0 g1 v0 n0 g2 s) : ∃ q, qp9 (semA C (Lim C) 1217485249602318769183 qlG9) (qby9 s1 s2 s3 s11 o0 g1 v0 n0 g2 s g) = some q ∧ qdM9 s1 s2 s3 s11 o0 g1 v0 n0 g2 x q := qcp9 (qic9 s1 s2 s3 s11 o0 g1 v0 n0 g2) hI h
def qbu9 (s1 : Int) (s2 : Int) (s3 : Int) (s12 : Int) (o0 : List Bind) (g1 : AHeap) (v0 : Nat) (n0 : Nat) (g2 : AHeap) : Int → AHeap → St := fun s11 gt => ⟨[(0, .ref g1.length v0 0 n0), (1, PI s1), (2, PI s2), (3, PI s3), (4, .fn 84 []), (10, PI 0), (11, PI s11), (12, PI s12)], (g1 ++ (.row false v0 2 (rowP qb9 o0) :: (g2 ++ gt)))⟩
def qcL9 (s1 : Int) (s2 : Int) (s3 : Int) (s12 : Int) (o0 : List Bind) (g1 : AHeap) (v0 : Nat) (n0 : Nat) (g2 : AHeap) : Int → Prop := fun s11 => o0.length = n0
def qdQ9 (s1 : Int) (s2 : Int) (s3 : Int) (s12 : Int) (o0 : List Bind) (g1 : AHeap) (v0 : Nat) (n0 : Nat) (g2 : AHeap) : Int → AExit × St → Prop := fun s11 q => ∃ h1 : AHeap, q = (.exit 2, ⟨[(0, .ref g1.length v0 0 n0), (1, PI s1), (2, PI s2), (3, PI s3), (4, .fn 84 []), (10, PI 0), (11, PI s11), (12, PI s12)], (g1 ++ (.row false v0 2 (rowP qb9 o0) :: (g2 ++ h1)))⟩)
theorem qid9 (s1 : Int) (s2 : Int) (s3 : Int) (s12 : Int) (o0 : List Bind) (g1 : AHeap) (v0 : Nat) (n0 : Nat) (g2 : AHeap) : ∀ (s : Int) (g : AHeap) r, qcL9 s1 s2 s3 s12 o0 g1 v0 n0 g2 s → qbC9 s1 s2 s3 s12 o0 s = some r → Sum.elim (fun s' => (∃ g', semA C (Lim C) 1217485249602318769183 qlq9 (qbu9 s1 s2 s3 s12 o0 g1 v0 n0 g2 s g) = some (.normal, qbu9 s1 s2 s3 s12 o0 g1 v0 n0 g2 s' g')) ∧ qcL9 s1 s2 s3 s12 o0 g1 v0 n0 g2 s') (fun x => ∃ q, semA C (Lim C) 1217485249602318769183 qlq9 (qbu9 s1 s2 s3 s12 o0 g1 v0 n0 g2 s g) = some q ∧ q.1 ≠ .normal ∧ qdQ9 s1 s2 s3 s12 o0 g1 v0 n0 g2 x q) r := by
  intro s g r hI hr
  have ⟨s11, hs0⟩ : ∃ y, y = s := ⟨_, rfl⟩
  subst hs0
  have ⟨gt, hg0⟩ : ∃ y, y = g := ⟨_, rfl⟩
  subst hg0
  simp only [qcL9] at hI
  have hI0 := hI
  simp only [qbC9] at hr
  rcases pcA (s11 ≤ s12) with h1 | h1
  simp only [h1, if_true] at hr
  obtain ⟨x4, h2, hr⟩ := bsome hr
  have h2a := eq_true (qc9 h2).1
  have h2b : (s1 < (n0 : Int)) = True := eq_true (by have hb : s1 < (o0.length : Int) := (qc9 h2).2.1; omega)
  have h2c := (qc9 h2).2.2
  obtain ⟨x5, h3, hr⟩ := bsome hr
  have h3a := eq_true (qc9 h3).1
  have h3b : (s11 < (n0 : Int)) = True := eq_true (by have hb : s11 < (o0.length : Int) := (qc9 h3).2.1; omega)
  have h3c := (qc9 h3).2.2
  obtain ⟨x6, h4, hr⟩ := bsome hr
  have h4k := fun h => qv9 (h := h) (args := [.ag [PI x4.Var, .d (.rd (x4.T.map intD))], .ag [PI x5.Var, .d (.rd (x5.T.map intD))]]) h4 rfl
  try simp only [go_sem] at h4k
  rcases pcA (x6 < 0) with h5 | h5
  simp only [h5, if_true] at hr
  obtain rfl := oiA hr
  refine ⟨(.exit 2, ⟨[(0, .ref g1.length v0 0 n0), (1, PI s1), (2, PI s2), (3, PI s3), (4, .fn 84 []), (10, PI 0), (11, PI s11), (12, PI s12)], (g1 ++ (.row false v0 2 (rowP qb9 o0) :: (g2 ++ gt)))⟩), ?_, nofun, gt, rfl⟩
  rotate_left
  simp only [h5, if_false] at hr
  obtain rfl := oiA hr
  refine ⟨⟨gt, ?_⟩, (show o0.length = n0 by first | assumption | (simp only [llA, lrA]; first | done | assumption | omega) | omega)⟩
  rotate_left
  simp only [h1, if_false] at hr
  obtain rfl := oiA hr
  refine ⟨(.exit 2, ⟨[(0, .ref g1.length v0 0 n0), (1, PI s1), (2, PI s2), (3, PI s3), (4, .fn 84 []), (10, PI 0), (11, PI s11), (12, PI s12)], (g1 ++ (.row false v0 2 (rowP qb9 o0) :: (g2 ++ gt)))⟩), ?_, nofun, gt, rfl⟩
  rotate_left
  all_goals (simp +decide only [go_sem, Int.reduceToNat, Nat.reduceAdd, Nat.reduceLT, Nat.reduceMul, Nat.reducePow, reduceCtorEq, qbu9, qlq9, *])
theorem qil9 {s1 : Int} {s2 : Int} {s3 : Int} {s12 : Int} {o0 : List Bind} {g1 : AHeap} {v0 : Nat} {n0 : Nat} {g2 : AHeap} {s : Int} {g : AHeap} {x} (h : wh (qbC9 s1 s2 s3 s12 o0) s = some x) (hI : qcL9 s1 s2 s3 s12 o0 g1 v0 n0 g2 s) : ∃ q, qp9 (semA C (Lim C) 1217485249602318769183 qlq9) (qbu9 s1 s2 s3 s12 o0 g1 v0 n0 g2 s g) = some q ∧ qdQ9 s1 s2 s3 s12 o0 g1 v0 n0 g2 x q := qcp9 (qid9 s1 s2 s3 s12 o0 g1 v0 n0 g2) hI h
def qbz9 (s1 : Int) (s2 : Int) (s3 : Int) (g1 : AHeap) (v0 : Nat) (n0 : Nat) (g2 : AHeap) : Int × Int × (List Bind) → AHeap → St := fun (s11, s12, o0) gt => ⟨[(0, .ref g1.length v0 0 n0), (1, PI s1), (2, PI s2), (3, PI s3), (4, .fn 84 []), (10, PI 0), (11, PI s11), (12, PI s12)], (g1 ++ (.row false v0 2 (rowP qb9 o0) :: (g2 ++ gt)))⟩
def qcM9 (s1 : Int) (s2 : Int) (s3 : Int) (g1 : AHeap) (v0 : Nat) (n0 : Nat) (g2 : AHeap) : Int × Int × (List Bind) → Prop := fun (s11, s12, o0) => o0.length = n0
def qdS9 (s1 : Int) (s2 : Int) (s3 : Int) (g1 : AHeap) (v0 : Nat) (n0 : Nat) (g2 : AHeap) : (Int × Int × (List Bind)) → AExit × St → Prop := fun (s11, s12, o0) q => ∃ h1 : AHeap, q = (.exit 0, ⟨[(0, .ref g1.length v0 0 n0), (1, PI s1), (2, PI s2), (3, PI s3), (4, .fn 84 []), (10, PI 0), (11, PI s11), (12, PI s12)], (g1 ++ (.row false v0 2 (rowP qb9 o0) :: (g2 ++ h1)))⟩) ∧ o0.length = n0
theorem qio9 (s1 : Int) (s2 : Int) (s3 : Int) (g1 : AHeap) (v0 : Nat) (n0 : Nat) (g2 : AHeap) : ∀ (s : Int × Int × (List Bind)) (g : AHeap) r, qcM9 s1 s2 s3 g1 v0 n0 g2 s → qP9 s1 s2 s3 s = some r → Sum.elim (fun s' => (∃ g', semA C (Lim C) 1217485249602318769183 qlc9 (qbz9 s1 s2 s3 g1 v0 n0 g2 s g) = some (.normal, qbz9 s1 s2 s3 g1 v0 n0 g2 s' g')) ∧ qcM9 s1 s2 s3 g1 v0 n0 g2 s') (fun x => ∃ q, semA C (Lim C) 1217485249602318769183 qlc9 (qbz9 s1 s2 s3 g1 v0 n0 g2 s g) = some q ∧ q.1 ≠ .normal ∧ qdS9 s1 s2 s3 g1 v0 n0 g2 x q) r := by
  intro s g r hI hr
  obtain ⟨s11, s12, o0⟩ := s
  have ⟨gt, hg0⟩ : ∃ y, y = g := ⟨_, rfl⟩
  subst hg0
  simp only [qcM9] at hI
  have hI0 := hI
  simp only [qP9] at hr
  obtain ⟨x7, h1, hr⟩ := bsome hr
  obtain ⟨q1, h1L, h1X⟩ := qil9 (g1 := g1) (v0 := v0) (n0 := n0) (g2 := (g2 ++ gt)) (g := []) h1 (show o0.length = n0 by first | assumption | (simp only [llA, lrA]; first | done | assumption | omega) | omega)
  have ⟨x8, hq1⟩ : ∃ y, y = x7 := ⟨_, rfl⟩
  subst hq1
  simp only [qdQ9, qbu9] at h1X h1L
  obtain ⟨z9, rfl⟩ := h1X
  try simp only [go_sem, Nat.reduceAdd, la1, la2, la3, la4, la5, la6] at h1L
  try simp only [hI0] at h1L
  obtain ⟨x13, h2, hr⟩ := bsome hr
  obtain ⟨q2, h2L, h2X⟩ := qij9 (g1 := g1) (v0 := v0) (n0 := n0) (g2 := (g2 ++ (gt ++ z9))) (g := []) h2 (show o0.length = n0 by first | assumption | (simp only [llA, lrA]; first | done | assumption | omega) | omega)
  have ⟨x14, hq2⟩ : ∃ y, y = x13 := ⟨_, rfl⟩
  subst hq2
  simp only [qdM9, qby9] at h2X h2L
  obtain ⟨z15, rfl⟩ := h2X
  try simp only [go_sem, Nat.reduceAdd, la1, la2, la3, la4, la5, la6] at h2L
  try simp only [hI0] at h2L
  rcases pcA (x14 < x8) with h3 | h3
  simp only [h3, if_true] at hr
  obtain rfl := oiA hr
  refine ⟨(.exit 0, ⟨[(0, .ref g1.length v0 0 n0), (1, PI s1), (2, PI s2), (3, PI s3), (4, .fn 84 []), (10, PI 0), (11, PI x8), (12, PI x14)], (g1 ++ (.row false v0 2 (rowP qb9 o0) :: (g2 ++ (gt ++ (z9 ++ z15)))))⟩), ?_, nofun, (gt ++ (z9 ++ z15)), rfl, (show o0.length = n0 by first | assumption | (simp only [llA, lrA]; first | done | assumption | omega) | omega)⟩
  rotate_left
  simp only [h3, if_false] at hr
  obtain ⟨x16, h4, hr⟩ := bsome hr
  have h4a := eq_true (qc9 h4).1
  have h4b : (x14 < (n0 : Int)) = True := eq_true (by have hb : x14 < (o0.length : Int) := (qc9 h4).2.1; omega)
  have h4c := (qc9 h4).2.2
  obtain ⟨x17, h5, hr⟩ := bsome hr
  have h5a := eq_true (qc9 h5).1
  have h5b : (x8 < (n0 : Int)) = True := eq_true (by have hb : x8 < (o0.length : Int) := (qc9 h5).2.1; omega)
  have h5c := (qc9 h5).2.2
  obtain ⟨x18, h6, hr⟩ := bsome hr
  have h6a := eq_true (qc9 h6).1
  have h6b : (x14 < (n0 : Int)) = True := eq_true (by have hb : x14 < ((o0.set (x8).toNat x16).length : Int) := (qc9 h6).2.1; simp only [llA, lrA] at hb; omega)
  have h6c := (qc9 h6).2.2
  obtain rfl := oiA hr
  refine ⟨⟨(gt ++ (z9 ++ z15)), ?_⟩, (show ((o0.set (x8).toNat x16).set (x14).toNat x17).length = n0 by first | assumption | (simp only [llA, lrA]; first | done | assumption | omega) | omega)⟩
  rotate_left
  all_goals (simp +decide only [go_sem, Int.reduceToNat, Nat.reduceAdd, Nat.reduceLT, Nat.reduceMul, Nat.reducePow, reduceCtorEq, qbz9, qlc9, *])
theorem qiq9 {s1 : Int} {s2 : Int} {s3 : Int} {g1 : AHeap} {v0 : Nat} {n0 : Nat} {g2 : AHeap} {s : Int × Int × (List Bind)} {g : AHeap} {x} (h : wh (qP9 s1 s2 s3) s = some x) (hI : qcM9 s1 s2 s3 g1 v0 n0 g2 s) : ∃ q, qp9 (semA C (Lim C) 1217485249602318769183 qlc9) (qbz9 s1 s2 s3 g1 v0 n0 g2 s g) = some q ∧ qdS9 s1 s2 s3 g1 v0 n0 g2 x q := qcp9 (qio9 s1 s2 s3 g1 v0 n0 g2) hI h
theorem qiz9 {s1 : Int} {s2 : Int} {s3 : Int} {o0 : List Bind} {g1 : AHeap} {v0 : Nat} {n0 : Nat} {g2 : AHeap} (hln0 : o0.length = n0) {r : Int × (List Bind)} (hr : qA9 s1 s2 s3 o0 = some r) : ∃ hz : AHeap, Lim C 128 [.ref g1.length v0 0 n0, PI s1, PI s2, PI s3, .fn 84 []] (g1 ++ (.row false v0 2 (rowP qb9 o0) :: g2)) = some (resOf [PI r.1], (g1 ++ (.row false v0 2 (rowP qb9 r.2) :: (g2 ++ hz)))) ∧ r.2.length = n0 := by
  simp only [qA9] at hr
  obtain ⟨x1, h1, hr⟩ := bsome hr
  have h1a := eq_true (qc9 h1).1
  have h1b : (s3 < (n0 : Int)) = True := eq_true (by have hb : s3 < (o0.length : Int) := (qc9 h1).2.1; omega)
  have h1c := (qc9 h1).2.2
  obtain ⟨x2, h2, hr⟩ := bsome hr
  have h2a := eq_true (qc9 h2).1
  have h2b : (s1 < (n0 : Int)) = True := eq_true (by have hb : s1 < (o0.length : Int) := (qc9 h2).2.1; omega)
  have h2c := (qc9 h2).2.2
  obtain ⟨x3, h3, hr⟩ := bsome hr
  have h3a := eq_true (qc9 h3).1
  have h3b : (s3 < (n0 : Int)) = True := eq_true (by have hb : s3 < ((o0.set (s1).toNat x1).length : Int) := (qc9 h3).2.1; simp only [llA, lrA] at hb; omega)
  have h3c := (qc9 h3).2.2
  obtain ⟨x19, h4, hr⟩ := bsome hr
  obtain ⟨q4, h4L, h4X⟩ := qiq9 (g1 := g1) (v0 := v0) (n0 := n0) (g2 := g2) (g := []) h4 (show ((o0.set (s1).toNat x1).set (s3).toNat x2).length = n0 by first | assumption | (simp only [llA, lrA]; first | done | assumption | omega) | omega)
  obtain ⟨x20, x21, x22⟩ := x19
  simp only [qdS9, qbz9] at h4X h4L
  obtain ⟨z23, rfl, h4l0⟩ := h4X
  try simp only [go_sem, Nat.reduceAdd, la1, la2, la3, la4, la5, la6] at h4L
  try simp only [hln0] at h4L
  obtain rfl := oiA hr
  refine ⟨z23, Lim_A is128 (nbA rfl) (e := .ret) (env := [(0, .ref g1.length v0 0 n0), (1, PI s1), (2, PI s2), (3, PI s3), (4, .fn 84 []), (10, PI x20), (11, PI x20), (12, PI x21)]) (h' := (g1 ++ (.row false v0 2 (rowP qb9 x22) :: (g2 ++ z23)))) (vs := [PI x20]) ?_ (.inr rfl) rfl, (show x22.length = n0 by first | assumption | (simp only [llA, lrA]; first | done | assumption | omega) | omega)⟩
  rotate_left
  all_goals (simp +decide only [go_sem, Int.reduceToNat, Nat.reduceAdd, Nat.reduceLT, Nat.reduceMul, Nat.reducePow, reduceCtorEq, qg9, c128, *])
theorem qbj9 {s1 : Int} {s2 : Int} {s3 : Int} {o0 : List Bind} {g1 : AHeap} {v0 : Nat} {n0 : Nat} {g2 : AHeap} (hln0 : o0.length = n0) {r : Int × (List Bind)} (hr : qA9 s1 s2 s3 o0 = some r) : ∃ hz : AHeap, callP C (Lim C) 128 [.ref g1.length v0 0 n0, PI s1, PI s2, PI s3, .fn 84 []] (g1 ++ (.row false v0 2 (rowP qb9 o0) :: g2)) = some (resOf [PI r.1], (g1 ++ (.row false v0 2 (rowP qb9 r.2) :: (g2 ++ hz)))) ∧ r.2.length = n0 := by
  obtain ⟨hz, h1, f0⟩ := qiz9 hln0 hr (g1 := g1) (v0 := v0) (n0 := n0) (g2 := g2)
  exact ⟨hz, qZ9 rfl rfl rfl h1, f0⟩
def c137 : ACode := .seq (.reg [] [] [.K 2 (.mv (.const (.int .u64 0)))]) (.seq (.reg [] [] [.M 3 0, .T 4 (.wrap .u64 (.tmp 3)), .T 5 (.call 106 [.tmp 4]), .T 6 (.sh .shl (.const (.int .u64 1)) (.tmp 5)), .N 2 6]) (.ret))
theorem is137 : IsF C 137 7 5 c137 [.tmp 2] := ⟨⟨Tryd.f137, _, C_P ▸ Tryd.func137, rfl, rfl, rfl, by kernel_rfl, rfl⟩⟩
theorem qjr9 {a0 : Int} {r : Int} (hr : qcB9 a0 = some r) : ∃ p hp, Lim C 137 [PI a0] [] = some (p, hp) ∧ rsT hp p = some (.d (.v (.int .u64 r))) := by
  simp only [qcB9] at hr
  obtain ⟨x1, h1, hr⟩ := bsome hr
  have h1k := fun h => qjw9 (h := h) h1
  try simp only [go_sem] at h1k
  obtain ⟨x2, h2, hr⟩ := bsome hr
  obtain rfl := oiA hr
  refine qh9 is137 (nbA rfl) (q := (.ret, ⟨[(0, PI a0), (2, .d (.v (.int .u64 x2)))], []⟩)) ?_ (.inr rfl) ⟨[.d (.v (.int .u64 x2))], rfl, ?_⟩
  rotate_left 2
  all_goals (simp +decide only [go_sem, Int.reduceToNat, Nat.reduceAdd, Nat.reduceLT, Nat.reduceMul, Nat.reducePow, reduceCtorEq, qg9, c137, *])
theorem qjs9 {a0 : Int} {r : Int} (hr : qcB9 a0 = some r) {h : AHeap} : callP C (Lim C) 137 [PI a0] h = some (.d (.v (.int .u64 r)), h) := qbk9 (ds := [.v (.int .i64 a0)]) rfl rfl rfl (qjr9 hr) h
def c138 : ACode := .seq (.reg [] [] [.K 2 (.mv (.const (.int .u64 0)))]) (.seq (.reg [] [] [.M 3 0, .T 4 (.nilC (.tmp 3)), ⟨some (5, false), .load none (.tmp 4), none, true, false⟩, .M 6 0, .T 7 (.nilC (.tmp 6)), ⟨some (8, false), .load none (.tmp 7), none, true, false⟩, .T 9 (.sh .shl (.tmp 8) (.const (.int .u64 13))), .T 10 (.binM .xor (.tmp 5) (.tmp 9)), .T 11 (.nilC (.tmp 3)), ⟨none, .store 1 (.tmp 11) (.tmp 10), none, false, false⟩]) (.seq (.reg [] [] [.M 12 0, .T 13 (.nilC (.tmp 12)), ⟨some (14, false), .load none (.tmp 13), none, true, false⟩, .M 15 0, .T 16 (.nilC (.tmp 15)), ⟨some (17, false), .load none (.tmp 16), none, true, false⟩, .T 18 (.sh .shr (.tmp 17) (.const (.int .u64 7))), .T 19 (.binM .xor (.tmp 14) (.tmp 18)), .T 20 (.nilC (.tmp 12)), ⟨none, .store 1 (.tmp 20) (.tmp 19), none, false, false⟩]) (.seq (.reg [] [] [.M 21 0, .T 22 (.nilC (.tmp 21)), ⟨some (23, false), .load none (.tmp 22), none, true, false⟩, .M 24 0, .T 25 (.nilC (.tmp 24)), ⟨some (26, false), .load none (.tmp 25), none, true, false⟩, .T 27 (.sh .shl (.tmp 26) (.const (.int .u64 17))), .T 28 (.binM .xor (.tmp 23) (.tmp 27)), .T 29 (.nilC (.tmp 21)), ⟨none, .store 1 (.tmp 29) (.tmp 28), none, false, false⟩]) (.seq (.reg [] [] [.M 30 0, .T 31 (.nilC (.tmp 30)), .T 32 (.load none (.tmp 31)), .N 2 32]) (.ret)))))
theorem is138 : IsF C 138 33 5 c138 [.tmp 2] := ⟨⟨Tryd.f138, _, C_P ▸ Tryd.func138, rfl, rfl, rfl, by kernel_rfl, rfl⟩⟩
theorem qjN9 {b0_0 : Int} {g1 : AHeap} {g2 : AHeap} {r : Int × Int} (hr : qcG9 b0_0 = some r) : Lim C 138 [.ptr g1.length 0 0 0] (g1 ++ (.row false 0 1 [[.d (.v (.int .u64 b0_0))]] :: g2)) = some (resOf [.d (.v (.int .u64 r.1))], (g1 ++ (.row false 0 1 [[.d (.v (.int .u64 r.2))]] :: g2))) := by
  simp only [qcG9] at hr
  obtain ⟨x1, h1, hr⟩ := bsome hr
  obtain ⟨x2, h2, hr⟩ := bsome hr
  obtain ⟨x3, h3, hr⟩ := bsome hr
  obtain rfl := oiA hr
  refine (Lim_A is138 (nbA rfl) (e := .ret) (env := [(0, .ptr g1.length 0 0 0), (2, .d (.v (.int .u64 (xorV .u64 (xorV .u64 (xorV .u64 b0_0 x1) x2) x3))))]) (h' := (g1 ++ (.row false 0 1 [[.d (.v (.int .u64 (xorV .u64 (xorV .u64 (xorV .u64 b0_0 x1) x2) x3)))]] :: g2))) (vs := [.d (.v (.int .u64 (xorV .u64 (xorV .u64 (xorV .u64 b0_0 x1) x2) x3)))]) ?_ (.inr rfl) rfl)
  rotate_left
  all_goals (simp +decide only [go_sem, Int.reduceToNat, Nat.reduceAdd, Nat.reduceLT, Nat.reduceMul, Nat.reducePow, reduceCtorEq, qg9, c138, *])
theorem qjG9 {b0_0 : Int} {g1 : AHeap} {g2 : AHeap} {r : Int × Int} (hr : qcG9 b0_0 = some r) : callP C (Lim C) 138 [.ptr g1.length 0 0 0] (g1 ++ (.row false 0 1 [[.d (.v (.int .u64 b0_0))]] :: g2)) = some (resOf [.d (.v (.int .u64 r.1))], (g1 ++ (.row false 0 1 [[.d (.v (.int .u64 r.2))]] :: g2))) := by
  have h1 := qjN9 hr (g1 := g1) (g2 := g2)
  exact qZ9 rfl rfl rfl h1
def qlx9 : ACode := .seq (.seq (.reg [] [] [.M 28 11, .M 29 1, .M 30 8, .T 31 (.binM .quo (.tmp 30) (cI 4)), .T 32 (.bin .mul (.tmp 31) (cI 2)), .T 33 (.bin .add (.tmp 29) (.tmp 32)), .T 34 (.bin .add (.tmp 33) (cI 1)), .K 35 (.bin .leq (.tmp 28) (.tmp 34))]) (.cond (.tmp 35) (some 35) (.skip) (.exit 0))) (.seq (.block 1 35218731831296 (.seq (.reg [] [] [.T 38 (.call 138 [.tmp 9]), .M 39 10, .T 40 (.bin .sub (.tmp 39) (.const (.int .u64 1))), .T 41 (.binM .and (.tmp 38) (.tmp 40)), .T 42 (.wrap .i64 (.tmp 41)), .N 12 42]) (.seq (.seq (.reg [] [] [.M 43 12, .M 44 8, .K 45 (.bin .geq (.tmp 43) (.tmp 44))]) (.cond (.tmp 45) (some 45) (.reg [] [] [.M 46 12, .M 47 8, .T 48 (.bin .sub (.tmp 46) (.tmp 47)), .N 12 48]) (.skip))) (.reg [] [] [.M 49 0, .M 50 11, .M 51 0, .M 52 1, .M 53 12, .T 54 (.bin .add (.tmp 52) (.tmp 53)), .M 55 0, .M 56 1, .M 57 12, .T 58 (.bin .add (.tmp 56) (.tmp 57)), ⟨some (59, false), .ix 2 (.tmp 55) (.tmp 58), none, true, false⟩, ⟨some (60, false), .load (some 2) (.tmp 59), none, true, false⟩, .M 61 0, .M 62 11, ⟨some (63, false), .ix 2 (.tmp 61) (.tmp 62), none, true, false⟩, ⟨some (64, false), .load (some 2) (.tmp 63), none, true, false⟩, ⟨some (65, false), .ix 2 (.tmp 49) (.tmp 50), none, true, false⟩, ⟨none, .store 2 (.tmp 65) (.tmp 60), none, false, false⟩, ⟨some (66, false), .ix 2 (.tmp 51) (.tmp 54), none, true, false⟩, ⟨none, .store 2 (.tmp 66) (.tmp 64), none, false, false⟩])))) (.reg [] [] [.M 36 11, .T 37 (.bin .add (.tmp 36) (cI 1)), .N 11 37]))
def c124 : ACode := .seq (.reg [] [] [.M 13 2, .M 14 1, .T 15 (.bin .sub (.tmp 13) (.tmp 14)), .N 8 15]) (.seq (.reg [] [] [.M 16 8, .K 17 (.bin .geq (.tmp 16) (cI 8))]) (.cond (.tmp 17) (some 17) (.seq (.reg [] [] [.M 18 8, .T 19 (.wrap .u64 (.tmp 18)), .K 9 (.alloc [.d (.v (.int .u64 0))] 1), ⟨none, .store 1 (.tmp 9) (.tmp 19), none, false, false⟩]) (.seq (.reg [] [] [.M 20 8, .T 21 (.call 137 [.tmp 20]), .N 10 21]) (.seq (.reg [] [] [.M 22 1, .M 23 8, .T 24 (.binM .quo (.tmp 23) (cI 4)), .T 25 (.bin .mul (.tmp 24) (cI 2)), .T 26 (.bin .add (.tmp 22) (.tmp 25)), .T 27 (.bin .sub (.tmp 26) (cI 1)), .N 11 27]) (.block 0 35218731831296 (.loop qlx9))))) (.skip)))
theorem is124 : IsF C 124 67 35218731966215 c124 [] := ⟨⟨Tryd.f124, _, C_P ▸ Tryd.func124, rfl, rfl, rfl, by kernel_rfl, rfl⟩⟩
def qbG9 (s1 : Int) (s2 : Int) (s8 : Int) (s10 : Int) (g1 : AHeap) (v0 : Nat) (n0 : Nat) (g2 : AHeap) : Int × (List Bind) × Int → AHeap → St := fun (s11, o0, b9_0) gt => ⟨[(0, .ref g1.length v0 0 n0), (1, PI s1), (2, PI s2), (8, PI s8), (9, .ptr (g1.length + g2.length + 1) 0 0 0), (10, .d (.v (.int .u64 s10))), (11, PI s11)], (g1 ++ (.row false v0 2 (rowP qb9 o0) :: (g2 ++ (.row false 0 1 [[.d (.v (.int .u64 b9_0))]] :: gt))))⟩
def qcS9 (s1 : Int) (s2 : Int) (s8 : Int) (s10 : Int) (g1 : AHeap) (v0 : Nat) (n0 : Nat) (g2 : AHeap) : Int × (List Bind) × Int → Prop := fun (s11, o0, b9_0) => o0.length = n0
def qel9 (s1 : Int) (s2 : Int) (s8 : Int) (s10 : Int) (g1 : AHeap) (v0 : Nat) (n0 : Nat) (g2 : AHeap) : (Int × (List Bind) × Int) → AExit × St → Prop := fun (s11, o0, b9_0) q => ∃ h1 : AHeap, q = (.exit 0, ⟨[(0, .ref g1.length v0 0 n0), (1, PI s1), (2, PI s2), (8, PI s8), (9, .ptr (g1.length + g2.length + 1) 0 0 0), (10, .d (.v (.int .u64 s10))), (11, PI s11)], (g1 ++ (.row false v0 2 (rowP qb9 o0) :: (g2 ++ (.row false 0 1 [[.d (.v (.int .u64 b9_0))]] :: h1))))⟩) ∧ o0.length = n0
theorem qiv9 (s1 : Int) (s2 : Int) (s8 : Int) (s10 : Int) (g1 : AHeap) (v0 : Nat) (n0 : Nat) (g2 : AHeap) : ∀ (s : Int × (List Bind) × Int) (g : AHeap) r, qcS9 s1 s2 s8 s10 g1 v0 n0 g2 s → qG9 s1 s2 s8 s10 s = some r → Sum.elim (fun s' => (∃ g', semA C (Lim C) 35218731966215 qlx9 (qbG9 s1 s2 s8 s10 g1 v0 n0 g2 s g) = some (.normal, qbG9 s1 s2 s8 s10 g1 v0 n0 g2 s' g')) ∧ qcS9 s1 s2 s8 s10 g1 v0 n0 g2 s') (fun x => ∃ q, semA C (Lim C) 35218731966215 qlx9 (qbG9 s1 s2 s8 s10 g1 v0 n0 g2 s g) = some q ∧ q.1 ≠ .normal ∧ qel9 s1 s2 s8 s10 g1 v0 n0 g2 x q) r := by
  intro s g r hI hr
  obtain ⟨s11, o0, b9_0⟩ := s
  have ⟨gt, hg0⟩ : ∃ y, y = g := ⟨_, rfl⟩
  subst hg0
  simp only [qcS9] at hI
  have hI0 := hI
  simp only [qG9] at hr
  obtain ⟨x3, h1, hr⟩ := bsome hr
  rcases pcA (s11 ≤ (w64 ((w64 (s1 + (w64 (x3 * 2)))) + 1))) with h2 | h2
  simp only [h2, if_true] at hr
  obtain ⟨x4, h3, hr⟩ := bsome hr
  have h3k := qjG9 (g1 := (g1 ++ (.row false v0 2 (rowP qb9 o0) :: g2))) (g2 := gt) h3
  try simp only [go_sem, Nat.reduceAdd, la1, la2, la3, la4, la5, la6] at h3k
  rcases pcA (s8 ≤ (w64 (andV .u64 x4.1 (IntKind.u64.wrap (s10 - 1))))) with h4 | h4
  simp only [h4, if_true] at hr
  obtain ⟨x5, h5, hr⟩ := bsome hr
  have h5a := eq_true (qc9 h5).1
  have h5b : ((w64 (s1 + (w64 ((w64 (andV .u64 x4.1 (IntKind.u64.wrap (s10 - 1)))) - s8)))) < (n0 : Int)) = True := eq_true (by have hb : (w64 (s1 + (w64 ((w64 (andV .u64 x4.1 (IntKind.u64.wrap (s10 - 1)))) - s8)))) < (o0.length : Int) := (qc9 h5).2.1; omega)
  have h5c := (qc9 h5).2.2
  obtain ⟨x6, h6, hr⟩ := bsome hr
  have h6a := eq_true (qc9 h6).1
  have h6b : (s11 < (n0 : Int)) = True := eq_true (by have hb : s11 < (o0.length : Int) := (qc9 h6).2.1; omega)
  have h6c := (qc9 h6).2.2
  obtain ⟨x7, h7, hr⟩ := bsome hr
  have h7a := eq_true (qc9 h7).1
  have h7b : ((w64 (s1 + (w64 ((w64 (andV .u64 x4.1 (IntKind.u64.wrap (s10 - 1)))) - s8)))) < (n0 : Int)) = True := eq_true (by have hb : (w64 (s1 + (w64 ((w64 (andV .u64 x4.1 (IntKind.u64.wrap (s10 - 1)))) - s8)))) < ((o0.set (s11).toNat x5).length : Int) := (qc9 h7).2.1; simp only [llA, lrA] at hb; omega)
  have h7c := (qc9 h7).2.2
  obtain rfl := oiA hr
  refine ⟨⟨gt, ?_⟩, (show ((o0.set (s11).toNat x5).set (w64 (s1 + (w64 ((w64 (andV .u64 x4.1 (IntKind.u64.wrap (s10 - 1)))) - s8)))).toNat x6).length = n0 by first | assumption | (simp only [llA, lrA]; first | done | assumption | omega) | omega)⟩
  rotate_left
  simp only [h4, if_false] at hr
  obtain ⟨x8, h8, hr⟩ := bsome hr
  have h8a := eq_true (qc9 h8).1
  have h8b : ((w64 (s1 + (w64 (andV .u64 x4.1 (IntKind.u64.wrap (s10 - 1)))))) < (n0 : Int)) = True := eq_true (by have hb : (w64 (s1 + (w64 (andV .u64 x4.1 (IntKind.u64.wrap (s10 - 1)))))) < (o0.length : Int) := (qc9 h8).2.1; omega)
  have h8c := (qc9 h8).2.2
  obtain ⟨x9, h9, hr⟩ := bsome hr
  have h9a := eq_true (qc9 h9).1
  have h9b : (s11 < (n0 : Int)) = True := eq_true (by have hb : s11 < (o0.length : Int) := (qc9 h9).2.1; omega)
  have h9c := (qc9 h9).2.2
  obtain ⟨x10, h10, hr⟩ := bsome hr
  have h10a := eq_true (qc9 h10).1
  have h10b : ((w64 (s1 + (w64 (andV .u64 x4.1 (IntKind.u64.wrap (s10 - 1)))))) < (n0 : Int)) = True := eq_true (by have hb : (w64 (s1 + (w64 (andV .u64 x4.1 (IntKind.u64.wrap (s10 - 1)))))) < ((o0.set (s11).toNat x8).length : Int) := (qc9 h10).2.1; simp only [llA, lrA] at hb; omega)
  have h10c := (qc9 h10).2.2
  obtain rfl := oiA hr
  refine ⟨⟨gt, ?_⟩, (show ((o0.set (s11).toNat x8).set (w64 (s1 + (w64 (andV .u64 x4.1 (IntKind.u64.wrap (s10 - 1)))))).toNat x9).length = n0 by first | assumption | (simp only [llA, lrA]; first | done | assumption | omega) | omega)⟩
  rotate_left
  simp only [h2, if_false] at hr
  obtain rfl := oiA hr
  refine ⟨(.exit 0, ⟨[(0, .ref g1.length v0 0 n0), (1, PI s1), (2, PI s2), (8, PI s8), (9, .ptr (g1.length + g2.length + 1) 0 0 0), (10, .d (.v (.int .u64 s10))), (11, PI s11)], (g1 ++ (.row false v0 2 (rowP qb9 o0) :: (g2 ++ (.row false 0 1 [[.d (.v (.int .u64 b9_0))]] :: gt))))⟩), ?_, nofun, gt, rfl, (show o0.length = n0 by first | assumption | (simp only [llA, lrA]; first | done | assumption | omega) | omega)⟩
  rotate_left
  all_goals (simp +decide only [go_sem, Int.reduceToNat, Nat.reduceAdd, Nat.reduceLT, Nat.reduceMul, Nat.reducePow, reduceCtorEq, qbG9, qlx9, *])
theorem qiC9 {s1 : Int} {s2 : Int} {s8 : Int} {s10 : Int} {g1 : AHeap} {v0 : Nat} {n0 : Nat} {g2 : AHeap} {s : Int × (List Bind) × Int} {g : AHeap} {x} (h : wh (qG9 s1 s2 s8 s10) s = some x) (hI : qcS9 s1 s2 s8 s10 g1 v0 n0 g2 s) : ∃ q, qp9 (semA C (Lim C) 35218731966215 qlx9) (qbG9 s1 s2 s8 s10 g1 v0 n0 g2 s g) = some q ∧ qel9 s1 s2 s8 s10 g1 v0 n0 g2 x q := qcp9 (qiv9 s1 s2 s8 s10 g1 v0 n0 g2) hI h
theorem qiQ9 {s1 : Int} {s2 : Int} {o0 : List Bind} {g1 : AHeap} {v0 : Nat} {n0 : Nat} {g2 : AHeap} (hln0 : o0.length = n0) {r : (List Bind)} (hr : qcf9 s1 s2 o0 = some r) : ∃ hz : AHeap, Lim C 124 [.ref g1.length v0 0 n0, PI s1, PI s2, .fn 84 []] (g1 ++ (.row false v0 2 (rowP qb9 o0) :: g2)) = some (resOf [], (g1 ++ (.row false v0 2 (rowP qb9 r) :: (g2 ++ hz)))) ∧ r.length = n0 := by
  simp only [qcf9] at hr
  rcases pcA (8 ≤ (w64 (s2 - s1))) with h1 | h1
  simp only [h1, if_true] at hr
  obtain ⟨x1, h2, hr⟩ := bsome hr
  have h2k := fun h => qjs9 (h := h) h2
  try simp only [go_sem] at h2k
  obtain ⟨x2, h3, hr⟩ := bsome hr
  obtain ⟨x11, h4, hr⟩ := bsome hr
  obtain ⟨q4, h4L, h4X⟩ := qiC9 (g1 := g1) (v0 := v0) (n0 := n0) (g2 := g2) (g := []) h4 (show o0.length = n0 by first | assumption | (simp only [llA, lrA]; first | done | assumption | omega) | omega)
  obtain ⟨x12, x13, x14⟩ := x11
  simp only [qel9, qbG9] at h4X h4L
  obtain ⟨z15, rfl, h4l0⟩ := h4X
  try simp only [go_sem, Nat.reduceAdd, la1, la2, la3, la4, la5, la6] at h4L
  try simp only [hln0] at h4L
  obtain rfl := oiA hr
  refine ⟨(.row false 0 1 [[.d (.v (.int .u64 x14))]] :: z15), Lim_A is124 (nbA rfl) (e := .normal) (env := [(0, .ref g1.length v0 0 n0), (1, PI s1), (2, PI s2), (8, PI (w64 (s2 - s1))), (9, .ptr (g1.length + g2.length + 1) 0 0 0), (10, .d (.v (.int .u64 x1))), (11, PI x12)]) (h' := (g1 ++ (.row false v0 2 (rowP qb9 x13) :: (g2 ++ (.row false 0 1 [[.d (.v (.int .u64 x14))]] :: z15))))) (vs := []) ?_ (.inl rfl) rfl, (show x13.length = n0 by first | assumption | (simp only [llA, lrA]; first | done | assumption | omega) | omega)⟩
  rotate_left
  simp only [h1, if_false] at hr
  obtain rfl := oiA hr
  refine ⟨[], Lim_A is124 (nbA rfl) (e := .normal) (env := [(0, .ref g1.length v0 0 n0), (1, PI s1), (2, PI s2), (8, PI (w64 (s2 - s1)))]) (h' := (g1 ++ (.row false v0 2 (rowP qb9 o0) :: (g2 ++ ([] : AHeap))))) (vs := []) ?_ (.inl rfl) rfl, (show o0.length = n0 by first | assumption | (simp only [llA, lrA]; first | done | assumption | omega) | omega)⟩
  rotate_left
  all_goals (simp +decide only [go_sem, Int.reduceToNat, Nat.reduceAdd, Nat.reduceLT, Nat.reduceMul, Nat.reducePow, reduceCtorEq, qg9, c124, *])
theorem qiJ9 {s1 : Int} {s2 : Int} {o0 : List Bind} {g1 : AHeap} {v0 : Nat} {n0 : Nat} {g2 : AHeap} (hln0 : o0.length = n0) {r : (List Bind)} (hr : qcf9 s1 s2 o0 = some r) : ∃ hz : AHeap, callP C (Lim C) 124 [.ref g1.length v0 0 n0, PI s1, PI s2, .fn 84 []] (g1 ++ (.row false v0 2 (rowP qb9 o0) :: g2)) = some (resOf [], (g1 ++ (.row false v0 2 (rowP qb9 r) :: (g2 ++ hz)))) ∧ r.length = n0 := by
  obtain ⟨hz, h1, f0⟩ := qiQ9 hln0 hr (g1 := g1) (v0 := v0) (n0 := n0) (g2 := g2)
  exact ⟨hz, qZ9 rfl rfl rfl h1, f0⟩
def qlL9 : ACode := .block 1 42535296023574879666274036850519699456 (.seq (.reg [] [] [.M 21 2, .M 22 1, .T 23 (.bin .sub (.tmp 21) (.tmp 22)), .N 12 23]) (.seq (.seq (.reg [] [] [.M 24 12, .K 25 (.bin .leq (.tmp 24) (cI 12))]) (.cond (.tmp 25) (some 25) (.seq (.reg [] [] [.M 26 0, .M 27 1, .M 28 2, .M 29 4, .T 30 (.call 122 [.tmp 26, .tmp 27, .tmp 28, .tmp 29])]) (.ret)) (.skip))) (.seq (.seq (.reg [] [] [.M 31 3, .K 32 (.bin .eql (.tmp 31) (cI 0))]) (.cond (.tmp 32) (some 32) (.seq (.reg [] [] [.M 33 0, .M 34 1, .M 35 2, .M 36 4, .T 37 (.call 123 [.tmp 33, .tmp 34, .tmp 35, .tmp 36])]) (.ret)) (.skip))) (.seq (.seq (.reg [] [] [.M 38 10, .K 39 (.not (.tmp 38))]) (.cond (.tmp 39) (some 39) (.seq (.reg [] [] [.M 40 0, .M 41 1, .M 42 2, .M 43 4, .T 44 (.call 124 [.tmp 40, .tmp 41, .tmp 42, .tmp 43])]) (.reg [] [] [.M 45 3, .T 46 (.bin .sub (.tmp 45) (cI 1)), .N 3 46])) (.skip))) (.seq (.reg [] [] [.M 48 0, .M 49 1, .M 50 2, .M 51 4, .T 52 (.call 125 [.tmp 48, .tmp 49, .tmp 50, .tmp 51]), .M 47 52, .T 53 (.ext (.tmp 47) 0), .T 54 (.ext (.tmp 47) 1), .N 13 53, .N 14 54]) (.seq (.seq (.reg [] [] [.M 55 14, .K 56 (.bin .eql (.tmp 55) (cI 2))]) (.cond (.tmp 56) (some 56) (.seq (.reg [] [] [.M 57 0, .M 58 1, .M 59 2, .M 60 4, .T 61 (.call 126 [.tmp 57, .tmp 58, .tmp 59, .tmp 60])]) (.seq (.reg [] [] [.M 62 2, .T 63 (.bin .sub (.tmp 62) (cI 1)), .M 64 13, .M 65 1, .T 66 (.bin .sub (.tmp 64) (.tmp 65)), .T 67 (.bin .sub (.tmp 63) (.tmp 66)), .N 13 67]) (.reg [] [] [.K 14 (.mv (cI 1))]))) (.skip))) (.seq (.seq (.reg [] [] [.M 68 10, .M 69 68, .MG 70 69 true 11, .T 71 (.pick (.tmp 69) (.tmp 70) (.const (.bool false))), .M 72 71, .MG 73 72 true 14, .TG 74 72 true (.bin .eql (.tmp 73) (cI 1)), .K 75 (.pick (.tmp 72) (.tmp 74) (.const (.bool false)))]) (.cond (.tmp 75) (some 75) (.seq (.reg [] [] [.M 76 0, .M 77 1, .M 78 2, .M 79 4, .K 80 (.call 127 [.tmp 76, .tmp 77, .tmp 78, .tmp 79])]) (.cond (.tmp 80) (some 80) (.ret) (.skip))) (.skip))) (.seq (.seq (.reg [] [] [.M 81 1, .T 82 (.bin .gtr (.tmp 81) (cI 0)), .M 83 82, .MG 84 83 true 4, .MG 85 83 true 0, .MG 86 83 true 1, .TG 87 83 true (.bin .sub (.tmp 86) (cI 1)), ⟨some (88, false), .ix 2 (.tmp 85) (.tmp 87), some (83, true), true, false⟩, ⟨some (89, false), .load (some 2) (.tmp 88), some (83, true), true, false⟩, .MG 90 83 true 0, .MG 91 83 true 13, ⟨some (92, false), .ix 2 (.tmp 90) (.tmp 91), some (83, true), true, false⟩, ⟨some (93, false), .load (some 2) (.tmp 92), some (83, true), true, false⟩, ⟨some (94, false), .callV (.tmp 84) [.tmp 89, .tmp 93], some (83, true), true, false⟩, .TG 95 83 true (.bin .lss (.tmp 94) (cI 0)), .TG 96 83 true (.not (.tmp 95)), .K 97 (.pick (.tmp 83) (.tmp 96) (.const (.bool false)))]) (.cond (.tmp 97) (some 97) (.seq (.reg [] [] [.M 98 0, .M 99 1, .M 100 2, .M 101 13, .M 102 4, .T 103 (.call 128 [.tmp 98, .tmp 99, .tmp 100, .tmp 101, .tmp 102]), .N 15 103]) (.seq (.reg [] [] [.M 104 15, .N 1 104]) (.exit 1))) (.skip))) (.seq (.reg [] [] [.M 106 0, .M 107 1, .M 108 2, .M 109 13, .M 110 4, .T 111 (.call 129 [.tmp 106, .tmp 107, .tmp 108, .tmp 109, .tmp 110]), .M 105 111, .T 112 (.ext (.tmp 105) 0), .T 113 (.ext (.tmp 105) 1), .N 16 112, .N 17 113]) (.seq (.reg [] [] [.M 114 17, .N 11 114]) (.seq (.reg [] [] [.M 115 16, .M 116 1, .T 117 (.bin .sub (.tmp 115) (.tmp 116)), .M 118 2, .M 119 16, .T 120 (.bin .sub (.tmp 118) (.tmp 119)), .N 18 117, .N 19 120]) (.seq (.reg [] [] [.M 121 12, .T 122 (.binM .quo (.tmp 121) (cI 8)), .N 20 122]) (.seq (.reg [] [] [.M 123 18, .M 124 19, .K 125 (.bin .lss (.tmp 123) (.tmp 124))]) (.cond (.tmp 125) (some 125) (.seq (.reg [] [] [.M 126 18, .M 127 20, .T 128 (.bin .geq (.tmp 126) (.tmp 127)), .N 10 128]) (.seq (.reg [] [] [.M 129 0, .M 130 1, .M 131 16, .M 132 3, .M 133 4, .T 134 (.call 105 [.tmp 129, .tmp 130, .tmp 131, .tmp 132, .tmp 133])]) (.reg [] [] [.M 135 16, .T 136 (.bin .add (.tmp 135) (cI 1)), .N 1 136]))) (.seq (.reg [] [] [.M 137 19, .M 138 20, .T 139 (.bin .geq (.tmp 137) (.tmp 138)), .N 10 139]) (.seq (.reg [] [] [.M 140 0, .M 141 16, .T 142 (.bin .add (.tmp 141) (cI 1)), .M 143 2, .M 144 3, .M 145 4, .T 146 (.call 105 [.tmp 140, .tmp 142, .tmp 143, .tmp 144, .tmp 145])]) (.reg [] [] [.M 147 16, .N 2 147])))))))))))))))))
def c105 : ACode := .seq (.reg [] [] [.K 10 (.mv (.const (.bool true)))]) (.seq (.reg [] [] [.K 11 (.mv (.const (.bool true)))]) (.block 0 42535296023574879666274036850519699456 (.loop qlL9)))
theorem is105 : IsF C 105 148 42535296023574879666274036850519702559 c105 [] := ⟨⟨Tryd.f105, _, C_P ▸ Tryd.func105, rfl, rfl, rfl, by kernel_rfl, rfl⟩⟩
def qcJ9 (g1 : AHeap) (v0 : Nat) (n0 : Nat) (g2 : AHeap) : Int × Int × Int × Bool × Bool × (List Bind) → AHeap → St := fun (s1, s2, s3, s10, s11, o0) gt => ⟨[(0, .ref g1.length v0 0 n0), (1, PI s1), (2, PI s2), (3, PI s3), (4, .fn 84 []), (10, PB s10), (11, PB s11)], (g1 ++ (.row false v0 2 (rowP qb9 o0) :: (g2 ++ gt)))⟩
def qet9 (g1 : AHeap) (v0 : Nat) (n0 : Nat) (g2 : AHeap) : Int × Int × Int × Bool × Bool × (List Bind) → Prop := fun (s1, s2, s3, s10, s11, o0) => o0.length = n0
def qfy9 (g1 : AHeap) (v0 : Nat) (n0 : Nat) (g2 : AHeap) : ((List Bind)) → AExit × St → Prop := fun r q => q.1 = .ret ∧ ∃ hz : AHeap, mapO (resP C.P q.2) [] = some [] ∧ q.2.h = (g1 ++ (.row false v0 2 (rowP qb9 r) :: (g2 ++ hz))) ∧ r.length = n0
theorem qkv9 {rec : Int × Int × Int × (List Bind) → Option ((List Bind))} (hrec : ∀ {s1 : Int} {s2 : Int} {s3 : Int} {o0 : List Bind} {g1 : AHeap} {v0 : Nat} {n0 : Nat} {g2 : AHeap} (hln0 : o0.length = n0) {r : (List Bind)} (_ : rec (s1, s2, s3, o0) = some r), ∃ hz : AHeap, callP C (Lim C) 105 [.ref g1.length v0 0 n0, PI s1, PI s2, PI s3, .fn 84 []] (g1 ++ (.row false v0 2 (rowP qb9 o0) :: g2)) = some (resOf [], (g1 ++ (.row false v0 2 (rowP qb9 r) :: (g2 ++ hz)))) ∧ r.length = n0) (g1 : AHeap) (v0 : Nat) (n0 : Nat) (g2 : AHeap) : ∀ (s : Int × Int × Int × Bool × Bool × (List Bind)) (g : AHeap) r, qet9 g1 v0 n0 g2 s → qs9 rec s = some r → Sum.elim (fun s' => (∃ g', semA C (Lim C) 42535296023574879666274036850519702559 qlL9 (qcJ9 g1 v0 n0 g2 s g) = some (.normal, qcJ9 g1 v0 n0 g2 s' g')) ∧ qet9 g1 v0 n0 g2 s') (fun x => ∃ q, semA C (Lim C) 42535296023574879666274036850519702559 qlL9 (qcJ9 g1 v0 n0 g2 s g) = some q ∧ q.1 ≠ .normal ∧ qfy9 g1 v0 n0 g2 x q) r := by
  intro s g r hI hr
  obtain ⟨s1, s2, s3, s10, s11, o0⟩ := s
  have ⟨gt, hg0⟩ : ∃ y, y = g := ⟨_, rfl⟩
  subst hg0
  simp only [qet9] at hI
  have hI0 := hI
  simp only [qs9] at hr
  rcases pcA ((w64 (s2 - s1)) ≤ 12) with h1 | h1
  simp only [h1, if_true] at hr
  obtain ⟨x1, h2, hr⟩ := bsome hr
  obtain ⟨z2, h2k, h2l0⟩ := qiK9 (g1 := g1) (v0 := v0) (n0 := n0) (g2 := (g2 ++ gt)) (show o0.length = n0 by first | assumption | (simp only [llA, lrA]; first | done | assumption | omega) | omega) h2
  try simp only [go_sem, Nat.reduceAdd, la1, la2, la3, la4, la5, la6] at h2k
  obtain rfl := oiA hr
  refine ⟨(.ret, ⟨[(0, .ref g1.length v0 0 n0), (1, PI s1), (2, PI s2), (3, PI s3), (4, .fn 84 []), (10, PB s10), (11, PB s11), (12, PI (w64 (s2 - s1)))], (g1 ++ (.row false v0 2 (rowP qb9 x1) :: (g2 ++ (gt ++ z2))))⟩), ?_, nofun, rfl, (gt ++ z2), rfl, rfl, (show x1.length = n0 by first | assumption | (simp only [llA, lrA]; first | done | assumption | omega) | omega)⟩
  rotate_left
  simp only [h1, if_false] at hr
  rcases pcA (s3 = 0) with h3 | h3
  simp only [h3, if_true] at hr
  obtain ⟨x3, h4, hr⟩ := bsome hr
  obtain ⟨z4, h4k, h4l0⟩ := qkD9 (g1 := g1) (v0 := v0) (n0 := n0) (g2 := (g2 ++ gt)) (show o0.length = n0 by first | assumption | (simp only [llA, lrA]; first | done | assumption | omega) | omega) h4
  try simp only [go_sem, Nat.reduceAdd, la1, la2, la3, la4, la5, la6] at h4k
  obtain rfl := oiA hr
  refine ⟨(.ret, ⟨[(0, .ref g1.length v0 0 n0), (1, PI s1), (2, PI s2), (3, PI s3), (4, .fn 84 []), (10, PB s10), (11, PB s11), (12, PI (w64 (s2 - s1)))], (g1 ++ (.row false v0 2 (rowP qb9 x3) :: (g2 ++ (gt ++ z4))))⟩), ?_, nofun, rfl, (gt ++ z4), rfl, rfl, (show x3.length = n0 by first | assumption | (simp only [llA, lrA]; first | done | assumption | omega) | omega)⟩
  rotate_left
  simp only [h3, if_false] at hr
  cases h5 : s10
  simp only [h5, Bool.false_eq_true, if_false] at hr
  obtain ⟨x107, h96, hr⟩ := bsome hr
  obtain ⟨z108, h96k, h96l0⟩ := qiJ9 (g1 := g1) (v0 := v0) (n0 := n0) (g2 := (g2 ++ gt)) (show o0.length = n0 by first | assumption | (simp only [llA, lrA]; first | done | assumption | omega) | omega) h96
  try simp only [go_sem, Nat.reduceAdd, la1, la2, la3, la4, la5, la6] at h96k
  obtain ⟨x109, h97, hr⟩ := bsome hr
  obtain ⟨z110, h97k⟩ := qgo9 (g1 := g1) (v0 := v0) (n0 := n0) (g2 := (g2 ++ (gt ++ z108))) (show x107.length = n0 by first | assumption | (simp only [llA, lrA]; first | done | assumption | omega) | omega) h97
  try simp only [go_sem, Nat.reduceAdd, la1, la2, la3, la4, la5, la6] at h97k
  rcases pcA (x109.2 = 2) with h98 | h98
  simp only [h98, if_true] at hr
  obtain ⟨x111, h99, hr⟩ := bsome hr
  obtain ⟨h99k, h99l0⟩ := qfX9 (g1 := g1) (v0 := v0) (n0 := n0) (g2 := (g2 ++ (gt ++ (z108 ++ z110)))) (show x107.length = n0 by first | assumption | (simp only [llA, lrA]; first | done | assumption | omega) | omega) h99
  try simp only [go_sem, Nat.reduceAdd, la1, la2, la3, la4, la5, la6] at h99k
  rcases pcA (0 < s1) with h100 | h100
  simp only [h100, if_true] at hr
  obtain ⟨x112, h101, hr⟩ := bsome hr
  have h101a := eq_true (qc9 h101).1
  have h101b : ((w64 (s1 - 1)) < (n0 : Int)) = True := eq_true (by have hb : (w64 (s1 - 1)) < (x111.length : Int) := (qc9 h101).2.1; omega)
  have h101c := (qc9 h101).2.2
  obtain ⟨x113, h102, hr⟩ := bsome hr
  have h102a := eq_true (qc9 h102).1
  have h102b : ((w64 ((w64 (s2 - 1)) - (w64 (x109.1 - s1)))) < (n0 : Int)) = True := eq_true (by have hb : (w64 ((w64 (s2 - 1)) - (w64 (x109.1 - s1)))) < (x111.length : Int) := (qc9 h102).2.1; omega)
  have h102c := (qc9 h102).2.2
  obtain ⟨x114, h103, hr⟩ := bsome hr
  have h103k := fun h => qv9 (h := h) (args := [.ag [PI x112.Var, .d (.rd (x112.T.map intD))], .ag [PI x113.Var, .d (.rd (x113.T.map intD))]]) h103 rfl
  try simp only [go_sem] at h103k
  rcases pcA (x114 < 0) with h104 | h104
  simp only [h104, if_true] at hr
  obtain ⟨x115, h105, hr⟩ := bsome hr
  obtain ⟨z116, h105k, h105l0⟩ := qE9 (g1 := g1) (v0 := v0) (n0 := n0) (g2 := (g2 ++ (gt ++ (z108 ++ z110)))) (show x111.length = n0 by first | assumption | (simp only [llA, lrA]; first | done | assumption | omega) | omega) h105
  try simp only [go_sem, Nat.reduceAdd, la1, la2, la3, la4, la5, la6] at h105k
  obtain ⟨x117, h106, hr⟩ := bsome hr
  rcases pcA ((w64 (x115.1 - s1)) < (w64 (s2 - x115.1))) with h107 | h107
  simp only [h107, if_true] at hr
  obtain ⟨x118, h108, hr⟩ := bsome hr
  obtain ⟨z119, h108k, h108l0⟩ := hrec (g1 := g1) (v0 := v0) (n0 := n0) (g2 := (g2 ++ (gt ++ (z108 ++ (z110 ++ z116))))) (show x115.2.2.length = n0 by first | assumption | (simp only [llA, lrA]; first | done | assumption | omega) | omega) h108
  try simp only [go_sem, Nat.reduceAdd, la1, la2, la3, la4, la5, la6] at h108k
  obtain rfl := oiA hr
  refine ⟨⟨(gt ++ (z108 ++ (z110 ++ (z116 ++ z119)))), ?_⟩, (show x118.length = n0 by first | assumption | (simp only [llA, lrA]; first | done | assumption | omega) | omega)⟩
  rotate_left
  simp only [h107, if_false] at hr
  obtain ⟨x120, h109, hr⟩ := bsome hr
  obtain ⟨z121, h109k, h109l0⟩ := hrec (g1 := g1) (v0 := v0) (n0 := n0) (g2 := (g2 ++ (gt ++ (z108 ++ (z110 ++ z116))))) (show x115.2.2.length = n0 by first | assumption | (simp only [llA, lrA]; first | done | assumption | omega) | omega) h109
  try simp only [go_sem, Nat.reduceAdd, la1, la2, la3, la4, la5, la6] at h109k
  obtain rfl := oiA hr
  refine ⟨⟨(gt ++ (z108 ++ (z110 ++ (z116 ++ z121)))), ?_⟩, (show x120.length = n0 by first | assumption | (simp only [llA, lrA]; first | done | assumption | omega) | omega)⟩
  rotate_left
  simp only [h104, if_false] at hr
  obtain ⟨x122, h110, hr⟩ := bsome hr
  obtain ⟨z123, h110k, h110l0⟩ := qbj9 (g1 := g1) (v0 := v0) (n0 := n0) (g2 := (g2 ++ (gt ++ (z108 ++ z110)))) (show x111.length = n0 by first | assumption | (simp only [llA, lrA]; first | done | assumption | omega) | omega) h110
  try simp only [go_sem, Nat.reduceAdd, la1, la2, la3, la4, la5, la6] at h110k
  obtain rfl := oiA hr
  refine ⟨⟨(gt ++ (z108 ++ (z110 ++ z123))), ?_⟩, (show x122.2.length = n0 by first | assumption | (simp only [llA, lrA]; first | done | assumption | omega) | omega)⟩
  rotate_left
  simp only [h100, if_false] at hr
  obtain ⟨x124, h111, hr⟩ := bsome hr
  obtain ⟨z125, h111k, h111l0⟩ := qE9 (g1 := g1) (v0 := v0) (n0 := n0) (g2 := (g2 ++ (gt ++ (z108 ++ z110)))) (show x111.length = n0 by first | assumption | (simp only [llA, lrA]; first | done | assumption | omega) | omega) h111
  try simp only [go_sem, Nat.reduceAdd, la1, la2, la3, la4, la5, la6] at h111k
  obtain ⟨x126, h112, hr⟩ := bsome hr
  rcases pcA ((w64 (x124.1 - s1)) < (w64 (s2 - x124.1))) with h113 | h113
  simp only [h113, if_true] at hr
  obtain ⟨x127, h114, hr⟩ := bsome hr
  obtain ⟨z128, h114k, h114l0⟩ := hrec (g1 := g1) (v0 := v0) (n0 := n0) (g2 := (g2 ++ (gt ++ (z108 ++ (z110 ++ z125))))) (show x124.2.2.length = n0 by first | assumption | (simp only [llA, lrA]; first | done | assumption | omega) | omega) h114
  try simp only [go_sem, Nat.reduceAdd, la1, la2, la3, la4, la5, la6] at h114k
  obtain rfl := oiA hr
  refine ⟨⟨(gt ++ (z108 ++ (z110 ++ (z125 ++ z128)))), ?_⟩, (show x127.length = n0 by first | assumption | (simp only [llA, lrA]; first | done | assumption | omega) | omega)⟩
  rotate_left
  simp only [h113, if_false] at hr
  obtain ⟨x129, h115, hr⟩ := bsome hr
  obtain ⟨z130, h115k, h115l0⟩ := hrec (g1 := g1) (v0 := v0) (n0 := n0) (g2 := (g2 ++ (gt ++ (z108 ++ (z110 ++ z125))))) (show x124.2.2.length = n0 by first | assumption | (simp only [llA, lrA]; first | done | assumption | omega) | omega) h115
  try simp only [go_sem, Nat.reduceAdd, la1, la2, la3, la4, la5, la6] at h115k
  obtain rfl := oiA hr
  refine ⟨⟨(gt ++ (z108 ++ (z110 ++ (z125 ++ z130)))), ?_⟩, (show x129.length = n0 by first | assumption | (simp only [llA, lrA]; first | done | assumption | omega) | omega)⟩
  rotate_left
  simp only [h98, if_false] at hr
  rcases pcA (0 < s1) with h116 | h116
  simp only [h116, if_true] at hr
  obtain ⟨x131, h117, hr⟩ := bsome hr
  have h117a := eq_true (qc9 h117).1
  have h117b : ((w64 (s1 - 1)) < (n0 : Int)) = True := eq_true (by have hb : (w64 (s1 - 1)) < (x107.length : Int) := (qc9 h117).2.1; omega)
  have h117c := (qc9 h117).2.2
  obtain ⟨x132, h118, hr⟩ := bsome hr
  have h118a := eq_true (qc9 h118).1
  have h118b : (x109.1 < (n0 : Int)) = True := eq_true (by have hb : x109.1 < (x107.length : Int) := (qc9 h118).2.1; omega)
  have h118c := (qc9 h118).2.2
  obtain ⟨x133, h119, hr⟩ := bsome hr
  have h119k := fun h => qv9 (h := h) (args := [.ag [PI x131.Var, .d (.rd (x131.T.map intD))], .ag [PI x132.Var, .d (.rd (x132.T.map intD))]]) h119 rfl
  try simp only [go_sem] at h119k
  rcases pcA (x133 < 0) with h120 | h120
  simp only [h120, if_true] at hr
  obtain ⟨x134, h121, hr⟩ := bsome hr
  obtain ⟨z135, h121k, h121l0⟩ := qE9 (g1 := g1) (v0 := v0) (n0 := n0) (g2 := (g2 ++ (gt ++ (z108 ++ z110)))) (show x107.length = n0 by first | assumption | (simp only [llA, lrA]; first | done | assumption | omega) | omega) h121
  try simp only [go_sem, Nat.reduceAdd, la1, la2, la3, la4, la5, la6] at h121k
  obtain ⟨x136, h122, hr⟩ := bsome hr
  rcases pcA ((w64 (x134.1 - s1)) < (w64 (s2 - x134.1))) with h123 | h123
  simp only [h123, if_true] at hr
  obtain ⟨x137, h124, hr⟩ := bsome hr
  obtain ⟨z138, h124k, h124l0⟩ := hrec (g1 := g1) (v0 := v0) (n0 := n0) (g2 := (g2 ++ (gt ++ (z108 ++ (z110 ++ z135))))) (show x134.2.2.length = n0 by first | assumption | (simp only [llA, lrA]; first | done | assumption | omega) | omega) h124
  try simp only [go_sem, Nat.reduceAdd, la1, la2, la3, la4, la5, la6] at h124k
  obtain rfl := oiA hr
  refine ⟨⟨(gt ++ (z108 ++ (z110 ++ (z135 ++ z138)))), ?_⟩, (show x137.length = n0 by first | assumption | (simp only [llA, lrA]; first | done | assumption | omega) | omega)⟩
  rotate_left
  simp only [h123, if_false] at hr
  obtain ⟨x139, h125, hr⟩ := bsome hr
  obtain ⟨z140, h125k, h125l0⟩ := hrec (g1 := g1) (v0 := v0) (n0 := n0) (g2 := (g2 ++ (gt ++ (z108 ++ (z110 ++ z135))))) (show x134.2.2.length = n0 by first | assumption | (simp only [llA, lrA]; first | done | assumption | omega) | omega) h125
  try simp only [go_sem, Nat.reduceAdd, la1, la2, la3, la4, la5, la6] at h125k
  obtain rfl := oiA hr
  refine ⟨⟨(gt ++ (z108 ++ (z110 ++ (z135 ++ z140)))), ?_⟩, (show x139.length = n0 by first | assumption | (simp only [llA, lrA]; first | done | assumption | omega) | omega)⟩
  rotate_left
  simp only [h120, if_false] at hr
  obtain ⟨x141, h126, hr⟩ := bsome hr
  obtain ⟨z142, h126k, h126l0⟩ := qbj9 (g1 := g1) (v0 := v0) (n0 := n0) (g2 := (g2 ++ (gt ++ (z108 ++ z110)))) (show x107.length = n0 by first | assumption | (simp only [llA, lrA]; first | done | assumption | omega) | omega) h126
  try simp only [go_sem, Nat.reduceAdd, la1, la2, la3, la4, la5, la6] at h126k
  obtain rfl := oiA hr
  refine ⟨⟨(gt ++ (z108 ++ (z110 ++ z142))), ?_⟩, (show x141.2.length = n0 by first | assumption | (simp only [llA, lrA]; first | done | assumption | omega) | omega)⟩
  rotate_left
  simp only [h116, if_false] at hr
  obtain ⟨x143, h127, hr⟩ := bsome hr
  obtain ⟨z144, h127k, h127l0⟩ := qE9 (g1 := g1) (v0 := v0) (n0 := n0) (g2 := (g2 ++ (gt ++ (z108 ++ z110)))) (show x107.length = n0 by first | assumption | (simp only [llA, lrA]; first | done | assumption | omega) | omega) h127
  try simp only [go_sem, Nat.reduceAdd, la1, la2, la3, la4, la5, la6] at h127k
  obtain ⟨x145, h128, hr⟩ := bsome hr
  rcases pcA ((w64 (x143.1 - s1)) < (w64 (s2 - x143.1))) with h129 | h129
  simp only [h129, if_true] at hr
  obtain ⟨x146, h130, hr⟩ := bsome hr
  obtain ⟨z147, h130k, h130l0⟩ := hrec (g1 := g1) (v0 := v0) (n0 := n0) (g2 := (g2 ++ (gt ++ (z108 ++ (z110 ++ z144))))) (show x143.2.2.length = n0 by first | assumption | (simp only [llA, lrA]; first | done | assumption | omega) | omega) h130
  try simp only [go_sem, Nat.reduceAdd, la1, la2, la3, la4, la5, la6] at h130k
  obtain rfl := oiA hr
  refine ⟨⟨(gt ++ (z108 ++ (z110 ++ (z144 ++ z147)))), ?_⟩, (show x146.length = n0 by first | assumption | (simp only [llA, lrA]; first | done | assumption | omega) | omega)⟩
  rotate_left
  simp only [h129, if_false] at hr
  obtain ⟨x148, h131, hr⟩ := bsome hr
  obtain ⟨z149, h131k, h131l0⟩ := hrec (g1 := g1) (v0 := v0) (n0 := n0) (g2 := (g2 ++ (gt ++ (z108 ++ (z110 ++ z144))))) (show x143.2.2.length = n0 by first | assumption | (simp only [llA, lrA]; first | done | assumption | omega) | omega) h131
  try simp only [go_sem, Nat.reduceAdd, la1, la2, la3, la4, la5, la6] at h131k
  obtain rfl := oiA hr
  refine ⟨⟨(gt ++ (z108 ++ (z110 ++ (z144 ++ z149)))), ?_⟩, (show x148.length = n0 by first | assumption | (simp only [llA, lrA]; first | done | assumption | omega) | omega)⟩
  rotate_left
  simp only [h5, if_true] at hr
  obtain ⟨x5, h6, hr⟩ := bsome hr
  obtain ⟨z6, h6k⟩ := qgo9 (g1 := g1) (v0 := v0) (n0 := n0) (g2 := (g2 ++ gt)) (show o0.length = n0 by first | assumption | (simp only [llA, lrA]; first | done | assumption | omega) | omega) h6
  try simp only [go_sem, Nat.reduceAdd, la1, la2, la3, la4, la5, la6] at h6k
  rcases pcA (x5.2 = 2) with h7 | h7
  simp only [h7, if_true] at hr
  obtain ⟨x7, h8, hr⟩ := bsome hr
  obtain ⟨h8k, h8l0⟩ := qfX9 (g1 := g1) (v0 := v0) (n0 := n0) (g2 := (g2 ++ (gt ++ z6))) (show o0.length = n0 by first | assumption | (simp only [llA, lrA]; first | done | assumption | omega) | omega) h8
  try simp only [go_sem, Nat.reduceAdd, la1, la2, la3, la4, la5, la6] at h8k
  cases h9 : s11
  simp only [h9, Bool.false_eq_true, if_false] at hr
  rcases pcA (0 < s1) with h28 | h28
  simp only [h28, if_true] at hr
  obtain ⟨x29, h29, hr⟩ := bsome hr
  have h29a := eq_true (qc9 h29).1
  have h29b : ((w64 (s1 - 1)) < (n0 : Int)) = True := eq_true (by have hb : (w64 (s1 - 1)) < (x7.length : Int) := (qc9 h29).2.1; omega)
  have h29c := (qc9 h29).2.2
  obtain ⟨x30, h30, hr⟩ := bsome hr
  have h30a := eq_true (qc9 h30).1
  have h30b : ((w64 ((w64 (s2 - 1)) - (w64 (x5.1 - s1)))) < (n0 : Int)) = True := eq_true (by have hb : (w64 ((w64 (s2 - 1)) - (w64 (x5.1 - s1)))) < (x7.length : Int) := (qc9 h30).2.1; omega)
  have h30c := (qc9 h30).2.2
  obtain ⟨x31, h31, hr⟩ := bsome hr
  have h31k := fun h => qv9 (h := h) (args := [.ag [PI x29.Var, .d (.rd (x29.T.map intD))], .ag [PI x30.Var, .d (.rd (x30.T.map intD))]]) h31 rfl
  try simp only [go_sem] at h31k
  rcases pcA (x31 < 0) with h32 | h32
  simp only [h32, if_true] at hr
  obtain ⟨x32, h33, hr⟩ := bsome hr
  obtain ⟨z33, h33k, h33l0⟩ := qE9 (g1 := g1) (v0 := v0) (n0 := n0) (g2 := (g2 ++ (gt ++ z6))) (show x7.length = n0 by first | assumption | (simp only [llA, lrA]; first | done | assumption | omega) | omega) h33
  try simp only [go_sem, Nat.reduceAdd, la1, la2, la3, la4, la5, la6] at h33k
  obtain ⟨x34, h34, hr⟩ := bsome hr
  rcases pcA ((w64 (x32.1 - s1)) < (w64 (s2 - x32.1))) with h35 | h35
  simp only [h35, if_true] at hr
  obtain ⟨x35, h36, hr⟩ := bsome hr
  obtain ⟨z36, h36k, h36l0⟩ := hrec (g1 := g1) (v0 := v0) (n0 := n0) (g2 := (g2 ++ (gt ++ (z6 ++ z33)))) (show x32.2.2.length = n0 by first | assumption | (simp only [llA, lrA]; first | done | assumption | omega) | omega) h36
  try simp only [go_sem, Nat.reduceAdd, la1, la2, la3, la4, la5, la6] at h36k
  obtain rfl := oiA hr
  refine ⟨⟨(gt ++ (z6 ++ (z33 ++ z36))), ?_⟩, (show x35.length = n0 by first | assumption | (simp only [llA, lrA]; first | done | assumption | omega) | omega)⟩
  rotate_left
  simp only [h35, if_false] at hr
  obtain ⟨x37, h37, hr⟩ := bsome hr
  obtain ⟨z38, h37k, h37l0⟩ := hrec (g1 := g1) (v0 := v0) (n0 := n0) (g2 := (g2 ++ (gt ++ (z6 ++ z33)))) (show x32.2.2.length = n0 by first | assumption | (simp only [llA, lrA]; first | done | assumption | omega) | omega) h37
  try simp only [go_sem, Nat.reduceAdd, la1, la2, la3, la4, la5, la6] at h37k
  obtain rfl := oiA hr
  refine ⟨⟨(gt ++ (z6 ++ (z33 ++ z38))), ?_⟩, (show x37.length = n0 by first | assumption | (simp only [llA, lrA]; first | done | assumption | omega) | omega)⟩
  rotate_left
  simp only [h32, if_false] at hr
  obtain ⟨x39, h38, hr⟩ := bsome hr
  obtain ⟨z40, h38k, h38l0⟩ := qbj9 (g1 := g1) (v0 := v0) (n0 := n0) (g2 := (g2 ++ (gt ++ z6))) (show x7.length = n0 by first | assumption | (simp only [llA, lrA]; first | done | assumption | omega) | omega) h38
  try simp only [go_sem, Nat.reduceAdd, la1, la2, la3, la4, la5, la6] at h38k
  obtain rfl := oiA hr
  refine ⟨⟨(gt ++ (z6 ++ z40)), ?_⟩, (show x39.2.length = n0 by first | assumption | (simp only [llA, lrA]; first | done | assumption | omega) | omega)⟩
  rotate_left
  simp only [h28, if_false] at hr
  obtain ⟨x41, h39, hr⟩ := bsome hr
  obtain ⟨z42, h39k, h39l0⟩ := qE9 (g1 := g1) (v0 := v0) (n0 := n0) (g2 := (g2 ++ (gt ++ z6))) (show x7.length = n0 by first | assumption | (simp only [llA, lrA]; first | done | assumption | omega) | omega) h39
  try simp only [go_sem, Nat.reduceAdd, la1, la2, la3, la4, la5, la6] at h39k
  obtain ⟨x43, h40, hr⟩ := bsome hr
  rcases pcA ((w64 (x41.1 - s1)) < (w64 (s2 - x41.1))) with h41 | h41
  simp only [h41, if_true] at hr
  obtain ⟨x44, h42, hr⟩ := bsome hr
  obtain ⟨z45, h42k, h42l0⟩ := hrec (g1 := g1) (v0 := v0) (n0 := n0) (g2 := (g2 ++ (gt ++ (z6 ++ z42)))) (show x41.2.2.length = n0 by first | assumption | (simp only [llA, lrA]; first | done | assumption | omega) | omega) h42
  try simp only [go_sem, Nat.reduceAdd, la1, la2, la3, la4, la5, la6] at h42k
  obtain rfl := oiA hr
  refine ⟨⟨(gt ++ (z6 ++ (z42 ++ z45))), ?_⟩, (show x44.length = n0 by first | assumption | (simp only [llA, lrA]; first | done | assumption | omega) | omega)⟩
  rotate_left
  simp only [h41, if_false] at hr
  obtain ⟨x46, h43, hr⟩ := bsome hr
  obtain ⟨z47, h43k, h43l0⟩ := hrec (g1 := g1) (v0 := v0) (n0 := n0) (g2 := (g2 ++ (gt ++ (z6 ++ z42)))) (show x41.2.2.length = n0 by first | assumption | (simp only [llA, lrA]; first | done | assumption | omega) | omega) h43
  try simp only [go_sem, Nat.reduceAdd, la1, la2, la3, la4, la5, la6] at h43k
  obtain rfl := oiA hr
  refine ⟨⟨(gt ++ (z6 ++ (z42 ++ z47))), ?_⟩, (show x46.length = n0 by first | assumption | (simp only [llA, lrA]; first | done | assumption | omega) | omega)⟩
  rotate_left
  simp only [h9, if_true] at hr
  obtain ⟨x8, h10, hr⟩ := bsome hr
  obtain ⟨z9, h10k, h10l0⟩ := qeG9 (g1 := g1) (v0 := v0) (n0 := n0) (g2 := (g2 ++ (gt ++ z6))) (show x7.length = n0 by first | assumption | (simp only [llA, lrA]; first | done | assumption | omega) | omega) h10
  try simp only [go_sem, Nat.reduceAdd, la1, la2, la3, la4, la5, la6] at h10k
  cases h11 : x8.1
  simp only [h11, Bool.false_eq_true, if_false] at hr
  rcases pcA (0 < s1) with h12 | h12
  simp only [h12, if_true] at hr
  obtain ⟨x10, h13, hr⟩ := bsome hr
  have h13a := eq_true (qc9 h13).1
  have h13b : ((w64 (s1 - 1)) < (n0 : Int)) = True := eq_true (by have hb : (w64 (s1 - 1)) < (x8.2.length : Int) := (qc9 h13).2.1; omega)
  have h13c := (qc9 h13).2.2
  obtain ⟨x11, h14, hr⟩ := bsome hr
  have h14a := eq_true (qc9 h14).1
  have h14b : ((w64 ((w64 (s2 - 1)) - (w64 (x5.1 - s1)))) < (n0 : Int)) = True := eq_true (by have hb : (w64 ((w64 (s2 - 1)) - (w64 (x5.1 - s1)))) < (x8.2.length : Int) := (qc9 h14).2.1; omega)
  have h14c := (qc9 h14).2.2
  obtain ⟨x12, h15, hr⟩ := bsome hr
  have h15k := fun h => qv9 (h := h) (args := [.ag [PI x10.Var, .d (.rd (x10.T.map intD))], .ag [PI x11.Var, .d (.rd (x11.T.map intD))]]) h15 rfl
  try simp only [go_sem] at h15k
  rcases pcA (x12 < 0) with h16 | h16
  simp only [h16, if_true] at hr
  obtain ⟨x13, h17, hr⟩ := bsome hr
  obtain ⟨z14, h17k, h17l0⟩ := qE9 (g1 := g1) (v0 := v0) (n0 := n0) (g2 := (g2 ++ (gt ++ (z6 ++ z9)))) (show x8.2.length = n0 by first | assumption | (simp only [llA, lrA]; first | done | assumption | omega) | omega) h17
  try simp only [go_sem, Nat.reduceAdd, la1, la2, la3, la4, la5, la6] at h17k
  obtain ⟨x15, h18, hr⟩ := bsome hr
  rcases pcA ((w64 (x13.1 - s1)) < (w64 (s2 - x13.1))) with h19 | h19
  simp only [h19, if_true] at hr
  obtain ⟨x16, h20, hr⟩ := bsome hr
  obtain ⟨z17, h20k, h20l0⟩ := hrec (g1 := g1) (v0 := v0) (n0 := n0) (g2 := (g2 ++ (gt ++ (z6 ++ (z9 ++ z14))))) (show x13.2.2.length = n0 by first | assumption | (simp only [llA, lrA]; first | done | assumption | omega) | omega) h20
  try simp only [go_sem, Nat.reduceAdd, la1, la2, la3, la4, la5, la6] at h20k
  obtain rfl := oiA hr
  refine ⟨⟨(gt ++ (z6 ++ (z9 ++ (z14 ++ z17)))), ?_⟩, (show x16.length = n0 by first | assumption | (simp only [llA, lrA]; first | done | assumption | omega) | omega)⟩
  rotate_left
  simp only [h19, if_false] at hr
  obtain ⟨x18, h21, hr⟩ := bsome hr
  obtain ⟨z19, h21k, h21l0⟩ := hrec (g1 := g1) (v0 := v0) (n0 := n0) (g2 := (g2 ++ (gt ++ (z6 ++ (z9 ++ z14))))) (show x13.2.2.length = n0 by first | assumption | (simp only [llA, lrA]; first | done | assumption | omega) | omega) h21
  try simp only [go_sem, Nat.reduceAdd, la1, la2, la3, la4, la5, la6] at h21k
  obtain rfl := oiA hr
  refine ⟨⟨(gt ++ (z6 ++ (z9 ++ (z14 ++ z19)))), ?_⟩, (show x18.length = n0 by first | assumption | (simp only [llA, lrA]; first | done | assumption | omega) | omega)⟩
  rotate_left
  simp only [h16, if_false] at hr
  obtain ⟨x20, h22, hr⟩ := bsome hr
  obtain ⟨z21, h22k, h22l0⟩ := qbj9 (g1 := g1) (v0 := v0) (n0 := n0) (g2 := (g2 ++ (gt ++ (z6 ++ z9)))) (show x8.2.length = n0 by first | assumption | (simp only [llA, lrA]; first | done | assumption | omega) | omega) h22
  try simp only [go_sem, Nat.reduceAdd, la1, la2, la3, la4, la5, la6] at h22k
  obtain rfl := oiA hr
  refine ⟨⟨(gt ++ (z6 ++ (z9 ++ z21))), ?_⟩, (show x20.2.length = n0 by first | assumption | (simp only [llA, lrA]; first | done | assumption | omega) | omega)⟩
  rotate_left
  simp only [h12, if_false] at hr
  obtain ⟨x22, h23, hr⟩ := bsome hr
  obtain ⟨z23, h23k, h23l0⟩ := qE9 (g1 := g1) (v0 := v0) (n0 := n0) (g2 := (g2 ++ (gt ++ (z6 ++ z9)))) (show x8.2.length = n0 by first | assumption | (simp only [llA, lrA]; first | done | assumption | omega) | omega) h23
  try simp only [go_sem, Nat.reduceAdd, la1, la2, la3, la4, la5, la6] at h23k
  obtain ⟨x24, h24, hr⟩ := bsome hr
  rcases pcA ((w64 (x22.1 - s1)) < (w64 (s2 - x22.1))) with h25 | h25
  simp only [h25, if_true] at hr
  obtain ⟨x25, h26, hr⟩ := bsome hr
  obtain ⟨z26, h26k, h26l0⟩ := hrec (g1 := g1) (v0 := v0) (n0 := n0) (g2 := (g2 ++ (gt ++ (z6 ++ (z9 ++ z23))))) (show x22.2.2.length = n0 by first | assumption | (simp only [llA, lrA]; first | done | assumption | omega) | omega) h26
  try simp only [go_sem, Nat.reduceAdd, la1, la2, la3, la4, la5, la6] at h26k
  obtain rfl := oiA hr
  refine ⟨⟨(gt ++ (z6 ++ (z9 ++ (z23 ++ z26)))), ?_⟩, (show x25.length = n0 by first | assumption | (simp only [llA, lrA]; first | done | assumption | omega) | omega)⟩
  rotate_left
  simp only [h25, if_false] at hr
  obtain ⟨x27, h27, hr⟩ := bsome hr
  obtain ⟨z28, h27k, h27l0⟩ := hrec (g1 := g1) (v0 := v0) (n0 := n0) (g2 := (g2 ++ (gt ++ (z6 ++ (z9 ++ z23))))) (show x22.2.2.length = n0 by first | assumption | (simp only [llA, lrA]; first | done | assumption | omega) | omega) h27
  try simp only [go_sem, Nat.reduceAdd, la1, la2, la3, la4, la5, la6] at h27k
  obtain rfl := oiA hr
  refine ⟨⟨(gt ++ (z6 ++ (z9 ++ (z23 ++ z28)))), ?_⟩, (show x27.length = n0 by first | assumption | (simp only [llA, lrA]; first | done | assumption | omega) | omega)⟩
  rotate_left
  simp only [h11, if_true] at hr
  obtain rfl := oiA hr
  refine ⟨(.ret, ⟨[(0, .ref g1.length v0 0 n0), (1, PI s1), (2, PI s2), (3, PI s3), (4, .fn 84 []), (10, PB s10), (11, PB s11), (12, PI (w64 (s2 - s1))), (13, PI (w64 ((w64 (s2 - 1)) - (w64 (x5.1 - s1))))), (14, PI 1)], (g1 ++ (.row false v0 2 (rowP qb9 x8.2) :: (g2 ++ (gt ++ (z6 ++ z9)))))⟩), ?_, nofun, rfl, (gt ++ (z6 ++ z9)), rfl, rfl, (show x8.2.length = n0 by first | assumption | (simp only [llA, lrA]; first | done | assumption | omega) | omega)⟩
  rotate_left
  simp only [h7, if_false] at hr
  cases h44 : s11
  simp only [h44, Bool.false_eq_true, if_false] at hr
  rcases pcA (0 < s1) with h80 | h80
  simp only [h80, if_true] at hr
  obtain ⟨x88, h81, hr⟩ := bsome hr
  have h81a := eq_true (qc9 h81).1
  have h81b : ((w64 (s1 - 1)) < (n0 : Int)) = True := eq_true (by have hb : (w64 (s1 - 1)) < (o0.length : Int) := (qc9 h81).2.1; omega)
  have h81c := (qc9 h81).2.2
  obtain ⟨x89, h82, hr⟩ := bsome hr
  have h82a := eq_true (qc9 h82).1
  have h82b : (x5.1 < (n0 : Int)) = True := eq_true (by have hb : x5.1 < (o0.length : Int) := (qc9 h82).2.1; omega)
  have h82c := (qc9 h82).2.2
  obtain ⟨x90, h83, hr⟩ := bsome hr
  have h83k := fun h => qv9 (h := h) (args := [.ag [PI x88.Var, .d (.rd (x88.T.map intD))], .ag [PI x89.Var, .d (.rd (x89.T.map intD))]]) h83 rfl
  try simp only [go_sem] at h83k
  rcases pcA (x90 < 0) with h84 | h84
  simp only [h84, if_true] at hr
  obtain ⟨x91, h85, hr⟩ := bsome hr
  obtain ⟨z92, h85k, h85l0⟩ := qE9 (g1 := g1) (v0 := v0) (n0 := n0) (g2 := (g2 ++ (gt ++ z6))) (show o0.length = n0 by first | assumption | (simp only [llA, lrA]; first | done | assumption | omega) | omega) h85
  try simp only [go_sem, Nat.reduceAdd, la1, la2, la3, la4, la5, la6] at h85k
  obtain ⟨x93, h86, hr⟩ := bsome hr
  rcases pcA ((w64 (x91.1 - s1)) < (w64 (s2 - x91.1))) with h87 | h87
  simp only [h87, if_true] at hr
  obtain ⟨x94, h88, hr⟩ := bsome hr
  obtain ⟨z95, h88k, h88l0⟩ := hrec (g1 := g1) (v0 := v0) (n0 := n0) (g2 := (g2 ++ (gt ++ (z6 ++ z92)))) (show x91.2.2.length = n0 by first | assumption | (simp only [llA, lrA]; first | done | assumption | omega) | omega) h88
  try simp only [go_sem, Nat.reduceAdd, la1, la2, la3, la4, la5, la6] at h88k
  obtain rfl := oiA hr
  refine ⟨⟨(gt ++ (z6 ++ (z92 ++ z95))), ?_⟩, (show x94.length = n0 by first | assumption | (simp only [llA, lrA]; first | done | assumption | omega) | omega)⟩
  rotate_left
  simp only [h87, if_false] at hr
  obtain ⟨x96, h89, hr⟩ := bsome hr
  obtain ⟨z97, h89k, h89l0⟩ := hrec (g1 := g1) (v0 := v0) (n0 := n0) (g2 := (g2 ++ (gt ++ (z6 ++ z92)))) (show x91.2.2.length = n0 by first | assumption | (simp only [llA, lrA]; first | done | assumption | omega) | omega) h89
  try simp only [go_sem, Nat.reduceAdd, la1, la2, la3, la4, la5, la6] at h89k
  obtain rfl := oiA hr
  refine ⟨⟨(gt ++ (z6 ++ (z92 ++ z97))), ?_⟩, (show x96.length = n0 by first | assumption | (simp only [llA, lrA]; first | done | assumption | omega) | omega)⟩
  rotate_left
  simp only [h84, if_false] at hr
  obtain ⟨x98, h90, hr⟩ := bsome hr
  obtain ⟨z99, h90k, h90l0⟩ := qbj9 (g1 := g1) (v0 := v0) (n0 := n0) (g2 := (g2 ++ (gt ++ z6))) (show o0.length = n0 by first | assumption | (simp only [llA, lrA]; first | done | assumption | omega) | omega) h90
  try simp only [go_sem, Nat.reduceAdd, la1, la2, la3, la4, la5, la6] at h90k
  obtain rfl := oiA hr
  refine ⟨⟨(gt ++ (z6 ++ z99)), ?_⟩, (show x98.2.length = n0 by first | assumption | (simp only [llA, lrA]; first | done | assumption | omega) | omega)⟩
  rotate_left
  simp only [h80, if_false] at hr
  obtain ⟨x100, h91, hr⟩ := bsome hr
  obtain ⟨z101, h91k, h91l0⟩ := qE9 (g1 := g1) (v0 := v0) (n0 := n0) (g2 := (g2 ++ (gt ++ z6))) (show o0.length = n0 by first | assumption | (simp only [llA, lrA]; first | done | assumption | omega) | omega) h91
  try simp only [go_sem, Nat.reduceAdd, la1, la2, la3, la4, la5, la6] at h91k
  obtain ⟨x102, h92, hr⟩ := bsome hr
  rcases pcA ((w64 (x100.1 - s1)) < (w64 (s2 - x100.1))) with h93 | h93
  simp only [h93, if_true] at hr
  obtain ⟨x103, h94, hr⟩ := bsome hr
  obtain ⟨z104, h94k, h94l0⟩ := hrec (g1 := g1) (v0 := v0) (n0 := n0) (g2 := (g2 ++ (gt ++ (z6 ++ z101)))) (show x100.2.2.length = n0 by first | assumption | (simp only [llA, lrA]; first | done | assumption | omega) | omega) h94
  try simp only [go_sem, Nat.reduceAdd, la1, la2, la3, la4, la5, la6] at h94k
  obtain rfl := oiA hr
  refine ⟨⟨(gt ++ (z6 ++ (z101 ++ z104))), ?_⟩, (show x103.length = n0 by first | assumption | (simp only [llA, lrA]; first | done | assumption | omega) | omega)⟩
  rotate_left
  simp only [h93, if_false] at hr
  obtain ⟨x105, h95, hr⟩ := bsome hr
  obtain ⟨z106, h95k, h95l0⟩ := hrec (g1 := g1) (v0 := v0) (n0 := n0) (g2 := (g2 ++ (gt ++ (z6 ++ z101)))) (show x100.2.2.length = n0 by first | assumption | (simp only [llA, lrA]; first | done | assumption | omega) | omega) h95
  try simp only [go_sem, Nat.reduceAdd, la1, la2, la3, la4, la5, la6] at h95k
  obtain rfl := oiA hr
  refine ⟨⟨(gt ++ (z6 ++ (z101 ++ z106))), ?_⟩, (show x105.length = n0 by first | assumption | (simp only [llA, lrA]; first | done | assumption | omega) | omega)⟩
  rotate_left
  simp only [h44, if_true] at hr
  rcases pcA (x5.2 = 1) with h45 | h45
  simp only [h45, if_true] at hr
  obtain ⟨x48, h46, hr⟩ := bsome hr
  obtain ⟨z49, h46k, h46l0⟩ := qeG9 (g1 := g1) (v0 := v0) (n0 := n0) (g2 := (g2 ++ (gt ++ z6))) (show o0.length = n0 by first | assumption | (simp only [llA, lrA]; first | done | assumption | omega) | omega) h46
  try simp only [go_sem, Nat.reduceAdd, la1, la2, la3, la4, la5, la6] at h46k
  cases h47 : x48.1
  simp only [h47, Bool.false_eq_true, if_false] at hr
  rcases pcA (0 < s1) with h48 | h48
  simp only [h48, if_true] at hr
  obtain ⟨x50, h49, hr⟩ := bsome hr
  have h49a := eq_true (qc9 h49).1
  have h49b : ((w64 (s1 - 1)) < (n0 : Int)) = True := eq_true (by have hb : (w64 (s1 - 1)) < (x48.2.length : Int) := (qc9 h49).2.1; omega)
  have h49c := (qc9 h49).2.2
  obtain ⟨x51, h50, hr⟩ := bsome hr
  have h50a := eq_true (qc9 h50).1
  have h50b : (x5.1 < (n0 : Int)) = True := eq_true (by have hb : x5.1 < (x48.2.length : Int) := (qc9 h50).2.1; omega)
  have h50c := (qc9 h50).2.2
  obtain ⟨x52, h51, hr⟩ := bsome hr
  have h51k := fun h => qv9 (h := h) (args := [.ag [PI x50.Var, .d (.rd (x50.T.map intD))], .ag [PI x51.Var, .d (.rd (x51.T.map intD))]]) h51 rfl
  try simp only [go_sem] at h51k
  rcases pcA (x52 < 0) with h52 | h52
  simp only [h52, if_true] at hr
  obtain ⟨x53, h53, hr⟩ := bsome hr
  obtain ⟨z54, h53k, h53l0⟩ := qE9 (g1 := g1) (v0 := v0) (n0 := n0) (g2 := (g2 ++ (gt ++ (z6 ++ z49)))) (show x48.2.length = n0 by first | assumption | (simp only [llA, lrA]; first | done | assumption | omega) | omega) h53
  try simp only [go_sem, Nat.reduceAdd, la1, la2, la3, la4, la5, la6] at h53k
  obtain ⟨x55, h54, hr⟩ := bsome hr
  rcases pcA ((w64 (x53.1 - s1)) < (w64 (s2 - x53.1))) with h55 | h55
  simp only [h55, if_true] at hr
  obtain ⟨x56, h56, hr⟩ := bsome hr
  obtain ⟨z57, h56k, h56l0⟩ := hrec (g1 := g1) (v0 := v0) (n0 := n0) (g2 := (g2 ++ (gt ++ (z6 ++ (z49 ++ z54))))) (show x53.2.2.length = n0 by first | assumption | (simp only [llA, lrA]; first | done | assumption | omega) | omega) h56
  try simp only [go_sem, Nat.reduceAdd, la1, la2, la3, la4, la5, la6] at h56k
  obtain rfl := oiA hr
  refine ⟨⟨(gt ++ (z6 ++ (z49 ++ (z54 ++ z57)))), ?_⟩, (show x56.length = n0 by first | assumption | (simp only [llA, lrA]; first | done | assumption | omega) | omega)⟩
  rotate_left
  simp only [h55, if_false] at hr
  obtain ⟨x58, h57, hr⟩ := bsome hr
  obtain ⟨z59, h57k, h57l0⟩ := hrec (g1 := g1) (v0 := v0) (n0 := n0) (g2 := (g2 ++ (gt ++ (z6 ++ (z49 ++ z54))))) (show x53.2.2.length = n0 by first | assumption | (simp only [llA, lrA]; first | done | assumption | omega) | omega) h57
  try simp only [go_sem, Nat.reduceAdd, la1, la2, la3, la4, la5, la6] at h57k
  obtain rfl := oiA hr
  refine ⟨⟨(gt ++ (z6 ++ (z49 ++ (z54 ++ z59)))), ?_⟩, (show x58.length = n0 by first | assumption | (simp only [llA, lrA]; first | done | assumption | omega) | omega)⟩
  rotate_left
  simp only [h52, if_false] at hr
  obtain ⟨x60, h58, hr⟩ := bsome hr
  obtain ⟨z61, h58k, h58l0⟩ := qbj9 (g1 := g1) (v0 := v0) (n0 := n0) (g2 := (g2 ++ (gt ++ (z6 ++ z49)))) (show x48.2.length = n0 by first | assumption | (simp only [llA, lrA]; first | done | assumption | omega) | omega) h58
  try simp only [go_sem, Nat.reduceAdd, la1, la2, la3, la4, la5, la6] at h58k
  obtain rfl := oiA hr
  refine ⟨⟨(gt ++ (z6 ++ (z49 ++ z61))), ?_⟩, (show x60.2.length = n0 by first | assumption | (simp only [llA, lrA]; first | done | assumption | omega) | omega)⟩
  rotate_left
  simp only [h48, if_false] at hr
  obtain ⟨x62, h59, hr⟩ := bsome hr
  obtain ⟨z63, h59k, h59l0⟩ := qE9 (g1 := g1) (v0 := v0) (n0 := n0) (g2 := (g2 ++ (gt ++ (z6 ++ z49)))) (show x48.2.length = n0 by first | assumption | (simp only [llA, lrA]; first | done | assumption | omega) | omega) h59
  try simp only [go_sem, Nat.reduceAdd, la1, la2, la3, la4, la5, la6] at h59k
  obtain ⟨x64, h60, hr⟩ := bsome hr
  rcases pcA ((w64 (x62.1 - s1)) < (w64 (s2 - x62.1))) with h61 | h61
  simp only [h61, if_true] at hr
  obtain ⟨x65, h62, hr⟩ := bsome hr
  obtain ⟨z66, h62k, h62l0⟩ := hrec (g1 := g1) (v0 := v0) (n0 := n0) (g2 := (g2 ++ (gt ++ (z6 ++ (z49 ++ z63))))) (show x62.2.2.length = n0 by first | assumption | (simp only [llA, lrA]; first | done | assumption | omega) | omega) h62
  try simp only [go_sem, Nat.reduceAdd, la1, la2, la3, la4, la5, la6] at h62k
  obtain rfl := oiA hr
  refine ⟨⟨(gt ++ (z6 ++ (z49 ++ (z63 ++ z66)))), ?_⟩, (show x65.length = n0 by first | assumption | (simp only [llA, lrA]; first | done | assumption | omega) | omega)⟩
  rotate_left
  simp only [h61, if_false] at hr
  obtain ⟨x67, h63, hr⟩ := bsome hr
  obtain ⟨z68, h63k, h63l0⟩ := hrec (g1 := g1) (v0 := v0) (n0 := n0) (g2 := (g2 ++ (gt ++ (z6 ++ (z49 ++ z63))))) (show x62.2.2.length = n0 by first | assumption | (simp only [llA, lrA]; first | done | assumption | omega) | omega) h63
  try simp only [go_sem, Nat.reduceAdd, la1, la2, la3, la4, la5, la6] at h63k
  obtain rfl := oiA hr
  refine ⟨⟨(gt ++ (z6 ++ (z49 ++ (z63 ++ z68)))), ?_⟩, (show x67.length = n0 by first | assumption | (simp only [llA, lrA]; first | done | assumption | omega) | omega)⟩
  rotate_left
  simp only [h47, if_true] at hr
  obtain rfl := oiA hr
  refine ⟨(.ret, ⟨[(0, .ref g1.length v0 0 n0), (1, PI s1), (2, PI s2), (3, PI s3), (4, .fn 84 []), (10, PB s10), (11, PB s11), (12, PI (w64 (s2 - s1))), (13, PI x5.1), (14, PI x5.2)], (g1 ++ (.row false v0 2 (rowP qb9 x48.2) :: (g2 ++ (gt ++ (z6 ++ z49)))))⟩), ?_, nofun, rfl, (gt ++ (z6 ++ z49)), rfl, rfl, (show x48.2.length = n0 by first | assumption | (simp only [llA, lrA]; first | done | assumption | omega) | omega)⟩
  rotate_left
  simp only [h45, if_false] at hr
  rcases pcA (0 < s1) with h64 | h64
  simp only [h64, if_true] at hr
  obtain ⟨x69, h65, hr⟩ := bsome hr
  have h65a := eq_true (qc9 h65).1
  have h65b : ((w64 (s1 - 1)) < (n0 : Int)) = True := eq_true (by have hb : (w64 (s1 - 1)) < (o0.length : Int) := (qc9 h65).2.1; omega)
  have h65c := (qc9 h65).2.2
  obtain ⟨x70, h66, hr⟩ := bsome hr
  have h66a := eq_true (qc9 h66).1
  have h66b : (x5.1 < (n0 : Int)) = True := eq_true (by have hb : x5.1 < (o0.length : Int) := (qc9 h66).2.1; omega)
  have h66c := (qc9 h66).2.2
  obtain ⟨x71, h67, hr⟩ := bsome hr
  have h67k := fun h => qv9 (h := h) (args := [.ag [PI x69.Var, .d (.rd (x69.T.map intD))], .ag [PI x70.Var, .d (.rd (x70.T.map intD))]]) h67 rfl
  try simp only [go_sem] at h67k
  rcases pcA (x71 < 0) with h68 | h68
  simp only [h68, if_true] at hr
  obtain ⟨x72, h69, hr⟩ := bsome hr
  obtain ⟨z73, h69k, h69l0⟩ := qE9 (g1 := g1) (v0 := v0) (n0 := n0) (g2 := (g2 ++ (gt ++ z6))) (show o0.length = n0 by first | assumption | (simp only [llA, lrA]; first | done | assumption | omega) | omega) h69
  try simp only [go_sem, Nat.reduceAdd, la1, la2, la3, la4, la5, la6] at h69k
  obtain ⟨x74, h70, hr⟩ := bsome hr
  rcases pcA ((w64 (x72.1 - s1)) < (w64 (s2 - x72.1))) with h71 | h71
  simp only [h71, if_true] at hr
  obtain ⟨x75, h72, hr⟩ := bsome hr
  obtain ⟨z76, h72k, h72l0⟩ := hrec (g1 := g1) (v0 := v0) (n0 := n0) (g2 := (g2 ++ (gt ++ (z6 ++ z73)))) (show x72.2.2.length = n0 by first | assumption | (simp only [llA, lrA]; first | done | assumption | omega) | omega) h72
  try simp only [go_sem, Nat.reduceAdd, la1, la2, la3, la4, la5, la6] at h72k
  obtain rfl := oiA hr
  refine ⟨⟨(gt ++ (z6 ++ (z73 ++ z76))), ?_⟩, (show x75.length = n0 by first | assumption | (simp only [llA, lrA]; first | done | assumption | omega) | omega)⟩
  rotate_left
  simp only [h71, if_false] at hr
  obtain ⟨x77, h73, hr⟩ := bsome hr
  obtain ⟨z78, h73k, h73l0⟩ := hrec (g1 := g1) (v0 := v0) (n0 := n0) (g2 := (g2 ++ (gt ++ (z6 ++ z73)))) (show x72.2.2.length = n0 by first | assumption | (simp only [llA, lrA]; first | done | assumption | omega) | omega) h73
  try simp only [go_sem, Nat.reduceAdd, la1, la2, la3, la4, la5, la6] at h73k
  obtain rfl := oiA hr
  refine ⟨⟨(gt ++ (z6 ++ (z73 ++ z78))), ?_⟩, (show x77.length = n0 by first | assumption | (simp only [llA, lrA]; first | done | assumption | omega) | omega)⟩
  rotate_left
  simp only [h68, if_false] at hr
  obtain ⟨x79, h74, hr⟩ := bsome hr
  obtain ⟨z80, h74k, h74l0⟩ := qbj9 (g1 := g1) (v0 := v0) (n0 := n0) (g2 := (g2 ++ (gt ++ z6))) (show o0.length = n0 by first | assumption | (simp only [llA, lrA]; first | done | assumption | omega) | omega) h74
  try simp only [go_sem, Nat.reduceAdd, la1, la2, la3, la4, la5, la6] at h74k
  obtain rfl := oiA hr
  refine ⟨⟨(gt ++ (z6 ++ z80)), ?_⟩, (show x79.2.length = n0 by first | assumption | (simp only [llA, lrA]; first | done | assumption | omega) | omega)⟩
  rotate_left
  simp only [h64, if_false] at hr
  obtain ⟨x81, h75, hr⟩ := bsome hr
  obtain ⟨z82, h75k, h75l0⟩ := qE9 (g1 := g1) (v0 := v0) (n0 := n0) (g2 := (g2 ++ (gt ++ z6))) (show o0.length = n0 by first | assumption | (simp only [llA, lrA]; first | done | assumption | omega) | omega) h75
  try simp only [go_sem, Nat.reduceAdd, la1, la2, la3, la4, la5, la6] at h75k
  obtain ⟨x83, h76, hr⟩ := bsome hr
  rcases pcA ((w64 (x81.1 - s1)) < (w64 (s2 - x81.1))) with h77 | h77
  simp only [h77, if_true] at hr
  obtain ⟨x84, h78, hr⟩ := bsome hr
  obtain ⟨z85, h78k, h78l0⟩ := hrec (g1 := g1) (v0 := v0) (n0 := n0) (g2 := (g2 ++ (gt ++ (z6 ++ z82)))) (show x81.2.2.length = n0 by first | assumption | (simp only [llA, lrA]; first | done | assumption | omega) | omega) h78
  try simp only [go_sem, Nat.reduceAdd, la1, la2, la3, la4, la5, la6] at h78k
  obtain rfl := oiA hr
  refine ⟨⟨(gt ++ (z6 ++ (z82 ++ z85))), ?_⟩, (show x84.length = n0 by first | assumption | (simp only [llA, lrA]; first | done | assumption | omega) | omega)⟩
  rotate_left
  simp only [h77, if_false] at hr
  obtain ⟨x86, h79, hr⟩ := bsome hr
  obtain ⟨z87, h79k, h79l0⟩ := hrec (g1 := g1) (v0 := v0) (n0 := n0) (g2 := (g2 ++ (gt ++ (z6 ++ z82)))) (show x81.2.2.length = n0 by first | assumption | (simp only [llA, lrA]; first | done | assumption | omega) | omega) h79
  try simp only [go_sem, Nat.reduceAdd, la1, la2, la3, la4, la5, la6] at h79k
  obtain rfl := oiA hr
  refine ⟨⟨(gt ++ (z6 ++ (z82 ++ z87))), ?_⟩, (show x86.length = n0 by first | assumption | (simp only [llA, lrA]; first | done | assumption | omega) | omega)⟩
  rotate_left
  all_goals (simp +decide only [go_sem, Int.reduceToNat, Nat.reduceAdd, Nat.reduceLT, Nat.reduceMul, Nat.reducePow, reduceCtorEq, qcJ9, qlL9, *])
theorem qkH9 {rec : Int × Int × Int × (List Bind) → Option ((List Bind))} (hrec : ∀ {s1 : Int} {s2 : Int} {s3 : Int} {o0 : List Bind} {g1 : AHeap} {v0 : Nat} {n0 : Nat} {g2 : AHeap} (hln0 : o0.length = n0) {r : (List Bind)} (_ : rec (s1, s2, s3, o0) = some r), ∃ hz : AHeap, callP C (Lim C) 105 [.ref g1.length v0 0 n0, PI s1, PI s2, PI s3, .fn 84 []] (g1 ++ (.row false v0 2 (rowP qb9 o0) :: g2)) = some (resOf [], (g1 ++ (.row false v0 2 (rowP qb9 r) :: (g2 ++ hz)))) ∧ r.length = n0) {g1 : AHeap} {v0 : Nat} {n0 : Nat} {g2 : AHeap} {s : Int × Int × Int × Bool × Bool × (List Bind)} {g : AHeap} {x} (h : wh (qs9 rec) s = some x) (hI : qet9 g1 v0 n0 g2 s) : ∃ q, qp9 (semA C (Lim C) 42535296023574879666274036850519702559 qlL9) (qcJ9 g1 v0 n0 g2 s g) = some q ∧ qfy9 g1 v0 n0 g2 x q := qcp9 (qkv9 hrec g1 v0 n0 g2) hI h
theorem qko9 {rec : Int × Int × Int × (List Bind) → Option ((List Bind))} (hrec : ∀ {s1 : Int} {s2 : Int} {s3 : Int} {o0 : List Bind} {g1 : AHeap} {v0 : Nat} {n0 : Nat} {g2 : AHeap} (hln0 : o0.length = n0) {r : (List Bind)} (_ : rec (s1, s2, s3, o0) = some r), ∃ hz : AHeap, callP C (Lim C) 105 [.ref g1.length v0 0 n0, PI s1, PI s2, PI s3, .fn 84 []] (g1 ++ (.row false v0 2 (rowP qb9 o0) :: g2)) = some (resOf [], (g1 ++ (.row false v0 2 (rowP qb9 r) :: (g2 ++ hz)))) ∧ r.length = n0) {s1 : Int} {s2 : Int} {s3 : Int} {o0 : List Bind} {g1 : AHeap} {v0 : Nat} {n0 : Nat} {g2 : AHeap} (hln0 : o0.length = n0) {r : (List Bind)} (hr : qbR9 rec s1 s2 s3 o0 = some r) : ∃ hz : AHeap, Lim C 105 [.ref g1.length v0 0 n0, PI s1, PI s2, PI s3, .fn 84 []] (g1 ++ (.row false v0 2 (rowP qb9 o0) :: g2)) = some (resOf [], (g1 ++ (.row false v0 2 (rowP qb9 r) :: (g2 ++ hz)))) ∧ r.length = n0 := by
  simp only [qbR9] at hr
  obtain ⟨x150, h1, hr⟩ := bsome hr
  obtain ⟨q1, h1L, h1X⟩ := qkH9 hrec (g1 := g1) (v0 := v0) (n0 := n0) (g2 := g2) (g := []) h1 (show o0.length = n0 by first | assumption | (simp only [llA, lrA]; first | done | assumption | omega) | omega)
  have ⟨x151, hq1⟩ : ∃ y, y = x150 := ⟨_, rfl⟩
  subst hq1
  simp only [qfy9, qcJ9] at h1X h1L
  obtain ⟨e1, st1⟩ := q1
  obtain ⟨rfl, h1R⟩ := h1X
  obtain ⟨env1, hp1⟩ := st1
  obtain ⟨y3, h1v, h1h, h1f0⟩ := h1R
  replace h1h : hp1 = _ := h1h
  subst h1h
  try simp only [go_sem, Nat.reduceAdd, la1, la2, la3, la4, la5, la6] at h1L
  try simp only [hln0] at h1L
  obtain rfl := oiA hr
  refine ⟨y3, Lim_A is105 (nbA rfl) (e := .ret) (env := env1) ?_ (.inr rfl) h1v, h1f0⟩
  rotate_left
  all_goals (simp +decide only [go_sem, Int.reduceToNat, Nat.reduceAdd, Nat.reduceLT, Nat.reduceMul, Nat.reducePow, reduceCtorEq, qg9, c105, *])
theorem qkQ9 {s1 : Int} {s2 : Int} {s3 : Int} {o0 : List Bind} {g1 : AHeap} {v0 : Nat} {n0 : Nat} {g2 : AHeap} (hln0 : o0.length = n0) {r : (List Bind)} (hr : qeo9 s1 s2 s3 o0 = some r) : ∃ hz : AHeap, Lim C 105 [.ref g1.length v0 0 n0, PI s1, PI s2, PI s3, .fn 84 []] (g1 ++ (.row false v0 2 (rowP qb9 o0) :: g2)) = some (resOf [], (g1 ++ (.row false v0 2 (rowP qb9 r) :: (g2 ++ hz)))) ∧ r.length = n0 := by
  obtain ⟨n, hn⟩ := qkV9 hr
  clear hr
  induction n generalizing s1 s2 s3 o0 g1 v0 n0 g2 r with
  | zero => cases hn
  | succ n ih =>
    refine qko9 (rec := fixN _ n) (fun {s1} {s2} {s3} {o0} {g1} {v0} {n0} {g2} hln0 {r} hr => ?_) hln0 (g1 := g1) (v0 := v0) (n0 := n0) (g2 := g2) hn
    obtain ⟨hz, h1, f0⟩ := ih hln0 (g1 := g1) (v0 := v0) (n0 := n0) (g2 := g2) hr
    exact ⟨hz, qZ9 rfl rfl rfl h1, f0⟩
theorem qkS9 {s1 : Int} {s2 : Int} {s3 : Int} {o0 : List Bind} {g1 : AHeap} {v0 : Nat} {n0 : Nat} {g2 : AHeap} (hln0 : o0.length = n0) {r : (List Bind)} (hr : qeo9 s1 s2 s3 o0 = some r) : ∃ hz : AHeap, callP C (Lim C) 105 [.ref g1.length v0 0 n0, PI s1, PI s2, PI s3, .fn 84 []] (g1 ++ (.row false v0 2 (rowP qb9 o0) :: g2)) = some (resOf [], (g1 ++ (.row false v0 2 (rowP qb9 r) :: (g2 ++ hz)))) ∧ r.length = n0 := by
  obtain ⟨hz, h1, f0⟩ := qkQ9 hln0 hr (g1 := g1) (v0 := v0) (n0 := n0) (g2 := g2)
  exact ⟨hz, qZ9 rfl rfl rfl h1, f0⟩
def c83 : ACode := .seq (.reg [] [] [.M 5 0, .T 6 (.len (.tmp 5)), .N 4 6]) (.reg [] [] [.M 7 0, .M 8 4, .M 9 4, .T 10 (.wrap .u64 (.tmp 9)), .T 11 (.call 106 [.tmp 10]), .M 12 1, .T 13 (.call 105 [.tmp 7, .const (.int .i64 0), .tmp 8, .tmp 11, .tmp 12])])
theorem is83 : IsF C 83 14 19 c83 [] := ⟨⟨Tryd.f83, _, C_P ▸ Tryd.func83, rfl, rfl, rfl, by kernel_rfl, rfl⟩⟩
theorem qku9 {o0 : List Bind} {g1 : AHeap} {v0 : Nat} {n0 : Nat} {g2 : AHeap} (hln0 : o0.length = n0) {r : (List Bind)} (hr : qcE9 o0 = some r) : ∃ hz : AHeap, Lim C 83 [.ref g1.length v0 0 n0, .fn 84 []] (g1 ++ (.row false v0 2 (rowP qb9 o0) :: g2)) = some (resOf [], (g1 ++ (.row false v0 2 (rowP qb9 r) :: (g2 ++ hz)))) ∧ r.length = n0 := by
  simp only [qcE9] at hr
  obtain ⟨x1, h1, hr⟩ := bsome hr
  have h1k := fun h => qjw9 (h := h) h1
  try simp only [go_sem] at h1k
  try simp only [hln0] at h1k
  obtain ⟨x2, h2, hr⟩ := bsome hr
  obtain ⟨z3, h2k, h2l0⟩ := qkS9 (g1 := g1) (v0 := v0) (n0 := n0) (g2 := g2) (show o0.length = n0 by first | assumption | (simp only [llA, lrA]; first | done | assumption | omega) | omega) h2
  try simp only [go_sem, Nat.reduceAdd, la1, la2, la3, la4, la5, la6] at h2k
  try simp only [hln0] at h2k
  obtain rfl := oiA hr
  refine ⟨z3, Lim_A is83 (nbA rfl) (e := .normal) (env := [(0, .ref g1.length v0 0 n0), (1, .fn 84 []), (4, PI (o0.length : Int))]) (h' := (g1 ++ (.row false v0 2 (rowP qb9 x2) :: (g2 ++ z3)))) (vs := []) ?_ (.inl rfl) rfl, (show x2.length = n0 by first | assumption | (simp only [llA, lrA]; first | done | assumption | omega) | omega)⟩
  rotate_left
  all_goals (simp +decide only [go_sem, Int.reduceToNat, Nat.reduceAdd, Nat.reduceLT, Nat.reduceMul, Nat.reducePow, reduceCtorEq, qg9, c83, *])
theorem qkC9 {o0 : List Bind} {g1 : AHeap} {v0 : Nat} {n0 : Nat} {g2 : AHeap} (hln0 : o0.length = n0) {r : (List Bind)} (hr : qcE9 o0 = some r) : ∃ hz : AHeap, callP C (Lim C) 83 [.ref g1.length v0 0 n0, .fn 84 []] (g1 ++ (.row false v0 2 (rowP qb9 o0) :: g2)) = some (resOf [], (g1 ++ (.row false v0 2 (rowP qb9 r) :: (g2 ++ hz)))) ∧ r.length = n0 := by
  obtain ⟨hz, h1, f0⟩ := qku9 hln0 hr (g1 := g1) (v0 := v0) (n0 := n0) (g2 := g2)
  exact ⟨hz, qZ9 rfl rfl rfl h1, f0⟩
def b49_0 : ACode := .seq (.reg [] [] [.K 33 (.bin .lss (.tmp 32) (.tmp 31))]) (.seq (.cond (.tmp 33) (some 33) (.skip) (.exit 0)) (.seq (.block 1 604467521783612674930688 (.seq (.reg [] [] [.T 34 (.ix 1 (.tmp 30) (.tmp 32)), .T 35 (.load none (.tmp 34)), .N 11 35]) (.seq (.reg [] [] [.M 36 11, .T 37 (.call 80 [.tmp 36]), .N 12 37]) (.seq (.seq (.reg [] [] [.M 39 12, .T 40 (.asr 128 (some (.d (.v (.int .i64 0)))) (.tmp 39) true), .M 38 40, .T 41 (.ext (.tmp 38) 0), .T 42 (.ext (.tmp 38) 1), .N 13 41, .N 14 42]) (.seq (.reg [] [] [.N 43 14]) (.cond (.tmp 43) (some 43) (.seq (.seq (.reg [] [] [.M 44 2, .T 45 (.ix 1 (.tmp 44) (cI 0)), .T 46 (.load none (.tmp 45)), .M 47 13, .K 48 (.bin .neq (.tmp 46) (.tmp 47))]) (.cond (.tmp 48) (some 48) (.seq (.reg [] [(6, 0)] [.K 6 (.mv (.const (.slice none 0 0))), .K 7 (.mv (.const (.bool false)))]) (.ret)) (.skip))) (.seq (.reg [] [] [.M 49 2, .T 50 (.cut 1 (.tmp 49) (some (cI 1)) none), .N 2 50]) (.exit 1))) (.skip)))) (.seq (.reg [] [] [.M 51 12, .T 52 (.asr 130 (some (.d (.v (.int .i64 0)))) (.tmp 51) false), .N 15 52]) (.seq (.reg [] [] [.M 53 0, .M 54 2, .T 55 (.call 81 [.tmp 53, .tmp 54]), .N 16 55]) (.seq (.reg [] [(17, 0)] [.M 57 8, .M 58 15, .T 59 (.look (Go.TypeDesc.int .i64) (.im true []) (.tmp 57) (.tmp 58) true), .M 56 59, .T 60 (.ext (.tmp 56) 0), .T 61 (.ext (.tmp 56) 1), .N 17 60, .N 18 61]) (.seq (.block 2 604467521783612674865152 (.seq (.reg [] [] [.M 63 18, .T 64 (.not (.tmp 63)), .N 62 64]) (.cond (.tmp 62) (some 62) (.seq (.reg [] [] [.M 65 8, .M 66 15, .M 67 2, .M 68 16, .T 69 (.cut 1 (.tmp 67) none (some (.tmp 68))), ⟨none, .mput (Go.TypeDesc.int .i64) (.tmp 65) (.tmp 66) (.tmp 69), none, false, false⟩]) (.reg [] [] [.M 70 9, .M 71 15, .M 72 2, .M 73 16, .T 74 (.cut 1 (.tmp 72) none (some (.tmp 73))), ⟨some (75, false), .call 58 [.tmp 74], none, false, true⟩, .T 76 (.build [(0, 1), (1, 1)] [.d (.v (.int .i64 0)), .im true []] [(0, .tmp 71), (1, .tmp 75)]), .T 77 (.lit 2 [(0, .tmp 76)]), .T 78 (.app 2 32 (.tmp 70) (.tmp 77)), .N 9 78])) (.seq (.reg [] [] [.M 80 17, .M 81 2, .M 82 16, .T 83 (.cut 1 (.tmp 81) none (some (.tmp 82))), .T 84 (.call 82 [.tmp 80, .tmp 83]), .T 85 (.not (.tmp 84)), .N 79 85]) (.cond (.tmp 79) (some 79) (.seq (.reg [] [(6, 0)] [.K 6 (.mv (.const (.slice none 0 0))), .K 7 (.mv (.const (.bool false)))]) (.ret)) (.skip)))))) (.reg [] [] [.M 86 2, .M 87 16, .T 88 (.cut 1 (.tmp 86) (some (.tmp 87)) none), .N 2 88]))))))))) (.reg [] [] [.T 89 (.bin .add (.tmp 32) (cI 1)), .N 32 89])))
def c49 : ACode := .seq (.reg [] [(6, 0)] [.K 6 (.mv (.const (.slice none 0 0))), .K 7 (.mv (.const (.bool false)))]) (.seq (.seq (.reg [] [] [.M 19 0, .M 20 1, .T 21 (.call 62 [.tmp 19, .tmp 20]), .T 22 (.bin .neq (.tmp 21) (cI 0)), .M 23 22, .MG 24 23 false 0, .MG 25 23 false 2, .TG 26 23 false (.call 62 [.tmp 24, .tmp 25]), .TG 27 23 false (.bin .neq (.tmp 26) (cI 0)), .K 28 (.pick (.tmp 23) (.const (.bool true)) (.tmp 27))]) (.cond (.tmp 28) (some 28) (.seq (.reg [] [(6, 0)] [.K 6 (.mv (.const (.slice none 0 0))), .K 7 (.mv (.const (.bool false)))]) (.ret)) (.skip))) (.seq (.reg [] [] [.T 29 (.mkMap), .N 8 29]) (.seq (.reg [] [(9, 2)] [.K 9 (.mv (.const (.slice none 0 0)))]) (.seq (.seq (.reg [] [] [.N 30 1, .K 31 (.len (.tmp 30)), .K 32 (.mv (cI 0))]) (.block 0 604467521783612674930688 (.loop b49_0))) (.seq (.reg [] [] [.M 90 9, .T 91 (.call 83 [.tmp 90, .func 84])]) (.seq (.reg [] [(6, 0)] [.M 92 9, .N 6 92, .K 7 (.mv (.const (.bool true)))]) (.ret)))))))
theorem is49 : IsF C 49 93 604467521783620459559879 c49 [.tmp 6, .tmp 7] := ⟨⟨Tryd.f49, _, C_P ▸ Tryd.func49, rfl, rfl, rfl, by kernel_rfl, rfl⟩⟩
def qdx9 (s0 : List Symbol) (s1 : List Int) (s6 : List Bind) (s30 : List Int) (s31 : Int) : (List Int) × Int × (List (Int × (List Int))) × (List Bind) → Nat × AHeap → St := fun (s2, s32, m8, o9) (v9, gt) => ⟨[(0, .d (.rd (s0.map qa9))), (1, .d (.rd (s1.map intD))), (2, .d (.rd (s2.map intD))), (6, .d (.rd (s6.map qb9))), (7, PB false), (8, .mp 0), (9, .ref 1 v9 0 o9.length), (30, .d (.rd (s30.map intD))), (31, PI s31), (32, PI s32)], (.map (mapP keyI (lsD intD) m8) :: (.row false v9 2 (rowP qb9 o9) :: gt))⟩
def qgl9 (s0 : List Symbol) (s1 : List Int) (s6 : List Bind) (s30 : List Int) (s31 : Int) : (((List Bind) × Bool) ⊕ ((List Int) × Int × (List (Int × (List Int))) × (List Bind))) → AExit × St → Prop
  | .inl r, q => q.1 = .ret ∧ RetOK C [.tmp 6, .tmp 7] q.2 (.tp [.d (.rd (r.1.map qb9)), PB r.2])
  | .inr (s2, s32, m8, o9), q => ∃ v9 : Nat, ∃ h1 : AHeap, q = (.exit 0, ⟨[(0, .d (.rd (s0.map qa9))), (1, .d (.rd (s1.map intD))), (2, .d (.rd (s2.map intD))), (6, .d (.rd (s6.map qb9))), (7, PB false), (8, .mp 0), (9, .ref 1 v9 0 o9.length), (30, .d (.rd (s30.map intD))), (31, PI s31), (32, PI s32)], (.map (mapP keyI (lsD intD) m8) :: (.row false v9 2 (rowP qb9 o9) :: h1))⟩)
theorem qnN9 (s0 : List Symbol) (s1 : List Int) (s6 : List Bind) (s30 : List Int) (s31 : Int) : ∀ (s : (List Int) × Int × (List (Int × (List Int))) × (List Bind)) (g : Nat × AHeap) r, qbi9 s0 s1 s6 s30 s31 s = some r → Sum.elim (fun s' => ∃ g', semA C (Lim C) 604467521783620459559879 b49_0 (qdx9 s0 s1 s6 s30 s31 s g) = some (.normal, qdx9 s0 s1 s6 s30 s31 s' g')) (fun x => ∃ q, semA C (Lim C) 604467521783620459559879 b49_0 (qdx9 s0 s1 s6 s30 s31 s g) = some q ∧ q.1 ≠ .normal ∧ qgl9 s0 s1 s6 s30 s31 x q) r := by
  intro s g r hr
  obtain ⟨s2, s32, m8, o9⟩ := s
  obtain ⟨v9, gt⟩ := g
  simp only [qbi9] at hr
  rcases pcA (s32 < s31) with h1 | h1
  simp only [h1, if_true] at hr
  obtain ⟨x3, h2, hr⟩ := bsome hr
  obtain ⟨x4, h3, hr⟩ := bsome hr
  have h3k := fun h => qpL9 (h := h) h3
  try simp only [go_sem] at h3k
  obtain ⟨h4, hr⟩ := gsome hr
  rcases h5 : asI 128 .i64 x4 with _ | x5
  simp only [h5] at hr
  obtain ⟨x8, h6, hr⟩ := bsome hr
  obtain ⟨x9, h7, hr⟩ := bsome hr
  have h7k := fun h => qoZ9 (h := h) h7
  try simp only [go_sem] at h7k
  rcases h8 : mget m8 x8 with _ | x10
  simp only [h8] at hr
  obtain ⟨x14, h9, hr⟩ := bsome hr
  obtain ⟨h10, hr⟩ := gsome hr
  obtain ⟨h11, hr⟩ := gsome hr
  obtain ⟨x15, h12, hr⟩ := bsome hr
  obtain rfl := oiA hr
  refine ⟨((v9 + 1), (gt ++ (.row true 0 1 (rowP intD x14) :: []))), ?_⟩
  rotate_left
  simp only [h8] at hr
  obtain ⟨x11, h13, hr⟩ := bsome hr
  obtain ⟨x12, h14, hr⟩ := bsome hr
  have h14k := fun h => qjh9 (h := h) h14
  try simp only [go_sem] at h14k
  cases h15 : x12
  simp only [h15, Bool.false_eq_true, if_false] at hr
  obtain rfl := oiA hr
  refine ⟨(.ret, ⟨[(0, .d (.rd (s0.map qa9))), (1, .d (.rd (s1.map intD))), (2, .d (.rd (s2.map intD))), (6, .d (.rd (([] : List Bind).map qb9))), (7, PB false), (8, .mp 0), (9, .ref 1 v9 0 o9.length), (11, PI x3), (12, .d (x4)), (13, PI 0), (14, PB false), (15, PI x8), (16, PI x9), (17, .d (.rd (x10.map intD))), (18, PB true), (30, .d (.rd (s30.map intD))), (31, PI s31), (32, PI s32)], (.map (mapP keyI (lsD intD) m8) :: (.row false v9 2 (rowP qb9 o9) :: gt))⟩), ?_, nofun, rfl, [.d (.rd (([] : List Bind).map qb9)), PB false], rfl, ?_⟩
  rotate_left 2
  simp only [h15, if_true] at hr
  obtain ⟨x13, h16, hr⟩ := bsome hr
  obtain rfl := oiA hr
  refine ⟨(v9, gt), ?_⟩
  rotate_left
  simp only [h5] at hr
  obtain ⟨x6, h17, hr⟩ := bsome hr
  rcases pcA (x6 = x5) with h18 | h18
  simp only [h18, if_true] at hr
  obtain ⟨x7, h19, hr⟩ := bsome hr
  obtain rfl := oiA hr
  refine ⟨(v9, gt), ?_⟩
  rotate_left
  simp only [h18, if_false] at hr
  obtain rfl := oiA hr
  refine ⟨(.ret, ⟨[(0, .d (.rd (s0.map qa9))), (1, .d (.rd (s1.map intD))), (2, .d (.rd (s2.map intD))), (6, .d (.rd (([] : List Bind).map qb9))), (7, PB false), (8, .mp 0), (9, .ref 1 v9 0 o9.length), (11, PI x3), (12, .d (x4)), (13, PI x5), (14, PB true), (30, .d (.rd (s30.map intD))), (31, PI s31), (32, PI s32)], (.map (mapP keyI (lsD intD) m8) :: (.row false v9 2 (rowP qb9 o9) :: gt))⟩), ?_, nofun, rfl, [.d (.rd (([] : List Bind).map qb9)), PB false], rfl, ?_⟩
  rotate_left 2
  simp only [h1, if_false] at hr
  obtain rfl := oiA hr
  refine ⟨(.exit 0, ⟨[(0, .d (.rd (s0.map qa9))), (1, .d (.rd (s1.map intD))), (2, .d (.rd (s2.map intD))), (6, .d (.rd (s6.map qb9))), (7, PB false), (8, .mp 0), (9, .ref 1 v9 0 o9.length), (30, .d (.rd (s30.map intD))), (31, PI s31), (32, PI s32)], (.map (mapP keyI (lsD intD) m8) :: (.row false v9 2 (rowP qb9 o9) :: gt))⟩), ?_, nofun, v9, gt, rfl⟩
  rotate_left
  all_goals (simp +decide only [go_sem, Int.reduceToNat, Nat.reduceAdd, Nat.reduceLT, Nat.reduceMul, Nat.reducePow, reduceCtorEq, qdx9, b49_0, *])
theorem qnY9 {s0 : List Symbol} {s1 : List Int} {s6 : List Bind} {s30 : List Int} {s31 : Int} {s : (List Int) × Int × (List (Int × (List Int))) × (List Bind)} {g : Nat × AHeap} {x} (h : wh (qbi9 s0 s1 s6 s30 s31) s = some x) : ∃ q, qp9 (semA C (Lim C) 604467521783620459559879 b49_0) (qdx9 s0 s1 s6 s30 s31 s g) = some q ∧ qgl9 s0 s1 s6 s30 s31 x q := qcx9 (qnN9 s0 s1 s6 s30 s31) h
theorem qoX9 {a0 : List Symbol} {a1 : List Int} {a2 : List Int} {r : (List Bind) × Bool} (hr : qey9 a0 a1 a2 = some r) : ∃ p hp, Lim C 49 [.d (.rd (a0.map qa9)), .d (.rd (a1.map intD)), .d (.rd (a2.map intD))] [] = some (p, hp) ∧ rsT hp p = some (.tp [.d (.rd (r.1.map qb9)), PB r.2]) := by
  simp only [qey9] at hr
  obtain ⟨x1, h1, hr⟩ := bsome hr
  have h1k := fun h => qfi9 (h := h) h1
  try simp only [go_sem] at h1k
  rcases pcA (x1 = 0) with h2 | h2
  simp only [h2, if_true] at hr
  obtain ⟨x2, h3, hr⟩ := bsome hr
  have h3k := fun h => qfi9 (h := h) h3
  try simp only [go_sem] at h3k
  rcases pcA (x2 = 0) with h4 | h4
  simp only [h4, if_true] at hr
  obtain ⟨x16, h5, hr⟩ := bsome hr
  obtain ⟨q5, h5L, h5X⟩ := qnY9 (g := (0, [])) h5
  rcases x16 with x17 | ⟨x18, x19, x20, x21⟩
  simp only [qgl9, qdx9] at h5X h5L
  obtain ⟨e5, st5⟩ := q5
  obtain ⟨rfl, h5R⟩ := h5X
  try simp only [go_sem, Nat.reduceAdd, la1, la2, la3, la4, la5, la6] at h5L
  obtain rfl := oiA hr
  refine qh9 is49 (nbA rfl) ?_ (.inr rfl) h5R
  rotate_left
  simp only [qgl9, qdx9] at h5X h5L
  obtain ⟨z22, z23, rfl⟩ := h5X
  try simp only [go_sem, Nat.reduceAdd, la1, la2, la3, la4, la5, la6] at h5L
  obtain ⟨x24, h6, hr⟩ := bsome hr
  obtain ⟨z25, h6k, h6l0⟩ := qkC9 (g1 := (.map (mapP keyI (lsD intD) x20) :: [])) (v0 := z22) (n0 := x21.length) (g2 := z23) rfl h6
  try simp only [go_sem, Nat.reduceAdd, la1, la2, la3, la4, la5, la6] at h6k
  obtain rfl := oiA hr
  refine qh9 is49 (nbA rfl) (q := (.ret, ⟨[(0, .d (.rd (a0.map qa9))), (1, .d (.rd (a1.map intD))), (2, .d (.rd (x18.map intD))), (6, .d (.rd (x24.map qb9))), (7, PB true), (8, .mp 0), (9, .ref 1 z22 0 x21.length), (30, .d (.rd (a1.map intD))), (31, PI (a1.length : Int)), (32, PI x19)], (.map (mapP keyI (lsD intD) x20) :: (.row true z22 2 (rowP qb9 x24) :: (z23 ++ z25)))⟩)) ?_ (.inr rfl) ⟨[.d (.rd (x24.map qb9)), PB true], rfl, ?_⟩
  rotate_left 2
  simp only [h4, if_false] at hr
  obtain rfl := oiA hr
  refine qh9 is49 (nbA rfl) (q := (.ret, ⟨[(0, .d (.rd (a0.map qa9))), (1, .d (.rd (a1.map intD))), (2, .d (.rd (a2.map intD))), (6, .d (.rd (([] : List Bind).map qb9))), (7, PB false)], []⟩)) ?_ (.inr rfl) ⟨[.d (.rd (([] : List Bind).map qb9)), PB false], rfl, ?_⟩
  rotate_left 2
  simp only [h2, if_false] at hr
  obtain rfl := oiA hr
  refine qh9 is49 (nbA rfl) (q := (.ret, ⟨[(0, .d (.rd (a0.map qa9))), (1, .d (.rd (a1.map intD))), (2, .d (.rd (a2.map intD))), (6, .d (.rd (([] : List Bind).map qb9))), (7, PB false)], []⟩)) ?_ (.inr rfl) ⟨[.d (.rd (([] : List Bind).map qb9)), PB false], rfl, ?_⟩
  rotate_left 2
  all_goals (simp +decide only [go_sem, Int.reduceToNat, Nat.reduceAdd, Nat.reduceLT, Nat.reduceMul, Nat.reducePow, reduceCtorEq, qg9, c49, *])
theorem qiB9 {a0 : List Symbol} {a1 : List Int} {a2 : List Int} {r : (List Bind) × Bool} (hr : qey9 a0 a1 a2 = some r) {h : AHeap} : callP C (Lim C) 49 [.d (.rd (a0.map qa9)), .d (.rd (a1.map intD)), .d (.rd (a2.map intD))] h = some (.tp [.d (.rd (r.1.map qb9)), PB r.2], h) := qbk9 (ds := [.rd (a0.map qa9), .rd (a1.map intD), .rd (a2.map intD)]) rfl rfl rfl (qoX9 hr) h
def c45 : ACode := .seq (.reg [] [] [.K 4 (.mv (.const (.bool false)))]) (.seq (.reg [] [] [.T 5 (.load none (.tmp 1)), .T 6 (.load none (.tmp 2)), .M 7 0, .T 8 (.build [(0, 1), (1, 1)] [.d (.v (.int .i64 0)), .d (.v (.int .i64 0))] [(0, .tmp 6), (1, .tmp 7)]), .T 9 (.lit 2 [(0, .tmp 8)]), .T 10 (.app 2 16 (.tmp 5) (.tmp 9)), ⟨none, .store 1 (.tmp 1) (.tmp 10), none, false, false⟩]) (.seq (.reg [] [] [.K 4 (.mv (.const (.bool true)))]) (.ret)))
theorem is45 : IsF C 45 11 23 c45 [.tmp 4] := ⟨⟨Tryd.f45, _, C_P ▸ Tryd.func45, rfl, rfl, rfl, by kernel_rfl, rfl⟩⟩
theorem qoW9 {s0 : Int} {o1_0 : List Redex} {b2_0 : Int} {g1 : AHeap} {g2 : AHeap} {v1_0 : Nat} {n1_0 : Nat} {g3 : AHeap} {g4 : AHeap} (hln1_0 : o1_0.length = n1_0) {r : Bool × (List Redex)} (hr : qgA9 s0 o1_0 b2_0 = some r) : ∃ wv1_0 : Nat, Lim C 45 [PI s0, .ptr g1.length 0 0 0, .ptr (g1.length + g2.length + g3.length + 2) 0 0 0] (g1 ++ (.row false 0 1 [[.ref (g1.length + g2.length + 1) v1_0 0 n1_0]] :: (g2 ++ (.row false v1_0 2 (rowP qe9 o1_0) :: (g3 ++ (.row false 0 1 [[PI b2_0]] :: g4)))))) = some (resOf [PB r.1], (g1 ++ (.row false 0 1 [[.ref (g1.length + g2.length + 1) wv1_0 0 r.2.length]] :: (g2 ++ (.row false wv1_0 2 (rowP qe9 r.2) :: (g3 ++ (.row false 0 1 [[PI b2_0]] :: g4))))))) := by
  simp only [qgA9] at hr
  obtain ⟨h1, hr⟩ := gsome hr
  try simp only [hln1_0] at h1
  obtain rfl := oiA hr
  refine ⟨(v1_0 + 1), Lim_A is45 (nbA rfl) (e := .ret) (env := [(0, PI s0), (1, .ptr g1.length 0 0 0), (2, .ptr (g1.length + g2.length + g3.length + 2) 0 0 0), (4, PB true)]) (h' := (g1 ++ (.row false 0 1 [[.ref (g1.length + g2.length + 1) (v1_0 + 1) 0 ((o1_0 ++ [(Redex.mk b2_0 s0)]).length)]] :: (g2 ++ (.row false (v1_0 + 1) 2 (rowP qe9 (o1_0 ++ [(Redex.mk b2_0 s0)])) :: (g3 ++ (.row false 0 1 [[PI b2_0]] :: g4))))))) (vs := [PB true]) ?_ (.inr rfl) rfl⟩
  rotate_left
  all_goals (simp +decide only [go_sem, Int.reduceToNat, Nat.reduceAdd, Nat.reduceLT, Nat.reduceMul, Nat.reducePow, reduceCtorEq, qg9, c45, *])
theorem qpd9 {s0 : Int} {o1_0 : List Redex} {b2_0 : Int} {g1 : AHeap} {g2 : AHeap} {v1_0 : Nat} {n1_0 : Nat} {g3 : AHeap} {g4 : AHeap} (hln1_0 : o1_0.length = n1_0) {r : Bool × (List Redex)} (hr : qgA9 s0 o1_0 b2_0 = some r) : ∃ wv1_0 : Nat, callP C (Lim C) 45 [PI s0, .ptr g1.length 0 0 0, .ptr (g1.length + g2.length + g3.length + 2) 0 0 0] (g1 ++ (.row false 0 1 [[.ref (g1.length + g2.length + 1) v1_0 0 n1_0]] :: (g2 ++ (.row false v1_0 2 (rowP qe9 o1_0) :: (g3 ++ (.row false 0 1 [[PI b2_0]] :: g4)))))) = some (resOf [PB r.1], (g1 ++ (.row false 0 1 [[.ref (g1.length + g2.length + 1) wv1_0 0 r.2.length]] :: (g2 ++ (.row false wv1_0 2 (rowP qe9 r.2) :: (g3 ++ (.row false 0 1 [[PI b2_0]] :: g4))))))) := by
  obtain ⟨wv1_0, h1⟩ := qoW9 hln1_0 hr (g1 := g1) (g2 := g2) (v1_0 := v1_0) (n1_0 := n1_0) (g3 := g3) (g4 := g4)
  exact ⟨wv1_0, qZ9 rfl rfl rfl h1⟩
def b44_0 : ACode := .seq (.reg [] [] [.K 15 (.bin .lss (.tmp 14) (.tmp 13))]) (.seq (.cond (.tmp 15) (some 15) (.skip) (.exit 0)) (.seq (.block 1 4398113654144 (.seq (.reg [] [] [.M 16 14, .T 17 (.ix 2 (.tmp 12) (.tmp 14)), .T 18 (.load (some 2) (.tmp 17)), .K 8 (.alloc [.im true [], .im true []] 2), .N 7 16, ⟨none, .store 2 (.tmp 8) (.tmp 18), none, false, false⟩]) (.seq (.seq (.reg [] [] [.T 19 (.fa 0 (.tmp 8)), ⟨some (20, false), .load none (.tmp 19), none, true, false⟩, ⟨some (21, false), .ix 1 (.tmp 20) (cI 0), none, true, false⟩, ⟨some (22, false), .load none (.tmp 21), none, true, false⟩, .M 23 1, ⟨some (24, false), .ix 1 (.tmp 23) (cI 0), none, true, false⟩, ⟨some (25, false), .load none (.tmp 24), none, true, false⟩, .K 26 (.bin .neq (.tmp 22) (.tmp 25))]) (.cond (.tmp 26) (some 26) (.exit 1) (.skip))) (.seq (.reg [] [] [.T 28 (.fa 0 (.tmp 3)), .T 29 (.load none (.tmp 28)), .T 30 (.fa 0 (.tmp 8)), .T 31 (.load none (.tmp 30)), .M 32 1, .T 33 (.call 49 [.tmp 29, .tmp 31, .tmp 32]), .M 27 33, .T 34 (.ext (.tmp 27) 0), .T 35 (.ext (.tmp 27) 1), .M 9 34, .N 10 35]) (.seq (.reg [] [] [.M 36 10, .M 37 36, .MG 38 37 true 2, .MG 39 37 true 7, .TG 40 37 true (.callV (.tmp 38) [.tmp 39]), .TG 41 37 true (.not (.tmp 40)), .K 42 (.pick (.tmp 37) (.tmp 41) (.const (.bool false)))]) (.cond (.tmp 42) (some 42) (.seq (.reg [] [] [.K 6 (.mv (.const (.bool false)))]) (.ret)) (.skip))))))) (.reg [] [] [.T 43 (.bin .add (.tmp 14) (cI 1)), .N 14 43])))
def c44 : ACode := .seq (.reg [] [] [.K 3 (.box (.tmp 0)), .K 6 (.mv (.const (.bool false)))]) (.seq (.seq (.reg [] [] [.T 11 (.fa 1 (.tmp 3)), .K 12 (.load none (.tmp 11)), .K 13 (.len (.tmp 12)), .K 14 (.mv (cI 0))]) (.block 0 4398113654144 (.loop b44_0))) (.seq (.reg [] [] [.K 6 (.mv (.const (.bool true)))]) (.ret)))
theorem is44 : IsF C 44 44 4398113682895 c44 [.tmp 6] := ⟨⟨Tryd.f44, _, C_P ▸ Tryd.func44, rfl, rfl, rfl, by kernel_rfl, rfl⟩⟩
def qbe9 (s0_0 : List Symbol) (s0_1 : List Rule) (s1 : List Int) (s12 : List Rule) (s13 : Int) (b2_1_0 : Int) (b3_0 : List Symbol) (b3_1 : List Rule) (g1 : AHeap) (g2 : AHeap) (g3 : AHeap) (g4 : AHeap) : Int × (List Redex) → Nat × AHeap → St := fun (s14, o2_0_0) (v2_0_0, gt) => ⟨[(0, .ag [.d (.rd (s0_0.map qa9)), .d (.rd (s0_1.map qd9))]), (1, .d (.rd (s1.map intD))), (2, .fn 45 [.ptr g1.length 0 0 0, .ptr (g1.length + g2.length + g3.length + 2) 0 0 0]), (3, .ptr (g1.length + g2.length + g3.length + g4.length + 3) 0 0 0), (6, PB false), (12, .d (.rd (s12.map qd9))), (13, PI s13), (14, PI s14)], (g1 ++ (.row false 0 1 [[.ref (g1.length + g2.length + 1) v2_0_0 0 o2_0_0.length]] :: (g2 ++ (.row false v2_0_0 2 (rowP qe9 o2_0_0) :: (g3 ++ (.row false 0 1 [[PI b2_1_0]] :: (g4 ++ (.row false 0 2 [[.d (.rd (b3_0.map qa9)), .d (.rd (b3_1.map qd9))]] :: gt))))))))⟩
def qcI9 (s0_0 : List Symbol) (s0_1 : List Rule) (s1 : List Int) (s12 : List Rule) (s13 : Int) (b2_1_0 : Int) (b3_0 : List Symbol) (b3_1 : List Rule) (g1 : AHeap) (g2 : AHeap) (g3 : AHeap) (g4 : AHeap) : ((Bool × (List Redex)) ⊕ (Int × (List Redex))) → AExit × St → Prop
  | .inl r, q => q.1 = .ret ∧ ∃ wv2_0_0 : Nat, ∃ hz : AHeap, mapO (resP C.P q.2) [.tmp 6] = some [PB r.1] ∧ q.2.h = (g1 ++ (.row false 0 1 [[.ref (g1.length + g2.length + 1) wv2_0_0 0 r.2.length]] :: (g2 ++ (.row false wv2_0_0 2 (rowP qe9 r.2) :: (g3 ++ (.row false 0 1 [[PI b2_1_0]] :: (g4 ++ hz)))))))
  | .inr (s14, o2_0_0), q => ∃ v2_0_0 : Nat, ∃ h1 : AHeap, q = (.exit 0, ⟨[(0, .ag [.d (.rd (s0_0.map qa9)), .d (.rd (s0_1.map qd9))]), (1, .d (.rd (s1.map intD))), (2, .fn 45 [.ptr g1.length 0 0 0, .ptr (g1.length + g2.length + g3.length + 2) 0 0 0]), (3, .ptr (g1.length + g2.length + g3.length + g4.length + 3) 0 0 0), (6, PB false), (12, .d (.rd (s12.map qd9))), (13, PI s13), (14, PI s14)], (g1 ++ (.row false 0 1 [[.ref (g1.length + g2.length + 1) v2_0_0 0 o2_0_0.length]] :: (g2 ++ (.row false v2_0_0 2 (rowP qe9 o2_0_0) :: (g3 ++ (.row false 0 1 [[PI b2_1_0]] :: (g4 ++ (.row false 0 2 [[.d (.rd (b3_0.map qa9)), .d (.rd (b3_1.map qd9))]] :: h1))))))))⟩)
theorem qhP9 (s0_0 : List Symbol) (s0_1 : List Rule) (s1 : List Int) (s12 : List Rule) (s13 : Int) (b2_1_0 : Int) (b3_0 : List Symbol) (b3_1 : List Rule) (g1 : AHeap) (g2 : AHeap) (g3 : AHeap) (g4 : AHeap) : ∀ (s : Int × (List Redex)) (g : Nat × AHeap) r, qW9 s0_0 s0_1 s1 s12 s13 b2_1_0 b3_0 b3_1 s = some r → Sum.elim (fun s' => ∃ g', semA C (Lim C) 4398113682895 b44_0 (qbe9 s0_0 s0_1 s1 s12 s13 b2_1_0 b3_0 b3_1 g1 g2 g3 g4 s g) = some (.normal, qbe9 s0_0 s0_1 s1 s12 s13 b2_1_0 b3_0 b3_1 g1 g2 g3 g4 s' g')) (fun x => ∃ q, semA C (Lim C) 4398113682895 b44_0 (qbe9 s0_0 s0_1 s1 s12 s13 b2_1_0 b3_0 b3_1 g1 g2 g3 g4 s g) = some q ∧ q.1 ≠ .normal ∧ qcI9 s0_0 s0_1 s1 s12 s13 b2_1_0 b3_0 b3_1 g1 g2 g3 g4 x q) r := by
  intro s g r hr
  obtain ⟨s14, o2_0_0⟩ := s
  obtain ⟨v2_0_0, gt⟩ := g
  simp only [qW9] at hr
  rcases pcA (s14 < s13) with h1 | h1
  simp only [h1, if_true] at hr
  obtain ⟨x1, h2, hr⟩ := bsome hr
  obtain ⟨x2, h3, hr⟩ := bsome hr
  obtain ⟨x3, h4, hr⟩ := bsome hr
  rcases pcA (x2 = x3) with h5 | h5
  simp only [h5, if_true] at hr
  obtain ⟨x4, h6, hr⟩ := bsome hr
  have h6k := fun h => qiB9 (h := h) h6
  try simp only [go_sem] at h6k
  cases h7 : x4.2
  simp only [h7, Bool.false_eq_true, if_false] at hr
  obtain rfl := oiA hr
  refine ⟨(v2_0_0, (gt ++ (.row false 0 2 [[.d (.rd (x1.L.map intD)), .d (.rd (x1.R.map intD))]] :: []))), ?_⟩
  rotate_left
  simp only [h7, if_true] at hr
  obtain ⟨x5, h8, hr⟩ := bsome hr
  obtain ⟨z6, h8k⟩ := qpd9 (g1 := g1) (g2 := g2) (v1_0 := v2_0_0) (n1_0 := o2_0_0.length) (g3 := g3) (g4 := (g4 ++ (.row false 0 2 [[.d (.rd (b3_0.map qa9)), .d (.rd (b3_1.map qd9))]] :: (gt ++ (.row false 0 2 [[.d (.rd (x1.L.map intD)), .d (.rd (x1.R.map intD))]] :: []))))) rfl h8
  try simp only [go_sem, Nat.reduceAdd, la1, la2, la3, la4, la5, la6] at h8k
  cases h9 : x5.1
  simp only [h9, Bool.false_eq_true, if_false] at hr
  obtain rfl := oiA hr
  refine ⟨(.ret, ⟨[(0, .ag [.d (.rd (s0_0.map qa9)), .d (.rd (s0_1.map qd9))]), (1, .d (.rd (s1.map intD))), (2, .fn 45 [.ptr g1.length 0 0 0, .ptr (g1.length + g2.length + g3.length + 2) 0 0 0]), (3, .ptr (g1.length + g2.length + g3.length + g4.length + 3) 0 0 0), (6, PB false), (7, PI s14), (8, .ptr (g1.length + g2.length + g3.length + g4.length + gt.length + 4) 0 0 0), (10, PB x4.2), (12, .d (.rd (s12.map qd9))), (13, PI s13), (14, PI s14)], (g1 ++ (.row false 0 1 [[.ref (g1.length + g2.length + 1) z6 0 x5.2.length]] :: (g2 ++ (.row false z6 2 (rowP qe9 x5.2) :: (g3 ++ (.row false 0 1 [[PI b2_1_0]] :: (g4 ++ (.row false 0 2 [[.d (.rd (b3_0.map qa9)), .d (.rd (b3_1.map qd9))]] :: (gt ++ (.row false 0 2 [[.d (.rd (x1.L.map intD)), .d (.rd (x1.R.map intD))]] :: []))))))))))⟩), ?_, nofun, rfl, z6, (.row false 0 2 [[.d (.rd (b3_0.map qa9)), .d (.rd (b3_1.map qd9))]] :: (gt ++ (.row false 0 2 [[.d (.rd (x1.L.map intD)), .d (.rd (x1.R.map intD))]] :: []))), rfl, rfl⟩
  rotate_left
  simp only [h9, if_true] at hr
  obtain rfl := oiA hr
  refine ⟨(z6, (gt ++ (.row false 0 2 [[.d (.rd (x1.L.map intD)), .d (.rd (x1.R.map intD))]] :: []))), ?_⟩
  rotate_left
  simp only [h5, if_false] at hr
  obtain rfl := oiA hr
  refine ⟨(v2_0_0, (gt ++ (.row false 0 2 [[.d (.rd (x1.L.map intD)), .d (.rd (x1.R.map intD))]] :: []))), ?_⟩
  rotate_left
  simp only [h1, if_false] at hr
  obtain rfl := oiA hr
  refine ⟨(.exit 0, ⟨[(0, .ag [.d (.rd (s0_0.map qa9)), .d (.rd (s0_1.map qd9))]), (1, .d (.rd (s1.map intD))), (2, .fn 45 [.ptr g1.length 0 0 0, .ptr (g1.length + g2.length + g3.length + 2) 0 0 0]), (3, .ptr (g1.length + g2.length + g3.length + g4.length + 3) 0 0 0), (6, PB false), (12, .d (.rd (s12.map qd9))), (13, PI s13), (14, PI s14)], (g1 ++ (.row false 0 1 [[.ref (g1.length + g2.length + 1) v2_0_0 0 o2_0_0.length]] :: (g2 ++ (.row false v2_0_0 2 (rowP qe9 o2_0_0) :: (g3 ++ (.row false 0 1 [[PI b2_1_0]] :: (g4 ++ (.row false 0 2 [[.d (.rd (b3_0.map qa9)), .d (.rd (b3_1.map qd9))]] :: gt))))))))⟩), ?_, nofun, v2_0_0, gt, rfl⟩
  rotate_left
  all_goals (simp +decide only [go_sem, Int.reduceToNat, Nat.reduceAdd, Nat.reduceLT, Nat.reduceMul, Nat.reducePow, reduceCtorEq, qbe9, b44_0, *])
theorem qhM9 {s0_0 : List Symbol} {s0_1 : List Rule} {s1 : List Int} {s12 : List Rule} {s13 : Int} {b2_1_0 : Int} {b3_0 : List Symbol} {b3_1 : List Rule} {g1 : AHeap} {g2 : AHeap} {g3 : AHeap} {g4 : AHeap} {s : Int × (List Redex)} {g : Nat × AHeap} {x} (h : wh (qW9 s0_0 s0_1 s1 s12 s13 b2_1_0 b3_0 b3_1) s = some x) : ∃ q, qp9 (semA C (Lim C) 4398113682895 b44_0) (qbe9 s0_0 s0_1 s1 s12 s13 b2_1_0 b3_0 b3_1 g1 g2 g3 g4 s g) = some q ∧ qcI9 s0_0 s0_1 s1 s12 s13 b2_1_0 b3_0 b3_1 g1 g2 g3 g4 x q := qcx9 (qhP9 s0_0 s0_1 s1 s12 s13 b2_1_0 b3_0 b3_1 g1 g2 g3 g4) h
theorem qik9 {s0_0 : List Symbol} {s0_1 : List Rule} {s1 : List Int} {o2_0_0 : List Redex} {b2_1_0 : Int} {g1 : AHeap} {g2 : AHeap} {v2_0_0 : Nat} {n2_0_0 : Nat} {g3 : AHeap} {g4 : AHeap} (hln2_0_0 : o2_0_0.length = n2_0_0) {r : Bool × (List Redex)} (hr : qbN9 s0_0 s0_1 s1 o2_0_0 b2_1_0 = some r) : ∃ wv2_0_0 : Nat, ∃ hz : AHeap, Lim C 44 [.ag [.d (.rd (s0_0.map qa9)), .d (.rd (s0_1.map qd9))], .d (.rd (s1.map intD)), .fn 45 [.ptr g1.length 0 0 0, .ptr (g1.length + g2.length + g3.length + 2) 0 0 0]] (g1 ++ (.row false 0 1 [[.ref (g1.length + g2.length + 1) v2_0_0 0 n2_0_0]] :: (g2 ++ (.row false v2_0_0 2 (rowP qe9 o2_0_0) :: (g3 ++ (.row false 0 1 [[PI b2_1_0]] :: g4)))))) = some (resOf [PB r.1], (g1 ++ (.row false 0 1 [[.ref (g1.length + g2.length + 1) wv2_0_0 0 r.2.length]] :: (g2 ++ (.row false wv2_0_0 2 (rowP qe9 r.2) :: (g3 ++ (.row false 0 1 [[PI b2_1_0]] :: (g4 ++ hz)))))))) := by
  simp only [qbN9] at hr
  obtain ⟨x7, h1, hr⟩ := bsome hr
  obtain ⟨q1, h1L, h1X⟩ := qhM9 (g1 := g1) (g2 := g2) (g3 := g3) (g4 := g4) (g := (v2_0_0, [])) h1
  rcases x7 with x8 | ⟨x9, x10⟩
  simp only [qcI9, qbe9] at h1X h1L
  obtain ⟨e1, st1⟩ := q1
  obtain ⟨rfl, h1R⟩ := h1X
  obtain ⟨env1, hp1⟩ := st1
  obtain ⟨y4, y5, h1v, h1h⟩ := h1R
  replace h1h : hp1 = _ := h1h
  subst h1h
  try simp only [go_sem, Nat.reduceAdd, la1, la2, la3, la4, la5, la6] at h1L
  try simp only [hln2_0_0] at h1L
  obtain rfl := oiA hr
  refine ⟨y4, y5, Lim_A is44 (nbA rfl) (e := .ret) (env := env1) ?_ (.inr rfl) h1v⟩
  rotate_left
  simp only [qcI9, qbe9] at h1X h1L
  obtain ⟨z11, z12, rfl⟩ := h1X
  try simp only [go_sem, Nat.reduceAdd, la1, la2, la3, la4, la5, la6] at h1L
  try simp only [hln2_0_0] at h1L
  obtain rfl := oiA hr
  refine ⟨z11, (.row false 0 2 [[.d (.rd (s0_0.map qa9)), .d (.rd (s0_1.map qd9))]] :: z12), Lim_A is44 (nbA rfl) (e := .ret) (env := [(0, .ag [.d (.rd (s0_0.map qa9)), .d (.rd (s0_1.map qd9))]), (1, .d (.rd (s1.map intD))), (2, .fn 45 [.ptr g1.length 0 0 0, .ptr (g1.length + g2.length + g3.length + 2) 0 0 0]), (3, .ptr (g1.length + g2.length + g3.length + g4.length + 3) 0 0 0), (6, PB true), (12, .d (.rd (s0_1.map qd9))), (13, PI (s0_1.length : Int)), (14, PI x9)]) (h' := (g1 ++ (.row false 0 1 [[.ref (g1.length + g2.length + 1) z11 0 x10.length]] :: (g2 ++ (.row false z11 2 (rowP qe9 x10) :: (g3 ++ (.row false 0 1 [[PI b2_1_0]] :: (g4 ++ (.row false 0 2 [[.d (.rd (s0_0.map qa9)), .d (.rd (s0_1.map qd9))]] :: z12))))))))) (vs := [PB true]) ?_ (.inr rfl) rfl⟩
  rotate_left
  all_goals (simp +decide only [go_sem, Int.reduceToNat, Nat.reduceAdd, Nat.reduceLT, Nat.reduceMul, Nat.reducePow, reduceCtorEq, qg9, c44, *])
theorem qip9 {s0_0 : List Symbol} {s0_1 : List Rule} {s1 : List Int} {o2_0_0 : List Redex} {b2_1_0 : Int} {g1 : AHeap} {g2 : AHeap} {v2_0_0 : Nat} {n2_0_0 : Nat} {g3 : AHeap} {g4 : AHeap} (hln2_0_0 : o2_0_0.length = n2_0_0) {r : Bool × (List Redex)} (hr : qbN9 s0_0 s0_1 s1 o2_0_0 b2_1_0 = some r) : ∃ wv2_0_0 : Nat, ∃ hz : AHeap, callP C (Lim C) 44 [.ag [.d (.rd (s0_0.map qa9)), .d (.rd (s0_1.map qd9))], .d (.rd (s1.map intD)), .fn 45 [.ptr g1.length 0 0 0, .ptr (g1.length + g2.length + g3.length + 2) 0 0 0]] (g1 ++ (.row false 0 1 [[.ref (g1.length + g2.length + 1) v2_0_0 0 n2_0_0]] :: (g2 ++ (.row false v2_0_0 2 (rowP qe9 o2_0_0) :: (g3 ++ (.row false 0 1 [[PI b2_1_0]] :: g4)))))) = some (resOf [PB r.1], (g1 ++ (.row false 0 1 [[.ref (g1.length + g2.length + 1) wv2_0_0 0 r.2.length]] :: (g2 ++ (.row false wv2_0_0 2 (rowP qe9 r.2) :: (g3 ++ (.row false 0 1 [[PI b2_1_0]] :: (g4 ++ hz)))))))) := by
  obtain ⟨wv2_0_0, hz, h1⟩ := qik9 hln2_0_0 hr (g1 := g1) (g2 := g2) (v2_0_0 := v2_0_0) (n2_0_0 := n2_0_0) (g3 := g3) (g4 := g4)
  exact ⟨wv2_0_0, hz, qZ9 rfl rfl rfl h1⟩
def b14_0 : ACode := .seq (.reg [] [] [.K 18 (.bin .lss (.tmp 17) (.tmp 16))]) (.seq (.cond (.tmp 18) (some 18) (.skip) (.exit 0)) (.seq (.block 1 262336 (.seq (.reg [] [] [.M 19 17, .T 20 (.ix 1 (.tmp 15) (.tmp 17)), .T 21 (.load none (.tmp 20)), .K 6 (.alloc [.d (.v (.int .i64 0))] 1), ⟨none, .store 1 (.tmp 6) (.tmp 19), none, false, false⟩, .N 7 21]) (.reg [] [] [⟨some (22, false), .load (some 2) (.tmp 2), none, true, false⟩, .M 23 1, ⟨some (24, false), .load none (.tmp 6), none, true, false⟩, .M 25 7, ⟨some (26, false), .cut 1 (.tmp 23) (some (.tmp 24)) (some (.tmp 25)), none, true, false⟩, .T 27 (.mkF 45 [.tmp 5, .tmp 6]), .T 28 (.call 44 [.tmp 22, .tmp 26, .tmp 27])]))) (.reg [] [] [.T 29 (.bin .add (.tmp 17) (cI 1)), .N 17 29])))
def c14 : ACode := .seq (.reg [] [(4, 0)] [.K 2 (.box (.tmp 0)), .K 4 (.mv (.const (.slice none 0 0)))]) (.seq (.seq (.reg [] [] [.T 8 (.load (some 2) (.tmp 2)), .M 9 1, .T 10 (.call 42 [.tmp 8, .tmp 9]), .K 11 (.bin .neq (.tmp 10) (cI 0))]) (.cond (.tmp 11) (some 11) (.seq (.reg [] [(4, 0)] [.K 4 (.mv (.const (.slice none 0 0)))]) (.ret)) (.skip))) (.seq (.reg [] [(5, 2)] [.K 5 (.alloc [.im true []] 1)]) (.seq (.seq (.reg [] [] [.T 12 (.fa 0 (.tmp 2)), .T 13 (.load none (.tmp 12)), .M 14 1, .K 15 (.call 43 [.tmp 13, .tmp 14]), .K 16 (.len (.tmp 15)), .K 17 (.mv (cI 0))]) (.block 0 262336 (.loop b14_0))) (.seq (.reg [] [(4, 0)] [.T 30 (.load none (.tmp 5)), .N 4 30]) (.ret)))))
theorem is14 : IsF C 14 31 493815 c14 [.tmp 4] := ⟨⟨Tryd.f14, _, C_P ▸ Tryd.func14, rfl, rfl, rfl, by kernel_rfl, rfl⟩⟩
def qfF9 (s0 : System) (s1 : List Int) (s4 : List Redex) (s15 : List Int) (s16 : Int) (b2_0 : List Symbol) (b2_1 : List Rule) : Int × (List Redex) → Nat × AHeap → St := fun (s17, o5_0) (v5_0, gt) => ⟨[(0, .d (.ag (qf9 s0))), (1, .d (.rd (s1.map intD))), (2, .ptr 0 0 0 0), (4, .d (.rd (s4.map qe9))), (5, .ptr 1 0 0 0), (15, .d (.rd (s15.map intD))), (16, PI s16), (17, PI s17)], (.row false 0 2 [[.d (.rd (b2_0.map qa9)), .d (.rd (b2_1.map qd9))]] :: (.row false 0 1 [[.ref 2 v5_0 0 o5_0.length]] :: (.row false v5_0 2 (rowP qe9 o5_0) :: gt)))⟩
def qjE9 (s0 : System) (s1 : List Int) (s4 : List Redex) (s15 : List Int) (s16 : Int) (b2_0 : List Symbol) (b2_1 : List Rule) : (Int × (List Redex)) → AExit × St → Prop := fun (s17, o5_0) q => ∃ v5_0 : Nat, ∃ h1 : AHeap, q = (.exit 0, ⟨[(0, .d (.ag (qf9 s0))), (1, .d (.rd (s1.map intD))), (2, .ptr 0 0 0 0), (4, .d (.rd (s4.map qe9))), (5, .ptr 1 0 0 0), (15, .d (.rd (s15.map intD))), (16, PI s16), (17, PI s17)], (.row false 0 2 [[.d (.rd (b2_0.map qa9)), .d (.rd (b2_1.map qd9))]] :: (.row false 0 1 [[.ref 2 v5_0 0 o5_0.length]] :: (.row false v5_0 2 (rowP qe9 o5_0) :: h1)))⟩)
theorem qrp9 (s0 : System) (s1 : List Int) (s4 : List Redex) (s15 : List Int) (s16 : Int) (b2_0 : List Symbol) (b2_1 : List Rule) : ∀ (s : Int × (List Redex)) (g : Nat × AHeap) r, qeu9 s0 s1 s4 s15 s16 b2_0 b2_1 s = some r → Sum.elim (fun s' => ∃ g', semA C (Lim C) 493815 b14_0 (qfF9 s0 s1 s4 s15 s16 b2_0 b2_1 s g) = some (.normal, qfF9 s0 s1 s4 s15 s16 b2_0 b2_1 s' g')) (fun x => ∃ q, semA C (Lim C) 493815 b14_0 (qfF9 s0 s1 s4 s15 s16 b2_0 b2_1 s g) = some q ∧ q.1 ≠ .normal ∧ qjE9 s0 s1 s4 s15 s16 b2_0 b2_1 x q) r := by
  intro s g r hr
  obtain ⟨s17, o5_0⟩ := s
  obtain ⟨v5_0, gt⟩ := g
  simp only [qeu9] at hr
  rcases pcA (s17 < s16) with h1 | h1
  simp only [h1, if_true] at hr
  obtain ⟨x3, h2, hr⟩ := bsome hr
  obtain ⟨x4, h3, hr⟩ := bsome hr
  obtain ⟨x5, h4, hr⟩ := bsome hr
  obtain ⟨z6, z7, h4k⟩ := qip9 (g1 := (.row false 0 2 [[.d (.rd (b2_0.map qa9)), .d (.rd (b2_1.map qd9))]] :: [])) (g2 := []) (v2_0_0 := v5_0) (n2_0_0 := o5_0.length) (g3 := gt) (g4 := []) rfl h4
  try simp only [go_sem, Nat.reduceAdd, la1, la2, la3, la4, la5, la6] at h4k
  obtain rfl := oiA hr
  refine ⟨(z6, (gt ++ (.row false 0 1 [[PI s17]] :: z7))), ?_⟩
  rotate_left
  simp only [h1, if_false] at hr
  obtain rfl := oiA hr
  refine ⟨(.exit 0, ⟨[(0, .d (.ag (qf9 s0))), (1, .d (.rd (s1.map intD))), (2, .ptr 0 0 0 0), (4, .d (.rd (s4.map qe9))), (5, .ptr 1 0 0 0), (15, .d (.rd (s15.map intD))), (16, PI s16), (17, PI s17)], (.row false 0 2 [[.d (.rd (b2_0.map qa9)), .d (.rd (b2_1.map qd9))]] :: (.row false 0 1 [[.ref 2 v5_0 0 o5_0.length]] :: (.row false v5_0 2 (rowP qe9 o5_0) :: gt)))⟩), ?_, nofun, v5_0, gt, rfl⟩
  rotate_left
  all_goals (simp +decide only [go_sem, Int.reduceToNat, Nat.reduceAdd, Nat.reduceLT, Nat.reduceMul, Nat.reducePow, reduceCtorEq, qfF9, b14_0, *])
theorem qrG9 {s0 : System} {s1 : List Int} {s4 : List Redex} {s15 : List Int} {s16 : Int} {b2_0 : List Symbol} {b2_1 : List Rule} {s : Int × (List Redex)} {g : Nat × AHeap} {x} (h : wh (qeu9 s0 s1 s4 s15 s16 b2_0 b2_1) s = some x) : ∃ q, qp9 (semA C (Lim C) 493815 b14_0) (qfF9 s0 s1 s4 s15 s16 b2_0 b2_1 s g) = some q ∧ qjE9 s0 s1 s4 s15 s16 b2_0 b2_1 x q := qcx9 (qrp9 s0 s1 s4 s15 s16 b2_0 b2_1) h
theorem qtD9 {a0 : System} {a1 : List Int} {r : (List Redex)} (hr : qek9 a0 a1 = some r) : ∃ p hp, Lim C 14 [.d (.ag (qf9 a0)), .d (.rd (a1.map intD))] [] = some (p, hp) ∧ rsT hp p = some (.d (.rd (r.map qe9))) := by
  simp only [qek9] at hr
  obtain ⟨x1, h1, hr⟩ := bsome hr
  have h1k := fun h => qje9 (h := h) (args := [.ag [.d (.rd (a0.Sig.map qa9)), .d (.rd (a0.Rules.map qd9))], .d (.rd (a1.map intD))]) h1 rfl
  try simp only [go_sem] at h1k
  rcases pcA (x1 = 0) with h2 | h2
  simp only [h2, if_true] at hr
  obtain ⟨x2, h3, hr⟩ := bsome hr
  have h3k := fun h => qjS9 (h := h) h3
  try simp only [go_sem] at h3k
  obtain ⟨x8, h4, hr⟩ := bsome hr
  obtain ⟨q4, h4L, h4X⟩ := qrG9 (g := (0, [])) h4
  obtain ⟨x9, x10⟩ := x8
  simp only [qjE9, qfF9] at h4X h4L
  obtain ⟨z11, z12, rfl⟩ := h4X
  try simp only [go_sem, Nat.reduceAdd, la1, la2, la3, la4, la5, la6] at h4L
  obtain rfl := oiA hr
  refine qh9 is14 (nbA rfl) (q := (.ret, ⟨[(0, .d (.ag (qf9 a0))), (1, .d (.rd (a1.map intD))), (2, .ptr 0 0 0 0), (4, .d (.rd (x10.map qe9))), (5, .ptr 1 0 0 0), (15, .d (.rd (x2.map intD))), (16, PI (x2.length : Int)), (17, PI x9)], (.row false 0 2 [[.d (.rd (a0.Sig.map qa9)), .d (.rd (a0.Rules.map qd9))]] :: (.row false 0 1 [[.ref 2 z11 0 x10.length]] :: (.row true z11 2 (rowP qe9 x10) :: z12)))⟩)) ?_ (.inr rfl) ⟨[.d (.rd (x10.map qe9))], rfl, ?_⟩
  rotate_left 2
  simp only [h2, if_false] at hr
  obtain rfl := oiA hr
  refine qh9 is14 (nbA rfl) (q := (.ret, ⟨[(0, .d (.ag (qf9 a0))), (1, .d (.rd (a1.map intD))), (2, .ptr 0 0 0 0), (4, .d (.rd (([] : List Redex).map qe9)))], (.row false 0 2 [[.d (.rd (a0.Sig.map qa9)), .d (.rd (a0.Rules.map qd9))]] :: [])⟩)) ?_ (.inr rfl) ⟨[.d (.rd (([] : List Redex).map qe9))], rfl, ?_⟩
  rotate_left 2
  all_goals (simp +decide only [go_sem, Int.reduceToNat, Nat.reduceAdd, Nat.reduceLT, Nat.reduceMul, Nat.reducePow, reduceCtorEq, qg9, c14, *])
theorem qkA9 {a0 : System} {a1 : List Int} {r : (List Redex)} (hr : qek9 a0 a1 = some r) {h : AHeap} {args : List PV} (ha : mapO (rs h depth) args = some [.ag (qf9 a0), .rd (a1.map intD)]) : callP C (Lim C) 14 args h = some (.d (.rd (r.map qe9)), if scalar (.d (.rd (r.map qe9))) = true then h else freezeAll (args.flatMap (reach h depth)) h) := qdD9 rfl rfl rfl (qtD9 hr) ha
def c60 : ACode := .seq (.reg [] [] [.K 4 (.mv (.const (.bool false)))]) (.seq (.reg [] [] [.T 5 (.load none (.tmp 1)), .M 6 0, .T 7 (.build [(0, 1), (1, 1)] [.d (.v (.int .i64 0)), .d (.v (.int .i64 0))] [(0, .tmp 5), (1, .tmp 6)]), ⟨none, .store 2 (.tmp 2) (.tmp 7), none, false, false⟩]) (.seq (.reg [] [] [.K 4 (.mv (.const (.bool false)))]) (.ret)))
theorem is60 : IsF C 60 8 23 c60 [.tmp 4] := ⟨⟨Tryd.f60, _, C_P ▸ Tryd.func60, rfl, rfl, rfl, by kernel_rfl, rfl⟩⟩
theorem qlH9 {s0 : Int} {b2_0 : Int} {b2_1 : Int} {b1_0 : Int} {g1 : AHeap} {g2 : AHeap} {g3 : AHeap} {r : Bool × Int × Int} (hr : qeH9 s0 b2_0 b2_1 b1_0 = some r) : Lim C 60 [PI s0, .ptr (g1.length + g2.length + 1) 0 0 0, .ptr g1.length 0 0 0] (g1 ++ (.row false 0 2 [[PI b2_0, PI b2_1]] :: (g2 ++ (.row false 0 1 [[PI b1_0]] :: g3)))) = some (resOf [PB r.1], (g1 ++ (.row false 0 2 [[PI r.2.1, PI r.2.2]] :: (g2 ++ (.row false 0 1 [[PI b1_0]] :: g3))))) := by
  simp only [qeH9] at hr
  obtain rfl := oiA hr
  refine (Lim_A is60 (nbA rfl) (e := .ret) (env := [(0, PI s0), (1, .ptr (g1.length + g2.length + 1) 0 0 0), (2, .ptr g1.length 0 0 0), (4, PB false)]) (h' := (g1 ++ (.row false 0 2 [[PI b1_0, PI s0]] :: (g2 ++ (.row false 0 1 [[PI b1_0]] :: g3))))) (vs := [PB false]) ?_ (.inr rfl) rfl)
  rotate_left
  all_goals (simp +decide only [go_sem, Int.reduceToNat, Nat.reduceAdd, Nat.reduceLT, Nat.reduceMul, Nat.reducePow, reduceCtorEq, qg9, c60, *])
theorem qlf9 {s0 : Int} {b2_0 : Int} {b2_1 : Int} {b1_0 : Int} {g1 : AHeap} {g2 : AHeap} {g3 : AHeap} {r : Bool × Int × Int} (hr : qeH9 s0 b2_0 b2_1 b1_0 = some r) : callP C (Lim C) 60 [PI s0, .ptr (g1.length + g2.length + 1) 0 0 0, .ptr g1.length 0 0 0] (g1 ++ (.row false 0 2 [[PI b2_0, PI b2_1]] :: (g2 ++ (.row false 0 1 [[PI b1_0]] :: g3)))) = some (resOf [PB r.1], (g1 ++ (.row false 0 2 [[PI r.2.1, PI r.2.2]] :: (g2 ++ (.row false 0 1 [[PI b1_0]] :: g3))))) := by
  have h1 := qlH9 hr (g1 := g1) (g2 := g2) (g3 := g3)
  exact qZ9 rfl rfl rfl h1
def qL9 (s0_0 : List Symbol) (s0_1 : List Rule) (s1 : List Int) (s12 : List Rule) (s13 : Int) (b2_0_0 : Int) (b3_0 : List Symbol) (b3_1 : List Rule) (g1 : AHeap) (g2 : AHeap) (g3 : AHeap) : Int × Int × Int → AHeap → St := fun (s14, b2_1_0, b2_1_1) gt => ⟨[(0, .ag [.d (.rd (s0_0.map qa9)), .d (.rd (s0_1.map qd9))]), (1, .d (.rd (s1.map intD))), (2, .fn 60 [.ptr (g1.length + g2.length + 1) 0 0 0, .ptr g1.length 0 0 0]), (3, .ptr (g1.length + g2.length + g3.length + 2) 0 0 0), (6, PB false), (12, .d (.rd (s12.map qd9))), (13, PI s13), (14, PI s14)], (g1 ++ (.row false 0 2 [[PI b2_1_0, PI b2_1_1]] :: (g2 ++ (.row false 0 1 [[PI b2_0_0]] :: (g3 ++ (.row false 0 2 [[.d (.rd (b3_0.map qa9)), .d (.rd (b3_1.map qd9))]] :: gt))))))⟩
def qbH9 (s0_0 : List Symbol) (s0_1 : List Rule) (s1 : List Int) (s12 : List Rule) (s13 : Int) (b2_0_0 : Int) (b3_0 : List Symbol) (b3_1 : List Rule) (g1 : AHeap) (g2 : AHeap) (g3 : AHeap) : ((Bool × Int × Int) ⊕ (Int × Int × Int)) → AExit × St → Prop
  | .inl r, q => q.1 = .ret ∧ ∃ hz : AHeap, mapO (resP C.P q.2) [.tmp 6] = some [PB r.1] ∧ q.2.h = (g1 ++ (.row false 0 2 [[PI r.2.1, PI r.2.2]] :: (g2 ++ (.row false 0 1 [[PI b2_0_0]] :: (g3 ++ hz)))))
  | .inr (s14, b2_1_0, b2_1_1), q => ∃ h1 : AHeap, q = (.exit 0, ⟨[(0, .ag [.d (.rd (s0_0.map qa9)), .d (.rd (s0_1.map qd9))]), (1, .d (.rd (s1.map intD))), (2, .fn 60 [.ptr (g1.length + g2.length + 1) 0 0 0, .ptr g1.length 0 0 0]), (3, .ptr (g1.length + g2.length + g3.length + 2) 0 0 0), (6, PB false), (12, .d (.rd (s12.map qd9))), (13, PI s13), (14, PI s14)], (g1 ++ (.row false 0 2 [[PI b2_1_0, PI b2_1_1]] :: (g2 ++ (.row false 0 1 [[PI b2_0_0]] :: (g3 ++ (.row false 0 2 [[.d (.rd (b3_0.map qa9)), .d (.rd (b3_1.map qd9))]] :: h1))))))⟩)
theorem qfK9 (s0_0 : List Symbol) (s0_1 : List Rule) (s1 : List Int) (s12 : List Rule) (s13 : Int) (b2_0_0 : Int) (b3_0 : List Symbol) (b3_1 : List Rule) (g1 : AHeap) (g2 : AHeap) (g3 : AHeap) : ∀ (s : Int × Int × Int) (g : AHeap) r, qr9 s0_0 s0_1 s1 s12 s13 b2_0_0 b3_0 b3_1 s = some r → Sum.elim (fun s' => ∃ g', semA C (Lim C) 4398113682895 b44_0 (qL9 s0_0 s0_1 s1 s12 s13 b2_0_0 b3_0 b3_1 g1 g2 g3 s g) = some (.normal, qL9 s0_0 s0_1 s1 s12 s13 b2_0_0 b3_0 b3_1 g1 g2 g3 s' g')) (fun x => ∃ q, semA C (Lim C) 4398113682895 b44_0 (qL9 s0_0 s0_1 s1 s12 s13 b2_0_0 b3_0 b3_1 g1 g2 g3 s g) = some q ∧ q.1 ≠ .normal ∧ qbH9 s0_0 s0_1 s1 s12 s13 b2_0_0 b3_0 b3_1 g1 g2 g3 x q) r := by
  intro s g r hr
  obtain ⟨s14, b2_1_0, b2_1_1⟩ := s
  have ⟨gt, hg0⟩ : ∃ y, y = g := ⟨_, rfl⟩
  subst hg0
  simp only [qr9] at hr
  rcases pcA (s14 < s13) with h1 | h1
  simp only [h1, if_true] at hr
  obtain ⟨x1, h2, hr⟩ := bsome hr
  obtain ⟨x2, h3, hr⟩ := bsome hr
  obtain ⟨x3, h4, hr⟩ := bsome hr
  rcases pcA (x2 = x3) with h5 | h5
  simp only [h5, if_true] at hr
  obtain ⟨x4, h6, hr⟩ := bsome hr
  have h6k := fun h => qiB9 (h := h) h6
  try simp only [go_sem] at h6k
  cases h7 : x4.2
  simp only [h7, Bool.false_eq_true, if_false] at hr
  obtain rfl := oiA hr
  refine ⟨(gt ++ (.row false 0 2 [[.d (.rd (x1.L.map intD)), .d (.rd (x1.R.map intD))]] :: [])), ?_⟩
  rotate_left
  simp only [h7, if_true] at hr
  obtain ⟨x5, h8, hr⟩ := bsome hr
  have h8k := qlf9 (g1 := g1) (g2 := g2) (g3 := (g3 ++ (.row false 0 2 [[.d (.rd (b3_0.map qa9)), .d (.rd (b3_1.map qd9))]] :: (gt ++ (.row false 0 2 [[.d (.rd (x1.L.map intD)), .d (.rd (x1.R.map intD))]] :: []))))) h8
  try simp only [go_sem, Nat.reduceAdd, la1, la2, la3, la4, la5, la6] at h8k
  cases h9 : x5.1
  simp only [h9, Bool.false_eq_true, if_false] at hr
  obtain rfl := oiA hr
  refine ⟨(.ret, ⟨[(0, .ag [.d (.rd (s0_0.map qa9)), .d (.rd (s0_1.map qd9))]), (1, .d (.rd (s1.map intD))), (2, .fn 60 [.ptr (g1.length + g2.length + 1) 0 0 0, .ptr g1.length 0 0 0]), (3, .ptr (g1.length + g2.length + g3.length + 2) 0 0 0), (6, PB false), (7, PI s14), (8, .ptr (g1.length + g2.length + g3.length + gt.length + 3) 0 0 0), (10, PB x4.2), (12, .d (.rd (s12.map qd9))), (13, PI s13), (14, PI s14)], (g1 ++ (.row false 0 2 [[PI x5.2.1, PI x5.2.2]] :: (g2 ++ (.row false 0 1 [[PI b2_0_0]] :: (g3 ++ (.row false 0 2 [[.d (.rd (b3_0.map qa9)), .d (.rd (b3_1.map qd9))]] :: (gt ++ (.row false 0 2 [[.d (.rd (x1.L.map intD)), .d (.rd (x1.R.map intD))]] :: []))))))))⟩), ?_, nofun, rfl, (.row false 0 2 [[.d (.rd (b3_0.map qa9)), .d (.rd (b3_1.map qd9))]] :: (gt ++ (.row false 0 2 [[.d (.rd (x1.L.map intD)), .d (.rd (x1.R.map intD))]] :: []))), rfl, rfl⟩
  rotate_left
  simp only [h9, if_true] at hr
  obtain rfl := oiA hr
  refine ⟨(gt ++ (.row false 0 2 [[.d (.rd (x1.L.map intD)), .d (.rd (x1.R.map intD))]] :: [])), ?_⟩
  rotate_left
  simp only [h5, if_false] at hr
  obtain rfl := oiA hr
  refine ⟨(gt ++ (.row false 0 2 [[.d (.rd (x1.L.map intD)), .d (.rd (x1.R.map intD))]] :: [])), ?_⟩
  rotate_left
  simp only [h1, if_false] at hr
  obtain rfl := oiA hr
  refine ⟨(.exit 0, ⟨[(0, .ag [.d (.rd (s0_0.map qa9)), .d (.rd (s0_1.map qd9))]), (1, .d (.rd (s1.map intD))), (2, .fn 60 [.ptr (g1.length + g2.length + 1) 0 0 0, .ptr g1.length 0 0 0]), (3, .ptr (g1.length + g2.length + g3.length + 2) 0 0 0), (6, PB false), (12, .d (.rd (s12.map qd9))), (13, PI s13), (14, PI s14)], (g1 ++ (.row false 0 2 [[PI b2_1_0, PI b2_1_1]] :: (g2 ++ (.row false 0 1 [[PI b2_0_0]] :: (g3 ++ (.row false 0 2 [[.d (.rd (b3_0.map qa9)), .d (.rd (b3_1.map qd9))]] :: gt))))))⟩), ?_, nofun, gt, rfl⟩
  rotate_left
  all_goals (simp +decide only [go_sem, Int.reduceToNat, Nat.reduceAdd, Nat.reduceLT, Nat.reduceMul, Nat.reducePow, reduceCtorEq, qL9, b44_0, *])
theorem qfQ9 {s0_0 : List Symbol} {s0_1 : List Rule} {s1 : List Int} {s12 : List Rule} {s13 : Int} {b2_0_0 : Int} {b3_0 : List Symbol} {b3_1 : List Rule} {g1 : AHeap} {g2 : AHeap} {g3 : AHeap} {s : Int × Int × Int} {g : AHeap} {x} (h : wh (qr9 s0_0 s0_1 s1 s12 s13 b2_0_0 b3_0 b3_1) s = some x) : ∃ q, qp9 (semA C (Lim C) 4398113682895 b44_0) (qL9 s0_0 s0_1 s1 s12 s13 b2_0_0 b3_0 b3_1 g1 g2 g3 s g) = some q ∧ qbH9 s0_0 s0_1 s1 s12 s13 b2_0_0 b3_0 b3_1 g1 g2 g3 x q := qcx9 (qfK9 s0_0 s0_1 s1 s12 s13 b2_0_0 b3_0 b3_1 g1 g2 g3) h
theorem qgm9 {s0_0 : List Symbol} {s0_1 : List Rule} {s1 : List Int} {b2_1_0 : Int} {b2_1_1 : Int} {b2_0_0 : Int} {g1 : AHeap} {g2 : AHeap} {g3 : AHeap} {r : Bool × Int × Int} (hr : qbb9 s0_0 s0_1 s1 b2_1_0 b2_1_1 b2_0_0 = some r) : ∃ hz : AHeap, Lim C 44 [.ag [.d (.rd (s0_0.map qa9)), .d (.rd (s0_1.map qd9))], .d (.rd (s1.map intD)), .fn 60 [.ptr (g1.length + g2.length + 1) 0 0 0, .ptr g1.length 0 0 0]] (g1 ++ (.row false 0 2 [[PI b2_1_0, PI b2_1_1]] :: (g2 ++ (.row false 0 1 [[PI b2_0_0]] :: g3)))) = some (resOf [PB r.1], (g1 ++ (.row false 0 2 [[PI r.2.1, PI r.2.2]] :: (g2 ++ (.row false 0 1 [[PI b2_0_0]] :: (g3 ++ hz)))))) := by
  simp only [qbb9] at hr
  obtain ⟨x6, h1, hr⟩ := bsome hr
  obtain ⟨q1, h1L, h1X⟩ := qfQ9 (g1 := g1) (g2 := g2) (g3 := g3) (g := []) h1
  rcases x6 with x7 | ⟨x8, x9, x10⟩
  simp only [qbH9, qL9] at h1X h1L
  obtain ⟨e1, st1⟩ := q1
  obtain ⟨rfl, h1R⟩ := h1X
  obtain ⟨env1, hp1⟩ := st1
  obtain ⟨y6, h1v, h1h⟩ := h1R
  replace h1h : hp1 = _ := h1h
  subst h1h
  try simp only [go_sem, Nat.reduceAdd, la1, la2, la3, la4, la5, la6] at h1L
  obtain rfl := oiA hr
  refine ⟨y6, Lim_A is44 (nbA rfl) (e := .ret) (env := env1) ?_ (.inr rfl) h1v⟩
  rotate_left
  simp only [qbH9, qL9] at h1X h1L
  obtain ⟨z11, rfl⟩ := h1X
  try simp only [go_sem, Nat.reduceAdd, la1, la2, la3, la4, la5, la6] at h1L
  obtain rfl := oiA hr
  refine ⟨(.row false 0 2 [[.d (.rd (s0_0.map qa9)), .d (.rd (s0_1.map qd9))]] :: z11), Lim_A is44 (nbA rfl) (e := .ret) (env := [(0, .ag [.d (.rd (s0_0.map qa9)), .d (.rd (s0_1.map qd9))]), (1, .d (.rd (s1.map intD))), (2, .fn 60 [.ptr (g1.length + g2.length + 1) 0 0 0, .ptr g1.length 0 0 0]), (3, .ptr (g1.length + g2.length + g3.length + 2) 0 0 0), (6, PB true), (12, .d (.rd (s0_1.map qd9))), (13, PI (s0_1.length : Int)), (14, PI x8)]) (h' := (g1 ++ (.row false 0 2 [[PI x9, PI x10]] :: (g2 ++ (.row false 0 1 [[PI b2_0_0]] :: (g3 ++ (.row false 0 2 [[.d (.rd (s0_0.map qa9)), .d (.rd (s0_1.map qd9))]] :: z11))))))) (vs := [PB true]) ?_ (.inr rfl) rfl⟩
  rotate_left
  all_goals (simp +decide only [go_sem, Int.reduceToNat, Nat.reduceAdd, Nat.reduceLT, Nat.reduceMul, Nat.reducePow, reduceCtorEq, qg9, c44, *])
theorem qgh9 {s0_0 : List Symbol} {s0_1 : List Rule} {s1 : List Int} {b2_1_0 : Int} {b2_1_1 : Int} {b2_0_0 : Int} {g1 : AHeap} {g2 : AHeap} {g3 : AHeap} {r : Bool × Int × Int} (hr : qbb9 s0_0 s0_1 s1 b2_1_0 b2_1_1 b2_0_0 = some r) : ∃ hz : AHeap, callP C (Lim C) 44 [.ag [.d (.rd (s0_0.map qa9)), .d (.rd (s0_1.map qd9))], .d (.rd (s1.map intD)), .fn 60 [.ptr (g1.length + g2.length + 1) 0 0 0, .ptr g1.length 0 0 0]] (g1 ++ (.row false 0 2 [[PI b2_1_0, PI b2_1_1]] :: (g2 ++ (.row false 0 1 [[PI b2_0_0]] :: g3)))) = some (resOf [PB r.1], (g1 ++ (.row false 0 2 [[PI r.2.1, PI r.2.2]] :: (g2 ++ (.row false 0 1 [[PI b2_0_0]] :: (g3 ++ hz)))))) := by
  obtain ⟨hz, h1⟩ := qgm9 hr (g1 := g1) (g2 := g2) (g3 := g3)
  exact ⟨hz, qZ9 rfl rfl rfl h1⟩
def b59_0 : ACode := .seq (.seq (.reg [] [] [.M 11 8, .T 12 (.load none (.tmp 1)), .T 13 (.load none (.tmp 6)), .T 14 (.ix 1 (.tmp 12) (.tmp 13)), .T 15 (.load none (.tmp 14)), .K 16 (.bin .lss (.tmp 11) (.tmp 15))]) (.cond (.tmp 16) (some 16) (.skip) (.exit 0))) (.seq (.block 1 8454144 (.seq (.reg [] [] [.T 21 (.load none (.tmp 2)), .M 22 8, .K 23 (.callV (.tmp 21) [.tmp 22])]) (.cond (.tmp 23) (some 23) (.seq (.reg [] [] [.K 7 (.mv (.const (.bool true)))]) (.ret)) (.skip)))) (.reg [] [] [.T 17 (.load none (.tmp 1)), .M 18 8, .T 19 (.ix 1 (.tmp 17) (.tmp 18)), .T 20 (.load none (.tmp 19)), .N 8 20]))
def c59 : ACode := .seq (.reg [] [] [.K 6 (.box (.tmp 0)), .K 7 (.mv (.const (.bool false)))]) (.seq (.seq (.reg [] [] [.T 9 (.load none (.tmp 6)), .T 10 (.bin .add (.tmp 9) (cI 1)), .N 8 10]) (.block 0 8454144 (.loop b59_0))) (.seq (.reg [] [] [⟨some (24, false), .load (some 2) (.tmp 3), none, true, false⟩, ⟨some (25, false), .load none (.tmp 4), none, true, false⟩, ⟨some (26, false), .load none (.tmp 6), none, true, false⟩, ⟨some (27, false), .load none (.tmp 1), none, true, false⟩, ⟨some (28, false), .load none (.tmp 6), none, true, false⟩, ⟨some (29, false), .ix 1 (.tmp 27) (.tmp 28), none, true, false⟩, ⟨some (30, false), .load none (.tmp 29), none, true, false⟩, ⟨some (31, false), .cut 1 (.tmp 25) (some (.tmp 26)) (some (.tmp 30)), none, true, false⟩, .T 32 (.mkF 60 [.tmp 6, .tmp 5]), .T 33 (.call 44 [.tmp 24, .tmp 31, .tmp 32]), .T 34 (.not (.tmp 33)), .N 7 34]) (.ret)))
theorem is59 : IsF C 59 35 8454655 c59 [.tmp 7] := ⟨⟨Tryd.f59, _, C_P ▸ Tryd.func59, rfl, rfl, rfl, by kernel_rfl, rfl⟩⟩
def qcW9 (s0 : Int) (b6_0 : Int) (g1 : AHeap) (g2 : AHeap) (g3 : AHeap) (g4 : AHeap) (g5 : AHeap) (g6 : AHeap) : Int × (List Symbol) × (List Rule) × (List Int) × (List Int) × Int × Int → AHeap → St := fun (s8, b2_0_2_0, b2_0_2_1, b2_0_3_0, b1_0, b2_0_4_0, b2_0_4_1) gt => ⟨[(0, PI s0), (1, .ptr (g1.length + g2.length + g3.length + 2) 0 0 0), (2, .ptr (g1.length + g2.length + g3.length + g4.length + g5.length + 4) 0 0 0), (3, .ptr g1.length 0 0 0), (4, .ptr (g1.length + g2.length + 1) 0 0 0), (5, .ptr (g1.length + g2.length + g3.length + g4.length + 3) 0 0 0), (6, .ptr (g1.length + g2.length + g3.length + g4.length + g5.length + g6.length + 5) 0 0 0), (7, PB false), (8, PI s8)], (g1 ++ (.row false 0 2 [[.d (.rd (b2_0_2_0.map qa9)), .d (.rd (b2_0_2_1.map qd9))]] :: (g2 ++ (.row false 0 1 [[.d (.rd (b2_0_3_0.map intD))]] :: (g3 ++ (.row false 0 1 [[.d (.rd (b1_0.map intD))]] :: (g4 ++ (.row false 0 2 [[PI b2_0_4_0, PI b2_0_4_1]] :: (g5 ++ (.row false 0 1 [[.fn 59 [.ptr (g1.length + g2.length + g3.length + 2) 0 0 0, .ptr (g1.length + g2.length + g3.length + g4.length + g5.length + 4) 0 0 0, .ptr g1.length 0 0 0, .ptr (g1.length + g2.length + 1) 0 0 0, .ptr (g1.length + g2.length + g3.length + g4.length + 3) 0 0 0]]] :: (g6 ++ (.row false 0 1 [[PI b6_0]] :: gt))))))))))))⟩
def qfs9 (s0 : Int) (b6_0 : Int) (g1 : AHeap) (g2 : AHeap) (g3 : AHeap) (g4 : AHeap) (g5 : AHeap) (g6 : AHeap) : ((Bool × (List Symbol) × (List Rule) × (List Int) × (List Int) × Int × Int) ⊕ (Int × (List Symbol) × (List Rule) × (List Int) × (List Int) × Int × Int)) → AExit × St → Prop
  | .inl r, q => q.1 = .ret ∧ ∃ hz : AHeap, mapO (resP C.P q.2) [.tmp 7] = some [PB r.1] ∧ q.2.h = (g1 ++ (.row false 0 2 [[.d (.rd (r.2.1.map qa9)), .d (.rd (r.2.2.1.map qd9))]] :: (g2 ++ (.row false 0 1 [[.d (.rd (r.2.2.2.1.map intD))]] :: (g3 ++ (.row false 0 1 [[.d (.rd (r.2.2.2.2.1.map intD))]] :: (g4 ++ (.row false 0 2 [[PI r.2.2.2.2.2.1, PI r.2.2.2.2.2.2]] :: (g5 ++ (.row false 0 1 [[.fn 59 [.ptr (g1.length + g2.length + g3.length + 2) 0 0 0, .ptr (g1.length + g2.length + g3.length + g4.length + g5.length + 4) 0 0 0, .ptr g1.length 0 0 0, .ptr (g1.length + g2.length + 1) 0 0 0, .ptr (g1.length + g2.length + g3.length + g4.length + 3) 0 0 0]]] :: (g6 ++ hz)))))))))))
  | .inr (s8, b2_0_2_0, b2_0_2_1, b2_0_3_0, b1_0, b2_0_4_0, b2_0_4_1), q => ∃ h1 : AHeap, q = (.exit 0, ⟨[(0, PI s0), (1, .ptr (g1.length + g2.length + g3.length + 2) 0 0 0), (2, .ptr (g1.length + g2.length + g3.length + g4.length + g5.length + 4) 0 0 0), (3, .ptr g1.length 0 0 0), (4, .ptr (g1.length + g2.length + 1) 0 0 0), (5, .ptr (g1.length + g2.length + g3.length + g4.length + 3) 0 0 0), (6, .ptr (g1.length + g2.length + g3.length + g4.length + g5.length + g6.length + 5) 0 0 0), (7, PB false), (8, PI s8)], (g1 ++ (.row false 0 2 [[.d (.rd (b2_0_2_0.map qa9)), .d (.rd (b2_0_2_1.map qd9))]] :: (g2 ++ (.row false 0 1 [[.d (.rd (b2_0_3_0.map intD))]] :: (g3 ++ (.row false 0 1 [[.d (.rd (b1_0.map intD))]] :: (g4 ++ (.row false 0 2 [[PI b2_0_4_0, PI b2_0_4_1]] :: (g5 ++ (.row false 0 1 [[.fn 59 [.ptr (g1.length + g2.length + g3.length + 2) 0 0 0, .ptr (g1.length + g2.length + g3.length + g4.length + g5.length + 4) 0 0 0, .ptr g1.length 0 0 0, .ptr (g1.length + g2.length + 1) 0 0 0, .ptr (g1.length + g2.length + g3.length + g4.length + 3) 0 0 0]]] :: (g6 ++ (.row false 0 1 [[PI b6_0]] :: h1))))))))))))⟩)
theorem qmL9 {rec : Int × (List Symbol) × (List Rule) × (List Int) × (List Int) × Int × Int → Option (Bool × (List Symbol) × (List Rule) × (List Int) × (List Int) × Int × Int)} (hrec : ∀ {s0 : Int} {b2_0_2_0 : List Symbol} {b2_0_2_1 : List Rule} {b2_0_3_0 : List Int} {b1_0 : List Int} {b2_0_4_0 : Int} {b2_0_4_1 : Int} {g1 : AHeap} {g2 : AHeap} {g3 : AHeap} {g4 : AHeap} {g5 : AHeap} {g6 : AHeap} {r : Bool × (List Symbol) × (List Rule) × (List Int) × (List Int) × Int × Int} (_ : rec (s0, b2_0_2_0, b2_0_2_1, b2_0_3_0, b1_0, b2_0_4_0, b2_0_4_1) = some r), ∃ hz : AHeap, callP C (Lim C) 59 [PI s0, .ptr (g1.length + g2.length + g3.length + 2) 0 0 0, .ptr (g1.length + g2.length + g3.length + g4.length + g5.length + 4) 0 0 0, .ptr g1.length 0 0 0, .ptr (g1.length + g2.length + 1) 0 0 0, .ptr (g1.length + g2.length + g3.length + g4.length + 3) 0 0 0] (g1 ++ (.row false 0 2 [[.d (.rd (b2_0_2_0.map qa9)), .d (.rd (b2_0_2_1.map qd9))]] :: (g2 ++ (.row false 0 1 [[.d (.rd (b2_0_3_0.map intD))]] :: (g3 ++ (.row false 0 1 [[.d (.rd (b1_0.map intD))]] :: (g4 ++ (.row false 0 2 [[PI b2_0_4_0, PI b2_0_4_1]] :: (g5 ++ (.row false 0 1 [[.fn 59 [.ptr (g1.length + g2.length + g3.length + 2) 0 0 0, .ptr (g1.length + g2.length + g3.length + g4.length + g5.length + 4) 0 0 0, .ptr g1.length 0 0 0, .ptr (g1.length + g2.length + 1) 0 0 0, .ptr (g1.length + g2.length + g3.length + g4.length + 3) 0 0 0]]] :: g6)))))))))) = some (resOf [PB r.1], (g1 ++ (.row false 0 2 [[.d (.rd (r.2.1.map qa9)), .d (.rd (r.2.2.1.map qd9))]] :: (g2 ++ (.row false 0 1 [[.d (.rd (r.2.2.2.1.map intD))]] :: (g3 ++ (.row false 0 1 [[.d (.rd (r.2.2.2.2.1.map intD))]] :: (g4 ++ (.row false 0 2 [[PI r.2.2.2.2.2.1, PI r.2.2.2.2.2.2]] :: (g5 ++ (.row false 0 1 [[.fn 59 [.ptr (g1.length + g2.length + g3.length + 2) 0 0 0, .ptr (g1.length + g2.length + g3.length + g4.length + g5.length + 4) 0 0 0, .ptr g1.length 0 0 0, .ptr (g1.length + g2.length + 1) 0 0 0, .ptr (g1.length + g2.length + g3.length + g4.length + 3) 0 0 0]]] :: (g6 ++ hz))))))))))))) (s0 : Int) (b6_0 : Int) (g1 : AHeap) (g2 : AHeap) (g3 : AHeap) (g4 : AHeap) (g5 : AHeap) (g6 : AHeap) : ∀ (s : Int × (List Symbol) × (List Rule) × (List Int) × (List Int) × Int × Int) (g : AHeap) r, qbK9 rec s0 b6_0 s = some r → Sum.elim (fun s' => ∃ g', semA C (Lim C) 8454655 b59_0 (qcW9 s0 b6_0 g1 g2 g3 g4 g5 g6 s g) = some (.normal, qcW9 s0 b6_0 g1 g2 g3 g4 g5 g6 s' g')) (fun x => ∃ q, semA C (Lim C) 8454655 b59_0 (qcW9 s0 b6_0 g1 g2 g3 g4 g5 g6 s g) = some q ∧ q.1 ≠ .normal ∧ qfs9 s0 b6_0 g1 g2 g3 g4 g5 g6 x q) r := by
  intro s g r hr
  obtain ⟨s8, b2_0_2_0, b2_0_2_1, b2_0_3_0, b1_0, b2_0_4_0, b2_0_4_1⟩ := s
  have ⟨gt, hg0⟩ : ∃ y, y = g := ⟨_, rfl⟩
  subst hg0
  simp only [qbK9] at hr
  obtain ⟨x1, h1, hr⟩ := bsome hr
  rcases pcA (s8 < x1) with h2 | h2
  simp only [h2, if_true] at hr
  obtain ⟨x2, h3, hr⟩ := bsome hr
  obtain ⟨z3, h3k⟩ := hrec (g1 := g1) (g2 := g2) (g3 := g3) (g4 := g4) (g5 := g5) (g6 := (g6 ++ (.row false 0 1 [[PI b6_0]] :: gt))) h3
  try simp only [go_sem, Nat.reduceAdd, la1, la2, la3, la4, la5, la6] at h3k
  cases h4 : x2.1
  simp only [h4, Bool.false_eq_true, if_false] at hr
  obtain ⟨x4, h5, hr⟩ := bsome hr
  obtain rfl := oiA hr
  refine ⟨(gt ++ z3), ?_⟩
  rotate_left
  simp only [h4, if_true] at hr
  obtain rfl := oiA hr
  refine ⟨(.ret, ⟨[(0, PI s0), (1, .ptr (g1.length + g2.length + g3.length + 2) 0 0 0), (2, .ptr (g1.length + g2.length + g3.length + g4.length + g5.length + 4) 0 0 0), (3, .ptr g1.length 0 0 0), (4, .ptr (g1.length + g2.length + 1) 0 0 0), (5, .ptr (g1.length + g2.length + g3.length + g4.length + 3) 0 0 0), (6, .ptr (g1.length + g2.length + g3.length + g4.length + g5.length + g6.length + 5) 0 0 0), (7, PB true), (8, PI s8)], (g1 ++ (.row false 0 2 [[.d (.rd (x2.2.1.map qa9)), .d (.rd (x2.2.2.1.map qd9))]] :: (g2 ++ (.row false 0 1 [[.d (.rd (x2.2.2.2.1.map intD))]] :: (g3 ++ (.row false 0 1 [[.d (.rd (x2.2.2.2.2.1.map intD))]] :: (g4 ++ (.row false 0 2 [[PI x2.2.2.2.2.2.1, PI x2.2.2.2.2.2.2]] :: (g5 ++ (.row false 0 1 [[.fn 59 [.ptr (g1.length + g2.length + g3.length + 2) 0 0 0, .ptr (g1.length + g2.length + g3.length + g4.length + g5.length + 4) 0 0 0, .ptr g1.length 0 0 0, .ptr (g1.length + g2.length + 1) 0 0 0, .ptr (g1.length + g2.length + g3.length + g4.length + 3) 0 0 0]]] :: (g6 ++ (.row false 0 1 [[PI b6_0]] :: (gt ++ z3)))))))))))))⟩), ?_, nofun, rfl, (.row false 0 1 [[PI b6_0]] :: (gt ++ z3)), rfl, rfl⟩
  rotate_left
  simp only [h2, if_false] at hr
  obtain rfl := oiA hr
  refine ⟨(.exit 0, ⟨[(0, PI s0), (1, .ptr (g1.length + g2.length + g3.length + 2) 0 0 0), (2, .ptr (g1.length + g2.length + g3.length + g4.length + g5.length + 4) 0 0 0), (3, .ptr g1.length 0 0 0), (4, .ptr (g1.length + g2.length + 1) 0 0 0), (5, .ptr (g1.length + g2.length + g3.length + g4.length + 3) 0 0 0), (6, .ptr (g1.length + g2.length + g3.length + g4.length + g5.length + g6.length + 5) 0 0 0), (7, PB false), (8, PI s8)], (g1 ++ (.row false 0 2 [[.d (.rd (b2_0_2_0.map qa9)), .d (.rd (b2_0_2_1.map qd9))]] :: (g2 ++ (.row false 0 1 [[.d (.rd (b2_0_3_0.map intD))]] :: (g3 ++ (.row false 0 1 [[.d (.rd (b1_0.map intD))]] :: (g4 ++ (.row false 0 2 [[PI b2_0_4_0, PI b2_0_4_1]] :: (g5 ++ (.row false 0 1 [[.fn 59 [.ptr (g1.length + g2.length + g3.length + 2) 0 0 0, .ptr (g1.length + g2.length + g3.length + g4.length + g5.length + 4) 0 0 0, .ptr g1.length 0 0 0, .ptr (g1.length + g2.length + 1) 0 0 0, .ptr (g1.length + g2.length + g3.length + g4.length + 3) 0 0 0]]] :: (g6 ++ (.row false 0 1 [[PI b6_0]] :: gt))))))))))))⟩), ?_, nofun, gt, rfl⟩
  rotate_left
  all_goals (simp +decide only [go_sem, Int.reduceToNat, Nat.reduceAdd, Nat.reduceLT, Nat.reduceMul, Nat.reducePow, reduceCtorEq, qcW9, b59_0, *])
theorem qmW9 {rec : Int × (List Symbol) × (List Rule) × (List Int) × (List Int) × Int × Int → Option (Bool × (List Symbol) × (List Rule) × (List Int) × (List Int) × Int × Int)} (hrec : ∀ {s0 : Int} {b2_0_2_0 : List Symbol} {b2_0_2_1 : List Rule} {b2_0_3_0 : List Int} {b1_0 : List Int} {b2_0_4_0 : Int} {b2_0_4_1 : Int} {g1 : AHeap} {g2 : AHeap} {g3 : AHeap} {g4 : AHeap} {g5 : AHeap} {g6 : AHeap} {r : Bool × (List Symbol) × (List Rule) × (List Int) × (List Int) × Int × Int} (_ : rec (s0, b2_0_2_0, b2_0_2_1, b2_0_3_0, b1_0, b2_0_4_0, b2_0_4_1) = some r), ∃ hz : AHeap, callP C (Lim C) 59 [PI s0, .ptr (g1.length + g2.length + g3.length + 2) 0 0 0, .ptr (g1.length + g2.length + g3.length + g4.length + g5.length + 4) 0 0 0, .ptr g1.length 0 0 0, .ptr (g1.length + g2.length + 1) 0 0 0, .ptr (g1.length + g2.length + g3.length + g4.length + 3) 0 0 0] (g1 ++ (.row false 0 2 [[.d (.rd (b2_0_2_0.map qa9)), .d (.rd (b2_0_2_1.map qd9))]] :: (g2 ++ (.row false 0 1 [[.d (.rd (b2_0_3_0.map intD))]] :: (g3 ++ (.row false 0 1 [[.d (.rd (b1_0.map intD))]] :: (g4 ++ (.row false 0 2 [[PI b2_0_4_0, PI b2_0_4_1]] :: (g5 ++ (.row false 0 1 [[.fn 59 [.ptr (g1.length + g2.length + g3.length + 2) 0 0 0, .ptr (g1.length + g2.length + g3.length + g4.length + g5.length + 4) 0 0 0, .ptr g1.length 0 0 0, .ptr (g1.length + g2.length + 1) 0 0 0, .ptr (g1.length + g2.length + g3.length + g4.length + 3) 0 0 0]]] :: g6)))))))))) = some (resOf [PB r.1], (g1 ++ (.row false 0 2 [[.d (.rd (r.2.1.map qa9)), .d (.rd (r.2.2.1.map qd9))]] :: (g2 ++ (.row false 0 1 [[.d (.rd (r.2.2.2.1.map intD))]] :: (g3 ++ (.row false 0 1 [[.d (.rd (r.2.2.2.2.1.map intD))]] :: (g4 ++ (.row false 0 2 [[PI r.2.2.2.2.2.1, PI r.2.2.2.2.2.2]] :: (g5 ++ (.row false 0 1 [[.fn 59 [.ptr (g1.length + g2.length + g3.length + 2) 0 0 0, .ptr (g1.length + g2.length + g3.length + g4.length + g5.length + 4) 0 0 0, .ptr g1.length 0 0 0, .ptr (g1.length + g2.length + 1) 0 0 0, .ptr (g1.length + g2.length + g3.length + g4.length + 3) 0 0 0]]] :: (g6 ++ hz))))))))))))) {s0 : Int} {b6_0 : Int} {g1 : AHeap} {g2 : AHeap} {g3 : AHeap} {g4 : AHeap} {g5 : AHeap} {g6 : AHeap} {s : Int × (List Symbol) × (List Rule) × (List Int) × (List Int) × Int × Int} {g : AHeap} {x} (h : wh (qbK9 rec s0 b6_0) s = some x) : ∃ q, qp9 (semA C (Lim C) 8454655 b59_0) (qcW9 s0 b6_0 g1 g2 g3 g4 g5 g6 s g) = some q ∧ qfs9 s0 b6_0 g1 g2 g3 g4 g5 g6 x q := qcx9 (qmL9 hrec s0 b6_0 g1 g2 g3 g4 g5 g6) h
theorem qmK9 {rec : Int × (List Symbol) × (List Rule) × (List Int) × (List Int) × Int × Int → Option (Bool × (List Symbol) × (List Rule) × (List Int) × (List Int) × Int × Int)} (hrec : ∀ {s0 : Int} {b2_0_2_0 : List Symbol} {b2_0_2_1 : List Rule} {b2_0_3_0 : List Int} {b1_0 : List Int} {b2_0_4_0 : Int} {b2_0_4_1 : Int} {g1 : AHeap} {g2 : AHeap} {g3 : AHeap} {g4 : AHeap} {g5 : AHeap} {g6 : AHeap} {r : Bool × (List Symbol) × (List Rule) × (List Int) × (List Int) × Int × Int} (_ : rec (s0, b2_0_2_0, b2_0_2_1, b2_0_3_0, b1_0, b2_0_4_0, b2_0_4_1) = some r), ∃ hz : AHeap, callP C (Lim C) 59 [PI s0, .ptr (g1.length + g2.length + g3.length + 2) 0 0 0, .ptr (g1.length + g2.length + g3.length + g4.length + g5.length + 4) 0 0 0, .ptr g1.length 0 0 0, .ptr (g1.length + g2.length + 1) 0 0 0, .ptr (g1.length + g2.length + g3.length + g4.length + 3) 0 0 0] (g1 ++ (.row false 0 2 [[.d (.rd (b2_0_2_0.map qa9)), .d (.rd (b2_0_2_1.map qd9))]] :: (g2 ++ (.row false 0 1 [[.d (.rd (b2_0_3_0.map intD))]] :: (g3 ++ (.row false 0 1 [[.d (.rd (b1_0.map intD))]] :: (g4 ++ (.row false 0 2 [[PI b2_0_4_0, PI b2_0_4_1]] :: (g5 ++ (.row false 0 1 [[.fn 59 [.ptr (g1.length + g2.length + g3.length + 2) 0 0 0, .ptr (g1.length + g2.length + g3.length + g4.length + g5.length + 4) 0 0 0, .ptr g1.length 0 0 0, .ptr (g1.length + g2.length + 1) 0 0 0, .ptr (g1.length + g2.length + g3.length + g4.length + 3) 0 0 0]]] :: g6)))))))))) = some (resOf [PB r.1], (g1 ++ (.row false 0 2 [[.d (.rd (r.2.1.map qa9)), .d (.rd (r.2.2.1.map qd9))]] :: (g2 ++ (.row false 0 1 [[.d (.rd (r.2.2.2.1.map intD))]] :: (g3 ++ (.row false 0 1 [[.d (.rd (r.2.2.2.2.1.map intD))]] :: (g4 ++ (.row false 0 2 [[PI r.2.2.2.2.2.1, PI r.2.2.2.2.2.2]] :: (g5 ++ (.row false 0 1 [[.fn 59 [.ptr (g1.length + g2.length + g3.length + 2) 0 0 0, .ptr (g1.length + g2.length + g3.length + g4.length + g5.length + 4) 0 0 0, .ptr g1.length 0 0 0, .ptr (g1.length + g2.length + 1) 0 0 0, .ptr (g1.length + g2.length + g3.length + g4.length + 3) 0 0 0]]] :: (g6 ++ hz))))))))))))) {s0 : Int} {b2_0_2_0 : List Symbol} {b2_0_2_1 : List Rule} {b2_0_3_0 : List Int} {b1_0 : List Int} {b2_0_4_0 : Int} {b2_0_4_1 : Int} {g1 : AHeap} {g2 : AHeap} {g3 : AHeap} {g4 : AHeap} {g5 : AHeap} {g6 : AHeap} {r : Bool × (List Symbol) × (List Rule) × (List Int) × (List Int) × Int × Int} (hr : qcb9 rec s0 b2_0_2_0 b2_0_2_1 b2_0_3_0 b1_0 b2_0_4_0 b2_0_4_1 = some r) : ∃ hz : AHeap, Lim C 59 [PI s0, .ptr (g1.length + g2.length + g3.length + 2) 0 0 0, .ptr (g1.length + g2.length + g3.length + g4.length + g5.length + 4) 0 0 0, .ptr g1.length 0 0 0, .ptr (g1.length + g2.length + 1) 0 0 0, .ptr (g1.length + g2.length + g3.length + g4.length + 3) 0 0 0] (g1 ++ (.row false 0 2 [[.d (.rd (b2_0_2_0.map qa9)), .d (.rd (b2_0_2_1.map qd9))]] :: (g2 ++ (.row false 0 1 [[.d (.rd (b2_0_3_0.map intD))]] :: (g3 ++ (.row false 0 1 [[.d (.rd (b1_0.map intD))]] :: (g4 ++ (.row false 0 2 [[PI b2_0_4_0, PI b2_0_4_1]] :: (g5 ++ (.row false 0 1 [[.fn 59 [.ptr (g1.length + g2.length + g3.length + 2) 0 0 0, .ptr (g1.length + g2.length + g3.length + g4.length + g5.length + 4) 0 0 0, .ptr g1.length 0 0 0, .ptr (g1.length + g2.length + 1) 0 0 0, .ptr (g1.length + g2.length + g3.length + g4.length + 3) 0 0 0]]] :: g6)))))))))) = some (resOf [PB r.1], (g1 ++ (.row false 0 2 [[.d (.rd (r.2.1.map qa9)), .d (.rd (r.2.2.1.map qd9))]] :: (g2 ++ (.row false 0 1 [[.d (.rd (r.2.2.2.1.map intD))]] :: (g3 ++ (.row false 0 1 [[.d (.rd (r.2.2.2.2.1.map intD))]] :: (g4 ++ (.row false 0 2 [[PI r.2.2.2.2.2.1, PI r.2.2.2.2.2.2]] :: (g5 ++ (.row false 0 1 [[.fn 59 [.ptr (g1.length + g2.length + g3.length + 2) 0 0 0, .ptr (g1.length + g2.length + g3.length + g4.length + g5.length + 4) 0 0 0, .ptr g1.length 0 0 0, .ptr (g1.length + g2.length + 1) 0 0 0, .ptr (g1.length + g2.length + g3.length + g4.length + 3) 0 0 0]]] :: (g6 ++ hz)))))))))))) := by
  simp only [qcb9] at hr
  obtain ⟨x5, h1, hr⟩ := bsome hr
  obtain ⟨q1, h1L, h1X⟩ := qmW9 hrec (g1 := g1) (g2 := g2) (g3 := g3) (g4 := g4) (g5 := g5) (g6 := g6) (g := []) h1
  rcases x5 with x6 | ⟨x7, x8, x9, x10, x11, x12, x13⟩
  simp only [qfs9, qcW9] at h1X h1L
  obtain ⟨e1, st1⟩ := q1
  obtain ⟨rfl, h1R⟩ := h1X
  obtain ⟨env1, hp1⟩ := st1
  obtain ⟨y7, h1v, h1h⟩ := h1R
  replace h1h : hp1 = _ := h1h
  subst h1h
  try simp only [go_sem, Nat.reduceAdd, la1, la2, la3, la4, la5, la6] at h1L
  obtain rfl := oiA hr
  refine ⟨y7, Lim_A is59 (nbA rfl) (e := .ret) (env := env1) ?_ (.inr rfl) h1v⟩
  rotate_left
  simp only [qfs9, qcW9] at h1X h1L
  obtain ⟨z14, rfl⟩ := h1X
  try simp only [go_sem, Nat.reduceAdd, la1, la2, la3, la4, la5, la6] at h1L
  obtain ⟨x15, h2, hr⟩ := bsome hr
  obtain ⟨x16, h3, hr⟩ := bsome hr
  obtain ⟨x17, h4, hr⟩ := bsome hr
  obtain ⟨z18, h4k⟩ := qgh9 (g1 := (g1 ++ (.row false 0 2 [[.d (.rd (x8.map qa9)), .d (.rd (x9.map qd9))]] :: (g2 ++ (.row false 0 1 [[.d (.rd (x10.map intD))]] :: (g3 ++ (.row false 0 1 [[.d (.rd (x11.map intD))]] :: g4))))))) (g2 := (g5 ++ (.row false 0 1 [[.fn 59 [.ptr (g1.length + g2.length + g3.length + 2) 0 0 0, .ptr (g1.length + g2.length + g3.length + g4.length + g5.length + 4) 0 0 0, .ptr g1.length 0 0 0, .ptr (g1.length + g2.length + 1) 0 0 0, .ptr (g1.length + g2.length + g3.length + g4.length + 3) 0 0 0]]] :: g6))) (g3 := z14) h4
  try simp only [go_sem, Nat.reduceAdd, la1, la2, la3, la4, la5, la6] at h4k
  obtain rfl := oiA hr
  refine ⟨(.row false 0 1 [[PI s0]] :: (z14 ++ z18)), Lim_A is59 (nbA rfl) (e := .ret) (env := [(0, PI s0), (1, .ptr (g1.length + g2.length + g3.length + 2) 0 0 0), (2, .ptr (g1.length + g2.length + g3.length + g4.length + g5.length + 4) 0 0 0), (3, .ptr g1.length 0 0 0), (4, .ptr (g1.length + g2.length + 1) 0 0 0), (5, .ptr (g1.length + g2.length + g3.length + g4.length + 3) 0 0 0), (6, .ptr (g1.length + g2.length + g3.length + g4.length + g5.length + g6.length + 5) 0 0 0), (7, PB (!x17.1)), (8, PI x7)]) (h' := (g1 ++ (.row false 0 2 [[.d (.rd (x8.map qa9)), .d (.rd (x9.map qd9))]] :: (g2 ++ (.row false 0 1 [[.d (.rd (x10.map intD))]] :: (g3 ++ (.row false 0 1 [[.d (.rd (x11.map intD))]] :: (g4 ++ (.row false 0 2 [[PI x17.2.1, PI x17.2.2]] :: (g5 ++ (.row false 0 1 [[.fn 59 [.ptr (g1.length + g2.length + g3.length + 2) 0 0 0, .ptr (g1.length + g2.length + g3.length + g4.length + g5.length + 4) 0 0 0, .ptr g1.length 0 0 0, .ptr (g1.length + g2.length + 1) 0 0 0, .ptr (g1.length + g2.length + g3.length + g4.length + 3) 0 0 0]]] :: (g6 ++ (.row false 0 1 [[PI s0]] :: (z14 ++ z18)))))))))))))) (vs := [PB (!x17.1)]) ?_ (.inr rfl) rfl⟩
  rotate_left
  all_goals (simp +decide only [go_sem, Int.reduceToNat, Nat.reduceAdd, Nat.reduceLT, Nat.reduceMul, Nat.reducePow, reduceCtorEq, qg9, c59, *])
theorem qng9 {s0 : Int} {b2_0_2_0 : List Symbol} {b2_0_2_1 : List Rule} {b2_0_3_0 : List Int} {b1_0 : List Int} {b2_0_4_0 : Int} {b2_0_4_1 : Int} {g1 : AHeap} {g2 : AHeap} {g3 : AHeap} {g4 : AHeap} {g5 : AHeap} {g6 : AHeap} {r : Bool × (List Symbol) × (List Rule) × (List Int) × (List Int) × Int × Int} (hr : qgH9 s0 b2_0_2_0 b2_0_2_1 b2_0_3_0 b1_0 b2_0_4_0 b2_0_4_1 = some r) : ∃ hz : AHeap, Lim C 59 [PI s0, .ptr (g1.length + g2.length + g3.length + 2) 0 0 0, .ptr (g1.length + g2.length + g3.length + g4.length + g5.length + 4) 0 0 0, .ptr g1.length 0 0 0, .ptr (g1.length + g2.length + 1) 0 0 0, .ptr (g1.length + g2.length + g3.length + g4.length + 3) 0 0 0] (g1 ++ (.row false 0 2 [[.d (.rd (b2_0_2_0.map qa9)), .d (.rd (b2_0_2_1.map qd9))]] :: (g2 ++ (.row false 0 1 [[.d (.rd (b2_0_3_0.map intD))]] :: (g3 ++ (.row false 0 1 [[.d (.rd (b1_0.map intD))]] :: (g4 ++ (.row false 0 2 [[PI b2_0_4_0, PI b2_0_4_1]] :: (g5 ++ (.row false 0 1 [[.fn 59 [.ptr (g1.length + g2.length + g3.length + 2) 0 0 0, .ptr (g1.length + g2.length + g3.length + g4.length + g5.length + 4) 0 0 0, .ptr g1.length 0 0 0, .ptr (g1.length + g2.length + 1) 0 0 0, .ptr (g1.length + g2.length + g3.length + g4.length + 3) 0 0 0]]] :: g6)))))))))) = some (resOf [PB r.1], (g1 ++ (.row false 0 2 [[.d (.rd (r.2.1.map qa9)), .d (.rd (r.2.2.1.map qd9))]] :: (g2 ++ (.row false 0 1 [[.d (.rd (r.2.2.2.1.map intD))]] :: (g3 ++ (.row false 0 1 [[.d (.rd (r.2.2.2.2.1.map intD))]] :: (g4 ++ (.row false 0 2 [[PI r.2.2.2.2.2.1, PI r.2.2.2.2.2.2]] :: (g5 ++ (.row false 0 1 [[.fn 59 [.ptr (g1.length + g2.length + g3.length + 2) 0 0 0, .ptr (g1.length + g2.length + g3.length + g4.length + g5.length + 4) 0 0 0, .ptr g1.length 0 0 0, .ptr (g1.length + g2.length + 1) 0 0 0, .ptr (g1.length + g2.length + g3.length + g4.length + 3) 0 0 0]]] :: (g6 ++ hz)))))))))))) := by
  obtain ⟨n, hn⟩ := qkV9 hr
  clear hr
  induction n generalizing s0 b2_0_2_0 b2_0_2_1 b2_0_3_0 b1_0 b2_0_4_0 b2_0_4_1 g1 g2 g3 g4 g5 g6 r with
  | zero => cases hn
  | succ n ih =>
    refine qmK9 (rec := fixN _ n) (fun {s0} {b2_0_2_0} {b2_0_2_1} {b2_0_3_0} {b1_0} {b2_0_4_0} {b2_0_4_1} {g1} {g2} {g3} {g4} {g5} {g6} {r} hr => ?_) (g1 := g1) (g2 := g2) (g3 := g3) (g4 := g4) (g5 := g5) (g6 := g6) hn
    obtain ⟨hz, h1⟩ := ih (g1 := g1) (g2 := g2) (g3 := g3) (g4 := g4) (g5 := g5) (g6 := g6) hr
    exact ⟨hz, qZ9 rfl rfl rfl h1⟩
theorem qny9 {s0 : Int} {b2_0_2_0 : List Symbol} {b2_0_2_1 : List Rule} {b2_0_3_0 : List Int} {b1_0 : List Int} {b2_0_4_0 : Int} {b2_0_4_1 : Int} {g1 : AHeap} {g2 : AHeap} {g3 : AHeap} {g4 : AHeap} {g5 : AHeap} {g6 : AHeap} {r : Bool × (List Symbol) × (List Rule) × (List Int) × (List Int) × Int × Int} (hr : qgH9 s0 b2_0_2_0 b2_0_2_1 b2_0_3_0 b1_0 b2_0_4_0 b2_0_4_1 = some r) : ∃ hz : AHeap, callP C (Lim C) 59 [PI s0, .ptr (g1.length + g2.length + g3.length + 2) 0 0 0, .ptr (g1.length + g2.length + g3.length + g4.length + g5.length + 4) 0 0 0, .ptr g1.length 0 0 0, .ptr (g1.length + g2.length + 1) 0 0 0, .ptr (g1.length + g2.length + g3.length + g4.length + 3) 0 0 0] (g1 ++ (.row false 0 2 [[.d (.rd (b2_0_2_0.map qa9)), .d (.rd (b2_0_2_1.map qd9))]] :: (g2 ++ (.row false 0 1 [[.d (.rd (b2_0_3_0.map intD))]] :: (g3 ++ (.row false 0 1 [[.d (.rd (b1_0.map intD))]] :: (g4 ++ (.row false 0 2 [[PI b2_0_4_0, PI b2_0_4_1]] :: (g5 ++ (.row false 0 1 [[.fn 59 [.ptr (g1.length + g2.length + g3.length + 2) 0 0 0, .ptr (g1.length + g2.length + g3.length + g4.length + g5.length + 4) 0 0 0, .ptr g1.length 0 0 0, .ptr (g1.length + g2.length + 1) 0 0 0, .ptr (g1.length + g2.length + g3.length + g4.length + 3) 0 0 0]]] :: g6)))))))))) = some (resOf [PB r.1], (g1 ++ (.row false 0 2 [[.d (.rd (r.2.1.map qa9)), .d (.rd (r.2.2.1.map qd9))]] :: (g2 ++ (.row false 0 1 [[.d (.rd (r.2.2.2.1.map intD))]] :: (g3 ++ (.row false 0 1 [[.d (.rd (r.2.2.2.2.1.map intD))]] :: (g4 ++ (.row false 0 2 [[PI r.2.2.2.2.2.1, PI r.2.2.2.2.2.2]] :: (g5 ++ (.row false 0 1 [[.fn 59 [.ptr (g1.length + g2.length + g3.length + 2) 0 0 0, .ptr (g1.length + g2.length + g3.length + g4.length + g5.length + 4) 0 0 0, .ptr g1.length 0 0 0, .ptr (g1.length + g2.length + 1) 0 0 0, .ptr (g1.length + g2.length + g3.length + g4.length + 3) 0 0 0]]] :: (g6 ++ hz)))))))))))) := by
  obtain ⟨hz, h1⟩ := qng9 hr (g1 := g1) (g2 := g2) (g3 := g3) (g4 := g4) (g5 := g5) (g6 := g6)
  exact ⟨hz, qZ9 rfl rfl rfl h1⟩
end Ld

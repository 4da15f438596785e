import Derived.Test.YtigabemldjdlhaaDoorMBW1
set_option maxHeartbeats 400000
set_option linter.unusedVariables false
set_option linter.unusedSimpArgs false
namespace Ld
open Go Go.Proofs Go.Abs
set_option maxRecDepth 8000
def b91_2 : ACode := .seq (.seq (.reg [] [] [.M 50 11, .M 51 12, .T 52 (.bin .leq (.tmp 50) (.tmp 51)), .M 53 52, .MG 54 53 true 4, .MG 55 53 true 0, .MG 56 53 true 1, ⟨some (57, false), .ix 2 (.tmp 55) (.tmp 56), some (53, true), true, false⟩, ⟨some (58, false), .load (some 2) (.tmp 57), some (53, true), true, false⟩, .MG 59 53 true 0, .MG 60 53 true 12, ⟨some (61, false), .ix 2 (.tmp 59) (.tmp 60), some (53, true), true, false⟩, ⟨some (62, false), .load (some 2) (.tmp 61), some (53, true), true, false⟩, ⟨some (63, false), .callV (.tmp 54) [.tmp 58, .tmp 62], some (53, true), true, false⟩, .TG 64 53 true (.bin .lss (.tmp 63) (cI 0)), .K 65 (.pick (.tmp 53) (.tmp 64) (.const (.bool false)))]) (.cond (.tmp 65) (some 65) (.skip) (.exit 4))) (.block 5 36893488147419103232 (.reg [] [] [.M 66 12, .T 67 (.bin .sub (.tmp 66) (cI 1)), .N 12 67]))
def b91_1 : ACode := .seq (.seq (.reg [] [] [.M 31 11, .M 32 12, .T 33 (.bin .leq (.tmp 31) (.tmp 32)), .M 34 33, .MG 35 34 true 4, .MG 36 34 true 0, .MG 37 34 true 1, ⟨some (38, false), .ix 2 (.tmp 36) (.tmp 37), some (34, true), true, false⟩, ⟨some (39, false), .load (some 2) (.tmp 38), some (34, true), true, false⟩, .MG 40 34 true 0, .MG 41 34 true 11, ⟨some (42, false), .ix 2 (.tmp 40) (.tmp 41), some (34, true), true, false⟩, ⟨some (43, false), .load (some 2) (.tmp 42), some (34, true), true, false⟩, ⟨some (44, false), .callV (.tmp 35) [.tmp 39, .tmp 43], some (34, true), true, false⟩, .TG 45 34 true (.bin .lss (.tmp 44) (cI 0)), .TG 46 34 true (.not (.tmp 45)), .K 47 (.pick (.tmp 34) (.tmp 46) (.const (.bool false)))]) (.cond (.tmp 47) (some 47) (.skip) (.exit 2))) (.block 3 140737488355328 (.reg [] [] [.M 48 11, .T 49 (.bin .add (.tmp 48) (cI 1)), .N 11 49]))
def b91_0 : ACode := .block 1 1217485249602318761984 (.seq (.block 2 140737488355328 (.loop b91_1)) (.seq (.block 4 36893628884907458560 (.loop b91_2)) (.seq (.seq (.reg [] [] [.M 68 11, .M 69 12, .K 70 (.bin .gtr (.tmp 68) (.tmp 69))]) (.cond (.tmp 70) (some 70) (.exit 0) (.skip))) (.seq (.reg [] [] [.M 71 0, .M 72 11, .M 73 0, .M 74 12, .M 75 0, .M 76 12, ⟨some (77, false), .ix 2 (.tmp 75) (.tmp 76), none, true, false⟩, ⟨some (78, false), .load (some 2) (.tmp 77), none, true, false⟩, .M 79 0, .M 80 11, ⟨some (81, false), .ix 2 (.tmp 79) (.tmp 80), none, true, false⟩, ⟨some (82, false), .load (some 2) (.tmp 81), none, true, false⟩, ⟨some (83, false), .ix 2 (.tmp 71) (.tmp 72), none, true, false⟩, ⟨none, .store 2 (.tmp 83) (.tmp 78), none, false, false⟩, ⟨some (84, false), .ix 2 (.tmp 73) (.tmp 74), none, true, false⟩, ⟨none, .store 2 (.tmp 84) (.tmp 82), none, false, false⟩]) (.seq (.reg [] [] [.M 85 11, .T 86 (.bin .add (.tmp 85) (cI 1)), .N 11 86]) (.reg [] [] [.M 87 12, .T 88 (.bin .sub (.tmp 87) (cI 1)), .N 12 88]))))))
def c91 : ACode := .seq (.reg [] [] [.K 10 (.mv (cI 0))]) (.seq (.reg [] [] [.M 13 0, .M 14 1, .M 15 0, .M 16 3, .M 17 0, .M 18 3, ⟨some (19, false), .ix 2 (.tmp 17) (.tmp 18), none, true, false⟩, ⟨some (20, false), .load (some 2) (.tmp 19), none, true, false⟩, .M 21 0, .M 22 1, ⟨some (23, false), .ix 2 (.tmp 21) (.tmp 22), none, true, false⟩, ⟨some (24, false), .load (some 2) (.tmp 23), none, true, false⟩, ⟨some (25, false), .ix 2 (.tmp 13) (.tmp 14), none, true, false⟩, ⟨none, .store 2 (.tmp 25) (.tmp 20), none, false, false⟩, ⟨some (26, false), .ix 2 (.tmp 15) (.tmp 16), none, true, false⟩, ⟨none, .store 2 (.tmp 26) (.tmp 24), none, false, false⟩]) (.seq (.reg [] [] [.M 27 1, .T 28 (.bin .add (.tmp 27) (cI 1)), .M 29 2, .T 30 (.bin .sub (.tmp 29) (cI 1)), .N 11 28, .N 12 30]) (.seq (.block 0 1217485249602318761984 (.loop b91_0)) (.seq (.reg [] [] [.M 89 11, .N 10 89]) (.ret)))))
theorem is91 : IsF C 91 90 1217485249602318769183 c91 [.tmp 10] := ⟨⟨Tryd.f91, _, C_P ▸ Tryd.func91, rfl, rfl, rfl, by kernel_rfl, rfl⟩⟩
def slices_partitionEqual_Bm_S2 (s1 : Int) (s2 : Int) (s3 : Int) (s11 : Int) (o0 : List Bind) (g1 : AHeap) (v0 : Nat) (n0 : Nat) (g2 : AHeap) : Int → AHeap → St := fun s12 gt => ⟨[(0, .ref g1.length v0 0 n0), (1, PI s1), (2, PI s2), (3, PI s3), (4, .fn 43 []), (10, PI 0), (11, PI s11), (12, PI s12)], (g1 ++ (.row false v0 2 (rowP encBind o0) :: (g2 ++ gt)))⟩
def slices_partitionEqual_Bm_I2 (s1 : Int) (s2 : Int) (s3 : Int) (s11 : Int) (o0 : List Bind) (g1 : AHeap) (v0 : Nat) (n0 : Nat) (g2 : AHeap) : Int → Prop := fun s12 => o0.length = n0
def slices_partitionEqual_Bm_X2 (s1 : Int) (s2 : Int) (s3 : Int) (s11 : Int) (o0 : List Bind) (g1 : AHeap) (v0 : Nat) (n0 : Nat) (g2 : AHeap) : Int → AExit × St → Prop := fun s12 q => ∃ h1 : AHeap, q = (.exit 4, ⟨[(0, .ref g1.length v0 0 n0), (1, PI s1), (2, PI s2), (3, PI s3), (4, .fn 43 []), (10, PI 0), (11, PI s11), (12, PI s12)], (g1 ++ (.row false v0 2 (rowP encBind o0) :: (g2 ++ h1)))⟩)
set_option maxHeartbeats 4000000 in
theorem slices_partitionEqual_Bm_R2 (s1 : Int) (s2 : Int) (s3 : Int) (s11 : Int) (o0 : List Bind) (g1 : AHeap) (v0 : Nat) (n0 : Nat) (g2 : AHeap) : ∀ (s : Int) (g : AHeap) r, slices_partitionEqual_Bm_I2 s1 s2 s3 s11 o0 g1 v0 n0 g2 s → slices_partitionEqual_Bm_l2 s1 s2 s3 s11 o0 s = some r → Sum.elim (fun s' => (∃ g', semA C (Lim C) 1217485249602318769183 b91_2 (slices_partitionEqual_Bm_S2 s1 s2 s3 s11 o0 g1 v0 n0 g2 s g) = some (.normal, slices_partitionEqual_Bm_S2 s1 s2 s3 s11 o0 g1 v0 n0 g2 s' g')) ∧ slices_partitionEqual_Bm_I2 s1 s2 s3 s11 o0 g1 v0 n0 g2 s') (fun x => ∃ q, semA C (Lim C) 1217485249602318769183 b91_2 (slices_partitionEqual_Bm_S2 s1 s2 s3 s11 o0 g1 v0 n0 g2 s g) = some q ∧ q.1 ≠ .normal ∧ slices_partitionEqual_Bm_X2 s1 s2 s3 s11 o0 g1 v0 n0 g2 x q) r := by
  intro s g r hI hr
  have ⟨s12, hs0⟩ : ∃ y, y = s := ⟨_, rfl⟩
  subst hs0
  have ⟨gt, hg0⟩ : ∃ y, y = g := ⟨_, rfl⟩
  subst hg0
  simp only [slices_partitionEqual_Bm_I2] at hI
  have hI0 := hI
  simp only [slices_partitionEqual_Bm_l2] at hr
  rcases Classical.propComplete (s11 ≤ s12) with h1 | h1
  simp only [h1, if_true] at hr
  obtain ⟨x10, h2, hr⟩ := bsome hr
  have h2a := eq_true (idx_some h2).1
  have h2b : (s1 < (n0 : Int)) = True := eq_true (by have hb : s1 < (o0.length : Int) := (idx_some h2).2.1; omega)
  have h2c := (idx_some h2).2.2
  obtain ⟨x11, h3, hr⟩ := bsome hr
  have h3a := eq_true (idx_some h3).1
  have h3b : (s12 < (n0 : Int)) = True := eq_true (by have hb : s12 < (o0.length : Int) := (idx_some h3).2.1; omega)
  have h3c := (idx_some h3).2.2
  obtain ⟨x12, h4, hr⟩ := bsome hr
  have h4k := fun h => match_Match_c1_o (h := h) (args := [.ag [PI x10.Var, .d (.rd (x10.T.map intD))], .ag [PI x11.Var, .d (.rd (x11.T.map intD))]]) h4 rfl
  try simp only [go_sem] at h4k
  rcases Classical.propComplete (x12 < 0) with h5 | h5
  simp only [h5, if_true] at hr
  obtain rfl := Option.some.inj hr
  refine ⟨⟨gt, ?_⟩, (show o0.length = n0 by first | assumption | (simp only [List.length_set, List.length_replicate]; first | done | assumption | omega) | omega)⟩
  rotate_left
  simp only [h5, if_false] at hr
  obtain rfl := Option.some.inj hr
  refine ⟨(.exit 4, ⟨[(0, .ref g1.length v0 0 n0), (1, PI s1), (2, PI s2), (3, PI s3), (4, .fn 43 []), (10, PI 0), (11, PI s11), (12, PI s12)], (g1 ++ (.row false v0 2 (rowP encBind o0) :: (g2 ++ gt)))⟩), ?_, nofun, gt, rfl⟩
  rotate_left
  simp only [h1, if_false] at hr
  obtain rfl := Option.some.inj hr
  refine ⟨(.exit 4, ⟨[(0, .ref g1.length v0 0 n0), (1, PI s1), (2, PI s2), (3, PI s3), (4, .fn 43 []), (10, PI 0), (11, PI s11), (12, PI s12)], (g1 ++ (.row false v0 2 (rowP encBind o0) :: (g2 ++ gt)))⟩), ?_, nofun, gt, rfl⟩
  rotate_left
  all_goals (simp (config := {decide := true}) only [go_sem, Int.reduceToNat, Nat.reduceAdd, Nat.reduceLT, Nat.reduceMul, Nat.reducePow, reduceCtorEq, slices_partitionEqual_Bm_S2, b91_2, *])
theorem slices_partitionEqual_Bm_L2 {s1 : Int} {s2 : Int} {s3 : Int} {s11 : Int} {o0 : List Bind} {g1 : AHeap} {v0 : Nat} {n0 : Nat} {g2 : AHeap} {s : Int} {g : AHeap} {x} (h : wh (slices_partitionEqual_Bm_l2 s1 s2 s3 s11 o0) s = some x) (hI : slices_partitionEqual_Bm_I2 s1 s2 s3 s11 o0 g1 v0 n0 g2 s) : ∃ q, loopLim (semA C (Lim C) 1217485249602318769183 b91_2) (slices_partitionEqual_Bm_S2 s1 s2 s3 s11 o0 g1 v0 n0 g2 s g) = some q ∧ slices_partitionEqual_Bm_X2 s1 s2 s3 s11 o0 g1 v0 n0 g2 x q := wh_simI (slices_partitionEqual_Bm_R2 s1 s2 s3 s11 o0 g1 v0 n0 g2) hI h
def slices_partitionEqual_Bm_S1 (s1 : Int) (s2 : Int) (s3 : Int) (s12 : Int) (o0 : List Bind) (g1 : AHeap) (v0 : Nat) (n0 : Nat) (g2 : AHeap) : Int → AHeap → St := fun s11 gt => ⟨[(0, .ref g1.length v0 0 n0), (1, PI s1), (2, PI s2), (3, PI s3), (4, .fn 43 []), (10, PI 0), (11, PI s11), (12, PI s12)], (g1 ++ (.row false v0 2 (rowP encBind o0) :: (g2 ++ gt)))⟩
def slices_partitionEqual_Bm_I1 (s1 : Int) (s2 : Int) (s3 : Int) (s12 : Int) (o0 : List Bind) (g1 : AHeap) (v0 : Nat) (n0 : Nat) (g2 : AHeap) : Int → Prop := fun s11 => o0.length = n0
def slices_partitionEqual_Bm_X1 (s1 : Int) (s2 : Int) (s3 : Int) (s12 : Int) (o0 : List Bind) (g1 : AHeap) (v0 : Nat) (n0 : Nat) (g2 : AHeap) : Int → AExit × St → Prop := fun s11 q => ∃ h1 : AHeap, q = (.exit 2, ⟨[(0, .ref g1.length v0 0 n0), (1, PI s1), (2, PI s2), (3, PI s3), (4, .fn 43 []), (10, PI 0), (11, PI s11), (12, PI s12)], (g1 ++ (.row false v0 2 (rowP encBind o0) :: (g2 ++ h1)))⟩)
set_option maxHeartbeats 4000000 in
theorem slices_partitionEqual_Bm_R1 (s1 : Int) (s2 : Int) (s3 : Int) (s12 : Int) (o0 : List Bind) (g1 : AHeap) (v0 : Nat) (n0 : Nat) (g2 : AHeap) : ∀ (s : Int) (g : AHeap) r, slices_partitionEqual_Bm_I1 s1 s2 s3 s12 o0 g1 v0 n0 g2 s → slices_partitionEqual_Bm_l1 s1 s2 s3 s12 o0 s = some r → Sum.elim (fun s' => (∃ g', semA C (Lim C) 1217485249602318769183 b91_1 (slices_partitionEqual_Bm_S1 s1 s2 s3 s12 o0 g1 v0 n0 g2 s g) = some (.normal, slices_partitionEqual_Bm_S1 s1 s2 s3 s12 o0 g1 v0 n0 g2 s' g')) ∧ slices_partitionEqual_Bm_I1 s1 s2 s3 s12 o0 g1 v0 n0 g2 s') (fun x => ∃ q, semA C (Lim C) 1217485249602318769183 b91_1 (slices_partitionEqual_Bm_S1 s1 s2 s3 s12 o0 g1 v0 n0 g2 s g) = some q ∧ q.1 ≠ .normal ∧ slices_partitionEqual_Bm_X1 s1 s2 s3 s12 o0 g1 v0 n0 g2 x q) r := by
  intro s g r hI hr
  have ⟨s11, hs0⟩ : ∃ y, y = s := ⟨_, rfl⟩
  subst hs0
  have ⟨gt, hg0⟩ : ∃ y, y = g := ⟨_, rfl⟩
  subst hg0
  simp only [slices_partitionEqual_Bm_I1] at hI
  have hI0 := hI
  simp only [slices_partitionEqual_Bm_l1] at hr
  rcases Classical.propComplete (s11 ≤ s12) with h1 | h1
  simp only [h1, if_true] at hr
  obtain ⟨x4, h2, hr⟩ := bsome hr
  have h2a := eq_true (idx_some h2).1
  have h2b : (s1 < (n0 : Int)) = True := eq_true (by have hb : s1 < (o0.length : Int) := (idx_some h2).2.1; omega)
  have h2c := (idx_some h2).2.2
  obtain ⟨x5, h3, hr⟩ := bsome hr
  have h3a := eq_true (idx_some h3).1
  have h3b : (s11 < (n0 : Int)) = True := eq_true (by have hb : s11 < (o0.length : Int) := (idx_some h3).2.1; omega)
  have h3c := (idx_some h3).2.2
  obtain ⟨x6, h4, hr⟩ := bsome hr
  have h4k := fun h => match_Match_c1_o (h := h) (args := [.ag [PI x4.Var, .d (.rd (x4.T.map intD))], .ag [PI x5.Var, .d (.rd (x5.T.map intD))]]) h4 rfl
  try simp only [go_sem] at h4k
  rcases Classical.propComplete (x6 < 0) with h5 | h5
  simp only [h5, if_true] at hr
  obtain rfl := Option.some.inj hr
  refine ⟨(.exit 2, ⟨[(0, .ref g1.length v0 0 n0), (1, PI s1), (2, PI s2), (3, PI s3), (4, .fn 43 []), (10, PI 0), (11, PI s11), (12, PI s12)], (g1 ++ (.row false v0 2 (rowP encBind o0) :: (g2 ++ gt)))⟩), ?_, nofun, gt, rfl⟩
  rotate_left
  simp only [h5, if_false] at hr
  obtain rfl := Option.some.inj hr
  refine ⟨⟨gt, ?_⟩, (show o0.length = n0 by first | assumption | (simp only [List.length_set, List.length_replicate]; first | done | assumption | omega) | omega)⟩
  rotate_left
  simp only [h1, if_false] at hr
  obtain rfl := Option.some.inj hr
  refine ⟨(.exit 2, ⟨[(0, .ref g1.length v0 0 n0), (1, PI s1), (2, PI s2), (3, PI s3), (4, .fn 43 []), (10, PI 0), (11, PI s11), (12, PI s12)], (g1 ++ (.row false v0 2 (rowP encBind o0) :: (g2 ++ gt)))⟩), ?_, nofun, gt, rfl⟩
  rotate_left
  all_goals (simp (config := {decide := true}) only [go_sem, Int.reduceToNat, Nat.reduceAdd, Nat.reduceLT, Nat.reduceMul, Nat.reducePow, reduceCtorEq, slices_partitionEqual_Bm_S1, b91_1, *])
theorem slices_partitionEqual_Bm_L1 {s1 : Int} {s2 : Int} {s3 : Int} {s12 : Int} {o0 : List Bind} {g1 : AHeap} {v0 : Nat} {n0 : Nat} {g2 : AHeap} {s : Int} {g : AHeap} {x} (h : wh (slices_partitionEqual_Bm_l1 s1 s2 s3 s12 o0) s = some x) (hI : slices_partitionEqual_Bm_I1 s1 s2 s3 s12 o0 g1 v0 n0 g2 s) : ∃ q, loopLim (semA C (Lim C) 1217485249602318769183 b91_1) (slices_partitionEqual_Bm_S1 s1 s2 s3 s12 o0 g1 v0 n0 g2 s g) = some q ∧ slices_partitionEqual_Bm_X1 s1 s2 s3 s12 o0 g1 v0 n0 g2 x q := wh_simI (slices_partitionEqual_Bm_R1 s1 s2 s3 s12 o0 g1 v0 n0 g2) hI h
def slices_partitionEqual_Bm_S0 (s1 : Int) (s2 : Int) (s3 : Int) (g1 : AHeap) (v0 : Nat) (n0 : Nat) (g2 : AHeap) : Int × Int × (List Bind) → AHeap → St := fun (s11, s12, o0) gt => ⟨[(0, .ref g1.length v0 0 n0), (1, PI s1), (2, PI s2), (3, PI s3), (4, .fn 43 []), (10, PI 0), (11, PI s11), (12, PI s12)], (g1 ++ (.row false v0 2 (rowP encBind o0) :: (g2 ++ gt)))⟩
def slices_partitionEqual_Bm_I0 (s1 : Int) (s2 : Int) (s3 : Int) (g1 : AHeap) (v0 : Nat) (n0 : Nat) (g2 : AHeap) : Int × Int × (List Bind) → Prop := fun (s11, s12, o0) => o0.length = n0
def slices_partitionEqual_Bm_X0 (s1 : Int) (s2 : Int) (s3 : Int) (g1 : AHeap) (v0 : Nat) (n0 : Nat) (g2 : AHeap) : (Int × Int × (List Bind)) → AExit × St → Prop := fun (s11, s12, o0) q => ∃ h1 : AHeap, q = (.exit 0, ⟨[(0, .ref g1.length v0 0 n0), (1, PI s1), (2, PI s2), (3, PI s3), (4, .fn 43 []), (10, PI 0), (11, PI s11), (12, PI s12)], (g1 ++ (.row false v0 2 (rowP encBind o0) :: (g2 ++ h1)))⟩) ∧ o0.length = n0
set_option maxHeartbeats 4000000 in
theorem slices_partitionEqual_Bm_R0 (s1 : Int) (s2 : Int) (s3 : Int) (g1 : AHeap) (v0 : Nat) (n0 : Nat) (g2 : AHeap) : ∀ (s : Int × Int × (List Bind)) (g : AHeap) r, slices_partitionEqual_Bm_I0 s1 s2 s3 g1 v0 n0 g2 s → slices_partitionEqual_Bm_l0 s1 s2 s3 s = some r → Sum.elim (fun s' => (∃ g', semA C (Lim C) 1217485249602318769183 b91_0 (slices_partitionEqual_Bm_S0 s1 s2 s3 g1 v0 n0 g2 s g) = some (.normal, slices_partitionEqual_Bm_S0 s1 s2 s3 g1 v0 n0 g2 s' g')) ∧ slices_partitionEqual_Bm_I0 s1 s2 s3 g1 v0 n0 g2 s') (fun x => ∃ q, semA C (Lim C) 1217485249602318769183 b91_0 (slices_partitionEqual_Bm_S0 s1 s2 s3 g1 v0 n0 g2 s g) = some q ∧ q.1 ≠ .normal ∧ slices_partitionEqual_Bm_X0 s1 s2 s3 g1 v0 n0 g2 x q) r := by
  intro s g r hI hr
  obtain ⟨s11, s12, o0⟩ := s
  have ⟨gt, hg0⟩ : ∃ y, y = g := ⟨_, rfl⟩
  subst hg0
  simp only [slices_partitionEqual_Bm_I0] at hI
  have hI0 := hI
  simp only [slices_partitionEqual_Bm_l0] at hr
  obtain ⟨x7, h1, hr⟩ := bsome hr
  obtain ⟨q1, h1L, h1X⟩ := slices_partitionEqual_Bm_L1 (g1 := g1) (v0 := v0) (n0 := n0) (g2 := (g2 ++ gt)) (g := []) h1 (show o0.length = n0 by first | assumption | (simp only [List.length_set, List.length_replicate]; first | done | assumption | omega) | omega)
  have ⟨x8, hq1⟩ : ∃ y, y = x7 := ⟨_, rfl⟩
  subst hq1
  simp only [slices_partitionEqual_Bm_X1, slices_partitionEqual_Bm_S1] at h1X h1L
  obtain ⟨z9, rfl⟩ := h1X
  try simp only [go_sem, Nat.reduceAdd] at h1L
  obtain ⟨x13, h2, hr⟩ := bsome hr
  obtain ⟨q2, h2L, h2X⟩ := slices_partitionEqual_Bm_L2 (g1 := g1) (v0 := v0) (n0 := n0) (g2 := (g2 ++ (gt ++ z9))) (g := []) h2 (show o0.length = n0 by first | assumption | (simp only [List.length_set, List.length_replicate]; first | done | assumption | omega) | omega)
  have ⟨x14, hq2⟩ : ∃ y, y = x13 := ⟨_, rfl⟩
  subst hq2
  simp only [slices_partitionEqual_Bm_X2, slices_partitionEqual_Bm_S2] at h2X h2L
  obtain ⟨z15, rfl⟩ := h2X
  try simp only [go_sem, Nat.reduceAdd] at h2L
  rcases Classical.propComplete (x14 < x8) with h3 | h3
  simp only [h3, if_true] at hr
  obtain rfl := Option.some.inj hr
  refine ⟨(.exit 0, ⟨[(0, .ref g1.length v0 0 n0), (1, PI s1), (2, PI s2), (3, PI s3), (4, .fn 43 []), (10, PI 0), (11, PI x8), (12, PI x14)], (g1 ++ (.row false v0 2 (rowP encBind o0) :: (g2 ++ (gt ++ (z9 ++ z15)))))⟩), ?_, nofun, (gt ++ (z9 ++ z15)), rfl, (show o0.length = n0 by first | assumption | (simp only [List.length_set, List.length_replicate]; first | done | assumption | omega) | omega)⟩
  rotate_left
  simp only [h3, if_false] at hr
  obtain ⟨x16, h4, hr⟩ := bsome hr
  have h4a := eq_true (idx_some h4).1
  have h4b : (x14 < (n0 : Int)) = True := eq_true (by have hb : x14 < (o0.length : Int) := (idx_some h4).2.1; omega)
  have h4c := (idx_some h4).2.2
  obtain ⟨x17, h5, hr⟩ := bsome hr
  have h5a := eq_true (idx_some h5).1
  have h5b : (x8 < (n0 : Int)) = True := eq_true (by have hb : x8 < (o0.length : Int) := (idx_some h5).2.1; omega)
  have h5c := (idx_some h5).2.2
  obtain ⟨x18, h6, hr⟩ := bsome hr
  have h6a := eq_true (idx_some h6).1
  have h6b : (x14 < (n0 : Int)) = True := eq_true (by have hb : x14 < ((o0.set (x8).toNat x16).length : Int) := (idx_some h6).2.1; simp only [List.length_set, List.length_replicate] at hb; omega)
  have h6c := (idx_some h6).2.2
  obtain rfl := Option.some.inj hr
  refine ⟨⟨(gt ++ (z9 ++ z15)), ?_⟩, (show ((o0.set (x8).toNat x16).set (x14).toNat x17).length = n0 by first | assumption | (simp only [List.length_set, List.length_replicate]; first | done | assumption | omega) | omega)⟩
  rotate_left
  all_goals (simp (config := {decide := true}) only [go_sem, Int.reduceToNat, Nat.reduceAdd, Nat.reduceLT, Nat.reduceMul, Nat.reducePow, reduceCtorEq, slices_partitionEqual_Bm_S0, b91_0, *])
theorem slices_partitionEqual_Bm_L0 {s1 : Int} {s2 : Int} {s3 : Int} {g1 : AHeap} {v0 : Nat} {n0 : Nat} {g2 : AHeap} {s : Int × Int × (List Bind)} {g : AHeap} {x} (h : wh (slices_partitionEqual_Bm_l0 s1 s2 s3) s = some x) (hI : slices_partitionEqual_Bm_I0 s1 s2 s3 g1 v0 n0 g2 s) : ∃ q, loopLim (semA C (Lim C) 1217485249602318769183 b91_0) (slices_partitionEqual_Bm_S0 s1 s2 s3 g1 v0 n0 g2 s g) = some q ∧ slices_partitionEqual_Bm_X0 s1 s2 s3 g1 v0 n0 g2 x q := wh_simI (slices_partitionEqual_Bm_R0 s1 s2 s3 g1 v0 n0 g2) hI h
set_option maxHeartbeats 4000000 in
theorem slices_partitionEqual_Bm_R {s1 : Int} {s2 : Int} {s3 : Int} {o0 : List Bind} {g1 : AHeap} {v0 : Nat} {n0 : Nat} {g2 : AHeap} (hln0 : o0.length = n0) {r : Int × (List Bind)} (hr : slices_partitionEqual_Bm s1 s2 s3 o0 = some r) : ∃ hz : AHeap, Lim C 91 [.ref g1.length v0 0 n0, PI s1, PI s2, PI s3, .fn 43 []] (g1 ++ (.row false v0 2 (rowP encBind o0) :: g2)) = some (resOf [PI r.1], (g1 ++ (.row false v0 2 (rowP encBind r.2) :: (g2 ++ hz)))) ∧ r.2.length = n0 := by
  simp only [slices_partitionEqual_Bm] at hr
  obtain ⟨x1, h1, hr⟩ := bsome hr
  have h1a := eq_true (idx_some h1).1
  have h1b : (s3 < (n0 : Int)) = True := eq_true (by have hb : s3 < (o0.length : Int) := (idx_some h1).2.1; omega)
  have h1c := (idx_some h1).2.2
  obtain ⟨x2, h2, hr⟩ := bsome hr
  have h2a := eq_true (idx_some h2).1
  have h2b : (s1 < (n0 : Int)) = True := eq_true (by have hb : s1 < (o0.length : Int) := (idx_some h2).2.1; omega)
  have h2c := (idx_some h2).2.2
  obtain ⟨x3, h3, hr⟩ := bsome hr
  have h3a := eq_true (idx_some h3).1
  have h3b : (s3 < (n0 : Int)) = True := eq_true (by have hb : s3 < ((o0.set (s1).toNat x1).length : Int) := (idx_some h3).2.1; simp only [List.length_set, List.length_replicate] at hb; omega)
  have h3c := (idx_some h3).2.2
  obtain ⟨x19, h4, hr⟩ := bsome hr
  obtain ⟨q4, h4L, h4X⟩ := slices_partitionEqual_Bm_L0 (g1 := g1) (v0 := v0) (n0 := n0) (g2 := g2) (g := []) h4 (show ((o0.set (s1).toNat x1).set (s3).toNat x2).length = n0 by first | assumption | (simp only [List.length_set, List.length_replicate]; first | done | assumption | omega) | omega)
  obtain ⟨x20, x21, x22⟩ := x19
  simp only [slices_partitionEqual_Bm_X0, slices_partitionEqual_Bm_S0] at h4X h4L
  obtain ⟨z23, rfl, h4l0⟩ := h4X
  try simp only [go_sem, Nat.reduceAdd] at h4L
  obtain rfl := Option.some.inj hr
  refine ⟨z23, Lim_A is91 (Nat.le_of_ble_eq_true rfl) (e := .ret) (env := [(0, .ref g1.length v0 0 n0), (1, PI s1), (2, PI s2), (3, PI s3), (4, .fn 43 []), (10, PI x20), (11, PI x20), (12, PI x21)]) (h' := (g1 ++ (.row false v0 2 (rowP encBind x22) :: (g2 ++ z23)))) (vs := [PI x20]) ?_ (.inr rfl) rfl, (show x22.length = n0 by first | assumption | (simp only [List.length_set, List.length_replicate]; first | done | assumption | omega) | omega)⟩
  rotate_left
  all_goals (simp (config := {decide := true}) only [go_sem, Int.reduceToNat, Nat.reduceAdd, Nat.reduceLT, Nat.reduceMul, Nat.reducePow, reduceCtorEq, callEnv, c91, *])
theorem slices_partitionEqual_Bm_k {s1 : Int} {s2 : Int} {s3 : Int} {o0 : List Bind} {g1 : AHeap} {v0 : Nat} {n0 : Nat} {g2 : AHeap} (hln0 : o0.length = n0) {r : Int × (List Bind)} (hr : slices_partitionEqual_Bm s1 s2 s3 o0 = some r) : ∃ hz : AHeap, callP C (Lim C) 91 [.ref g1.length v0 0 n0, PI s1, PI s2, PI s3, .fn 43 []] (g1 ++ (.row false v0 2 (rowP encBind o0) :: g2)) = some (resOf [PI r.1], (g1 ++ (.row false v0 2 (rowP encBind r.2) :: (g2 ++ hz)))) ∧ r.2.length = n0 := by
  obtain ⟨hz, h1, f0⟩ := slices_partitionEqual_Bm_R hln0 hr (g1 := g1) (v0 := v0) (n0 := n0) (g2 := g2)
  exact ⟨hz, call_live rfl rfl rfl h1, f0⟩
def c103 : ACode := .seq (.reg [] [] [.K 2 (.mv (.const (.int .u64 0)))]) (.seq (.reg [] [] [.M 3 0, .T 4 (.wrap .u64 (.tmp 3)), .T 5 (.call 65 [.tmp 4]), .T 6 (.sh .shl (.const (.int .u64 1)) (.tmp 5)), .N 2 6]) (.ret))
theorem is103 : IsF C 103 7 5 c103 [.tmp 2] := ⟨⟨Tryd.f103, _, C_P ▸ Tryd.func103, rfl, rfl, rfl, by kernel_rfl, rfl⟩⟩
set_option maxHeartbeats 4000000 in
theorem slices_nextPowerOfTwo_R {a0 : Int} {r : Int} (hr : slices_nextPowerOfTwo a0 = some r) : ∃ p hp, Lim C 103 [PI a0] [] = some (p, hp) ∧ rsT hp p = some (.d (.v (.int .u64 r))) := by
  simp only [slices_nextPowerOfTwo] at hr
  obtain ⟨x1, h1, hr⟩ := bsome hr
  have h1k := fun h => math_bits_Len_k (h := h) h1
  try simp only [go_sem] at h1k
  obtain ⟨x2, h2, hr⟩ := bsome hr
  obtain rfl := Option.some.inj hr
  refine run_ok is103 (Nat.le_of_ble_eq_true rfl) (q := (.ret, ⟨[(0, PI a0), (2, .d (.v (.int .u64 x2)))], []⟩)) ?_ (.inr rfl) ⟨[.d (.v (.int .u64 x2))], rfl, ?_⟩
  rotate_left 2
  all_goals (simp (config := {decide := true}) only [go_sem, Int.reduceToNat, Nat.reduceAdd, Nat.reduceLT, Nat.reduceMul, Nat.reducePow, reduceCtorEq, callEnv, c103, *])
theorem slices_nextPowerOfTwo_k {a0 : Int} {r : Int} (hr : slices_nextPowerOfTwo a0 = some r) {h : AHeap} : callP C (Lim C) 103 [PI a0] h = some (.d (.v (.int .u64 r)), h) := call_of (ds := [.v (.int .i64 a0)]) rfl rfl rfl (slices_nextPowerOfTwo_R hr) h
def c104 : ACode := .seq (.reg [] [] [.K 2 (.mv (.const (.int .u64 0)))]) (.seq (.reg [] [] [.M 3 0, .T 4 (.nilC (.tmp 3)), ⟨some (5, false), .load none (.tmp 4), none, true, false⟩, .M 6 0, .T 7 (.nilC (.tmp 6)), ⟨some (8, false), .load none (.tmp 7), none, true, false⟩, .T 9 (.sh .shl (.tmp 8) (.const (.int .u64 13))), .T 10 (.binM .xor (.tmp 5) (.tmp 9)), .T 11 (.nilC (.tmp 3)), ⟨none, .store 1 (.tmp 11) (.tmp 10), none, false, false⟩]) (.seq (.reg [] [] [.M 12 0, .T 13 (.nilC (.tmp 12)), ⟨some (14, false), .load none (.tmp 13), none, true, false⟩, .M 15 0, .T 16 (.nilC (.tmp 15)), ⟨some (17, false), .load none (.tmp 16), none, true, false⟩, .T 18 (.sh .shr (.tmp 17) (.const (.int .u64 7))), .T 19 (.binM .xor (.tmp 14) (.tmp 18)), .T 20 (.nilC (.tmp 12)), ⟨none, .store 1 (.tmp 20) (.tmp 19), none, false, false⟩]) (.seq (.reg [] [] [.M 21 0, .T 22 (.nilC (.tmp 21)), ⟨some (23, false), .load none (.tmp 22), none, true, false⟩, .M 24 0, .T 25 (.nilC (.tmp 24)), ⟨some (26, false), .load none (.tmp 25), none, true, false⟩, .T 27 (.sh .shl (.tmp 26) (.const (.int .u64 17))), .T 28 (.binM .xor (.tmp 23) (.tmp 27)), .T 29 (.nilC (.tmp 21)), ⟨none, .store 1 (.tmp 29) (.tmp 28), none, false, false⟩]) (.seq (.reg [] [] [.M 30 0, .T 31 (.nilC (.tmp 30)), .T 32 (.load none (.tmp 31)), .N 2 32]) (.ret)))))
theorem is104 : IsF C 104 33 5 c104 [.tmp 2] := ⟨⟨Tryd.f104, _, C_P ▸ Tryd.func104, rfl, rfl, rfl, by kernel_rfl, rfl⟩⟩
set_option maxHeartbeats 4000000 in
theorem slices_xorshift_Next_R {b0_0 : Int} {g1 : AHeap} {g2 : AHeap} {r : Int × Int} (hr : slices_xorshift_Next b0_0 = some r) : Lim C 104 [.ptr g1.length 0 0 0] (g1 ++ (.row false 0 1 [[.d (.v (.int .u64 b0_0))]] :: g2)) = some (resOf [.d (.v (.int .u64 r.1))], (g1 ++ (.row false 0 1 [[.d (.v (.int .u64 r.2))]] :: g2))) := by
  simp only [slices_xorshift_Next] at hr
  obtain ⟨x1, h1, hr⟩ := bsome hr
  obtain ⟨x2, h2, hr⟩ := bsome hr
  obtain ⟨x3, h3, hr⟩ := bsome hr
  obtain rfl := Option.some.inj hr
  refine (Lim_A is104 (Nat.le_of_ble_eq_true rfl) (e := .ret) (env := [(0, .ptr g1.length 0 0 0), (2, .d (.v (.int .u64 (xorV .u64 (xorV .u64 (xorV .u64 b0_0 x1) x2) x3))))]) (h' := (g1 ++ (.row false 0 1 [[.d (.v (.int .u64 (xorV .u64 (xorV .u64 (xorV .u64 b0_0 x1) x2) x3)))]] :: g2))) (vs := [.d (.v (.int .u64 (xorV .u64 (xorV .u64 (xorV .u64 b0_0 x1) x2) x3)))]) ?_ (.inr rfl) rfl)
  rotate_left
  all_goals (simp (config := {decide := true}) only [go_sem, Int.reduceToNat, Nat.reduceAdd, Nat.reduceLT, Nat.reduceMul, Nat.reducePow, reduceCtorEq, callEnv, c104, *])
theorem slices_xorshift_Next_k {b0_0 : Int} {g1 : AHeap} {g2 : AHeap} {r : Int × Int} (hr : slices_xorshift_Next b0_0 = some r) : callP C (Lim C) 104 [.ptr g1.length 0 0 0] (g1 ++ (.row false 0 1 [[.d (.v (.int .u64 b0_0))]] :: g2)) = some (resOf [.d (.v (.int .u64 r.1))], (g1 ++ (.row false 0 1 [[.d (.v (.int .u64 r.2))]] :: g2))) := by
  have h1 := slices_xorshift_Next_R hr (g1 := g1) (g2 := g2)
  exact call_live rfl rfl rfl h1
def b87_0 : ACode := .seq (.seq (.reg [] [] [.M 28 11, .M 29 1, .M 30 8, .T 31 (.binM .quo (.tmp 30) (cI 4)), .T 32 (.bin .mul (.tmp 31) (cI 2)), .T 33 (.bin .add (.tmp 29) (.tmp 32)), .T 34 (.bin .add (.tmp 33) (cI 1)), .K 35 (.bin .leq (.tmp 28) (.tmp 34))]) (.cond (.tmp 35) (some 35) (.skip) (.exit 0))) (.seq (.block 1 35218731831296 (.seq (.reg [] [] [.T 38 (.call 104 [.tmp 9]), .M 39 10, .T 40 (.bin .sub (.tmp 39) (.const (.int .u64 1))), .T 41 (.binM .and (.tmp 38) (.tmp 40)), .T 42 (.wrap .i64 (.tmp 41)), .N 12 42]) (.seq (.seq (.reg [] [] [.M 43 12, .M 44 8, .K 45 (.bin .geq (.tmp 43) (.tmp 44))]) (.cond (.tmp 45) (some 45) (.reg [] [] [.M 46 12, .M 47 8, .T 48 (.bin .sub (.tmp 46) (.tmp 47)), .N 12 48]) (.skip))) (.reg [] [] [.M 49 0, .M 50 11, .M 51 0, .M 52 1, .M 53 12, .T 54 (.bin .add (.tmp 52) (.tmp 53)), .M 55 0, .M 56 1, .M 57 12, .T 58 (.bin .add (.tmp 56) (.tmp 57)), ⟨some (59, false), .ix 2 (.tmp 55) (.tmp 58), none, true, false⟩, ⟨some (60, false), .load (some 2) (.tmp 59), none, true, false⟩, .M 61 0, .M 62 11, ⟨some (63, false), .ix 2 (.tmp 61) (.tmp 62), none, true, false⟩, ⟨some (64, false), .load (some 2) (.tmp 63), none, true, false⟩, ⟨some (65, false), .ix 2 (.tmp 49) (.tmp 50), none, true, false⟩, ⟨none, .store 2 (.tmp 65) (.tmp 60), none, false, false⟩, ⟨some (66, false), .ix 2 (.tmp 51) (.tmp 54), none, true, false⟩, ⟨none, .store 2 (.tmp 66) (.tmp 64), none, false, false⟩])))) (.reg [] [] [.M 36 11, .T 37 (.bin .add (.tmp 36) (cI 1)), .N 11 37]))
def c87 : ACode := .seq (.reg [] [] [.M 13 2, .M 14 1, .T 15 (.bin .sub (.tmp 13) (.tmp 14)), .N 8 15]) (.seq (.reg [] [] [.M 16 8, .K 17 (.bin .geq (.tmp 16) (cI 8))]) (.cond (.tmp 17) (some 17) (.seq (.reg [] [] [.M 18 8, .T 19 (.wrap .u64 (.tmp 18)), .K 9 (.alloc [.d (.v (.int .u64 0))] 1), ⟨none, .store 1 (.tmp 9) (.tmp 19), none, false, false⟩]) (.seq (.reg [] [] [.M 20 8, .T 21 (.call 103 [.tmp 20]), .N 10 21]) (.seq (.reg [] [] [.M 22 1, .M 23 8, .T 24 (.binM .quo (.tmp 23) (cI 4)), .T 25 (.bin .mul (.tmp 24) (cI 2)), .T 26 (.bin .add (.tmp 22) (.tmp 25)), .T 27 (.bin .sub (.tmp 26) (cI 1)), .N 11 27]) (.block 0 35218731831296 (.loop b87_0))))) (.skip)))
theorem is87 : IsF C 87 67 35218731966215 c87 [] := ⟨⟨Tryd.f87, _, C_P ▸ Tryd.func87, rfl, rfl, rfl, by kernel_rfl, rfl⟩⟩
def slices_breakPatterns_Bm_S0 (s1 : Int) (s2 : Int) (s8 : Int) (s10 : Int) (g1 : AHeap) (v0 : Nat) (n0 : Nat) (g2 : AHeap) : Int × (List Bind) × Int → AHeap → St := fun (s11, o0, b9_0) gt => ⟨[(0, .ref g1.length v0 0 n0), (1, PI s1), (2, PI s2), (8, PI s8), (9, .ptr (g1.length + g2.length + 1) 0 0 0), (10, .d (.v (.int .u64 s10))), (11, PI s11)], (g1 ++ (.row false v0 2 (rowP encBind o0) :: (g2 ++ (.row false 0 1 [[.d (.v (.int .u64 b9_0))]] :: gt))))⟩
def slices_breakPatterns_Bm_I0 (s1 : Int) (s2 : Int) (s8 : Int) (s10 : Int) (g1 : AHeap) (v0 : Nat) (n0 : Nat) (g2 : AHeap) : Int × (List Bind) × Int → Prop := fun (s11, o0, b9_0) => o0.length = n0
def slices_breakPatterns_Bm_X0 (s1 : Int) (s2 : Int) (s8 : Int) (s10 : Int) (g1 : AHeap) (v0 : Nat) (n0 : Nat) (g2 : AHeap) : (Int × (List Bind) × Int) → AExit × St → Prop := fun (s11, o0, b9_0) q => ∃ h1 : AHeap, q = (.exit 0, ⟨[(0, .ref g1.length v0 0 n0), (1, PI s1), (2, PI s2), (8, PI s8), (9, .ptr (g1.length + g2.length + 1) 0 0 0), (10, .d (.v (.int .u64 s10))), (11, PI s11)], (g1 ++ (.row false v0 2 (rowP encBind o0) :: (g2 ++ (.row false 0 1 [[.d (.v (.int .u64 b9_0))]] :: h1))))⟩) ∧ o0.length = n0
set_option maxHeartbeats 4000000 in
theorem slices_breakPatterns_Bm_R0 (s1 : Int) (s2 : Int) (s8 : Int) (s10 : Int) (g1 : AHeap) (v0 : Nat) (n0 : Nat) (g2 : AHeap) : ∀ (s : Int × (List Bind) × Int) (g : AHeap) r, slices_breakPatterns_Bm_I0 s1 s2 s8 s10 g1 v0 n0 g2 s → slices_breakPatterns_Bm_l0 s1 s2 s8 s10 s = some r → Sum.elim (fun s' => (∃ g', semA C (Lim C) 35218731966215 b87_0 (slices_breakPatterns_Bm_S0 s1 s2 s8 s10 g1 v0 n0 g2 s g) = some (.normal, slices_breakPatterns_Bm_S0 s1 s2 s8 s10 g1 v0 n0 g2 s' g')) ∧ slices_breakPatterns_Bm_I0 s1 s2 s8 s10 g1 v0 n0 g2 s') (fun x => ∃ q, semA C (Lim C) 35218731966215 b87_0 (slices_breakPatterns_Bm_S0 s1 s2 s8 s10 g1 v0 n0 g2 s g) = some q ∧ q.1 ≠ .normal ∧ slices_breakPatterns_Bm_X0 s1 s2 s8 s10 g1 v0 n0 g2 x q) r := by
  intro s g r hI hr
  obtain ⟨s11, o0, b9_0⟩ := s
  have ⟨gt, hg0⟩ : ∃ y, y = g := ⟨_, rfl⟩
  subst hg0
  simp only [slices_breakPatterns_Bm_I0] at hI
  have hI0 := hI
  simp only [slices_breakPatterns_Bm_l0] at hr
  obtain ⟨x3, h1, hr⟩ := bsome hr
  rcases Classical.propComplete (s11 ≤ (w64 ((w64 (s1 + (w64 (x3 * 2)))) + 1))) with h2 | h2
  simp only [h2, if_true] at hr
  obtain ⟨x4, h3, hr⟩ := bsome hr
  have h3k := slices_xorshift_Next_k (g1 := (g1 ++ (.row false v0 2 (rowP encBind o0) :: g2))) (g2 := gt) h3
  try simp only [go_sem, Nat.reduceAdd] at h3k
  rcases Classical.propComplete (s8 ≤ (w64 (andV .u64 x4.1 (IntKind.u64.wrap (s10 - 1))))) with h4 | h4
  simp only [h4, if_true] at hr
  obtain ⟨x5, h5, hr⟩ := bsome hr
  have h5a := eq_true (idx_some h5).1
  have h5b : ((w64 (s1 + (w64 ((w64 (andV .u64 x4.1 (IntKind.u64.wrap (s10 - 1)))) - s8)))) < (n0 : Int)) = True := eq_true (by have hb : (w64 (s1 + (w64 ((w64 (andV .u64 x4.1 (IntKind.u64.wrap (s10 - 1)))) - s8)))) < (o0.length : Int) := (idx_some h5).2.1; omega)
  have h5c := (idx_some h5).2.2
  obtain ⟨x6, h6, hr⟩ := bsome hr
  have h6a := eq_true (idx_some h6).1
  have h6b : (s11 < (n0 : Int)) = True := eq_true (by have hb : s11 < (o0.length : Int) := (idx_some h6).2.1; omega)
  have h6c := (idx_some h6).2.2
  obtain ⟨x7, h7, hr⟩ := bsome hr
  have h7a := eq_true (idx_some h7).1
  have h7b : ((w64 (s1 + (w64 ((w64 (andV .u64 x4.1 (IntKind.u64.wrap (s10 - 1)))) - s8)))) < (n0 : Int)) = True := eq_true (by have hb : (w64 (s1 + (w64 ((w64 (andV .u64 x4.1 (IntKind.u64.wrap (s10 - 1)))) - s8)))) < ((o0.set (s11).toNat x5).length : Int) := (idx_some h7).2.1; simp only [List.length_set, List.length_replicate] at hb; omega)
  have h7c := (idx_some h7).2.2
  obtain rfl := Option.some.inj hr
  refine ⟨⟨gt, ?_⟩, (show ((o0.set (s11).toNat x5).set (w64 (s1 + (w64 ((w64 (andV .u64 x4.1 (IntKind.u64.wrap (s10 - 1)))) - s8)))).toNat x6).length = n0 by first | assumption | (simp only [List.length_set, List.length_replicate]; first | done | assumption | omega) | omega)⟩
  rotate_left
  simp only [h4, if_false] at hr
  obtain ⟨x8, h8, hr⟩ := bsome hr
  have h8a := eq_true (idx_some h8).1
  have h8b : ((w64 (s1 + (w64 (andV .u64 x4.1 (IntKind.u64.wrap (s10 - 1)))))) < (n0 : Int)) = True := eq_true (by have hb : (w64 (s1 + (w64 (andV .u64 x4.1 (IntKind.u64.wrap (s10 - 1)))))) < (o0.length : Int) := (idx_some h8).2.1; omega)
  have h8c := (idx_some h8).2.2
  obtain ⟨x9, h9, hr⟩ := bsome hr
  have h9a := eq_true (idx_some h9).1
  have h9b : (s11 < (n0 : Int)) = True := eq_true (by have hb : s11 < (o0.length : Int) := (idx_some h9).2.1; omega)
  have h9c := (idx_some h9).2.2
  obtain ⟨x10, h10, hr⟩ := bsome hr
  have h10a := eq_true (idx_some h10).1
  have h10b : ((w64 (s1 + (w64 (andV .u64 x4.1 (IntKind.u64.wrap (s10 - 1)))))) < (n0 : Int)) = True := eq_true (by have hb : (w64 (s1 + (w64 (andV .u64 x4.1 (IntKind.u64.wrap (s10 - 1)))))) < ((o0.set (s11).toNat x8).length : Int) := (idx_some h10).2.1; simp only [List.length_set, List.length_replicate] at hb; omega)
  have h10c := (idx_some h10).2.2
  obtain rfl := Option.some.inj hr
  refine ⟨⟨gt, ?_⟩, (show ((o0.set (s11).toNat x8).set (w64 (s1 + (w64 (andV .u64 x4.1 (IntKind.u64.wrap (s10 - 1)))))).toNat x9).length = n0 by first | assumption | (simp only [List.length_set, List.length_replicate]; first | done | assumption | omega) | omega)⟩
  rotate_left
  simp only [h2, if_false] at hr
  obtain rfl := Option.some.inj hr
  refine ⟨(.exit 0, ⟨[(0, .ref g1.length v0 0 n0), (1, PI s1), (2, PI s2), (8, PI s8), (9, .ptr (g1.length + g2.length + 1) 0 0 0), (10, .d (.v (.int .u64 s10))), (11, PI s11)], (g1 ++ (.row false v0 2 (rowP encBind o0) :: (g2 ++ (.row false 0 1 [[.d (.v (.int .u64 b9_0))]] :: gt))))⟩), ?_, nofun, gt, rfl, (show o0.length = n0 by first | assumption | (simp only [List.length_set, List.length_replicate]; first | done | assumption | omega) | omega)⟩
  rotate_left
  all_goals (simp (config := {decide := true}) only [go_sem, Int.reduceToNat, Nat.reduceAdd, Nat.reduceLT, Nat.reduceMul, Nat.reducePow, reduceCtorEq, slices_breakPatterns_Bm_S0, b87_0, *])
theorem slices_breakPatterns_Bm_L0 {s1 : Int} {s2 : Int} {s8 : Int} {s10 : Int} {g1 : AHeap} {v0 : Nat} {n0 : Nat} {g2 : AHeap} {s : Int × (List Bind) × Int} {g : AHeap} {x} (h : wh (slices_breakPatterns_Bm_l0 s1 s2 s8 s10) s = some x) (hI : slices_breakPatterns_Bm_I0 s1 s2 s8 s10 g1 v0 n0 g2 s) : ∃ q, loopLim (semA C (Lim C) 35218731966215 b87_0) (slices_breakPatterns_Bm_S0 s1 s2 s8 s10 g1 v0 n0 g2 s g) = some q ∧ slices_breakPatterns_Bm_X0 s1 s2 s8 s10 g1 v0 n0 g2 x q := wh_simI (slices_breakPatterns_Bm_R0 s1 s2 s8 s10 g1 v0 n0 g2) hI h
set_option maxHeartbeats 4000000 in
theorem slices_breakPatterns_Bm_R {s1 : Int} {s2 : Int} {o0 : List Bind} {g1 : AHeap} {v0 : Nat} {n0 : Nat} {g2 : AHeap} (hln0 : o0.length = n0) {r : (List Bind)} (hr : slices_breakPatterns_Bm s1 s2 o0 = some r) : ∃ hz : AHeap, Lim C 87 [.ref g1.length v0 0 n0, PI s1, PI s2, .fn 43 []] (g1 ++ (.row false v0 2 (rowP encBind o0) :: g2)) = some (resOf [], (g1 ++ (.row false v0 2 (rowP encBind r) :: (g2 ++ hz)))) ∧ r.length = n0 := by
  simp only [slices_breakPatterns_Bm] at hr
  rcases Classical.propComplete (8 ≤ (w64 (s2 - s1))) with h1 | h1
  simp only [h1, if_true] at hr
  obtain ⟨x1, h2, hr⟩ := bsome hr
  have h2k := fun h => slices_nextPowerOfTwo_k (h := h) h2
  try simp only [go_sem] at h2k
  obtain ⟨x2, h3, hr⟩ := bsome hr
  obtain ⟨x11, h4, hr⟩ := bsome hr
  obtain ⟨q4, h4L, h4X⟩ := slices_breakPatterns_Bm_L0 (g1 := g1) (v0 := v0) (n0 := n0) (g2 := g2) (g := []) h4 (show o0.length = n0 by first | assumption | (simp only [List.length_set, List.length_replicate]; first | done | assumption | omega) | omega)
  obtain ⟨x12, x13, x14⟩ := x11
  simp only [slices_breakPatterns_Bm_X0, slices_breakPatterns_Bm_S0] at h4X h4L
  obtain ⟨z15, rfl, h4l0⟩ := h4X
  try simp only [go_sem, Nat.reduceAdd] at h4L
  obtain rfl := Option.some.inj hr
  refine ⟨(.row false 0 1 [[.d (.v (.int .u64 x14))]] :: z15), Lim_A is87 (Nat.le_of_ble_eq_true rfl) (e := .normal) (env := [(0, .ref g1.length v0 0 n0), (1, PI s1), (2, PI s2), (8, PI (w64 (s2 - s1))), (9, .ptr (g1.length + g2.length + 1) 0 0 0), (10, .d (.v (.int .u64 x1))), (11, PI x12)]) (h' := (g1 ++ (.row false v0 2 (rowP encBind x13) :: (g2 ++ (.row false 0 1 [[.d (.v (.int .u64 x14))]] :: z15))))) (vs := []) ?_ (.inl rfl) rfl, (show x13.length = n0 by first | assumption | (simp only [List.length_set, List.length_replicate]; first | done | assumption | omega) | omega)⟩
  rotate_left
  simp only [h1, if_false] at hr
  obtain rfl := Option.some.inj hr
  refine ⟨[], Lim_A is87 (Nat.le_of_ble_eq_true rfl) (e := .normal) (env := [(0, .ref g1.length v0 0 n0), (1, PI s1), (2, PI s2), (8, PI (w64 (s2 - s1)))]) (h' := (g1 ++ (.row false v0 2 (rowP encBind o0) :: (g2 ++ ([] : AHeap))))) (vs := []) ?_ (.inl rfl) rfl, (show o0.length = n0 by first | assumption | (simp only [List.length_set, List.length_replicate]; first | done | assumption | omega) | omega)⟩
  rotate_left
  all_goals (simp (config := {decide := true}) only [go_sem, Int.reduceToNat, Nat.reduceAdd, Nat.reduceLT, Nat.reduceMul, Nat.reducePow, reduceCtorEq, callEnv, c87, *])
theorem slices_breakPatterns_Bm_k {s1 : Int} {s2 : Int} {o0 : List Bind} {g1 : AHeap} {v0 : Nat} {n0 : Nat} {g2 : AHeap} (hln0 : o0.length = n0) {r : (List Bind)} (hr : slices_breakPatterns_Bm s1 s2 o0 = some r) : ∃ hz : AHeap, callP C (Lim C) 87 [.ref g1.length v0 0 n0, PI s1, PI s2, .fn 43 []] (g1 ++ (.row false v0 2 (rowP encBind o0) :: g2)) = some (resOf [], (g1 ++ (.row false v0 2 (rowP encBind r) :: (g2 ++ hz)))) ∧ r.length = n0 := by
  obtain ⟨hz, h1, f0⟩ := slices_breakPatterns_Bm_R hln0 hr (g1 := g1) (v0 := v0) (n0 := n0) (g2 := g2)
  exact ⟨hz, call_live rfl rfl rfl h1, f0⟩
def b64_0 : ACode := .block 1 42535296023574879666274036850519699456 (.seq (.reg [] [] [.M 21 2, .M 22 1, .T 23 (.bin .sub (.tmp 21) (.tmp 22)), .N 12 23]) (.seq (.seq (.reg [] [] [.M 24 12, .K 25 (.bin .leq (.tmp 24) (cI 12))]) (.cond (.tmp 25) (some 25) (.seq (.reg [] [] [.M 26 0, .M 27 1, .M 28 2, .M 29 4, .T 30 (.call 85 [.tmp 26, .tmp 27, .tmp 28, .tmp 29])]) (.ret)) (.skip))) (.seq (.seq (.reg [] [] [.M 31 3, .K 32 (.bin .eql (.tmp 31) (cI 0))]) (.cond (.tmp 32) (some 32) (.seq (.reg [] [] [.M 33 0, .M 34 1, .M 35 2, .M 36 4, .T 37 (.call 86 [.tmp 33, .tmp 34, .tmp 35, .tmp 36])]) (.ret)) (.skip))) (.seq (.seq (.reg [] [] [.M 38 10, .K 39 (.not (.tmp 38))]) (.cond (.tmp 39) (some 39) (.seq (.reg [] [] [.M 40 0, .M 41 1, .M 42 2, .M 43 4, .T 44 (.call 87 [.tmp 40, .tmp 41, .tmp 42, .tmp 43])]) (.reg [] [] [.M 45 3, .T 46 (.bin .sub (.tmp 45) (cI 1)), .N 3 46])) (.skip))) (.seq (.reg [] [] [.M 48 0, .M 49 1, .M 50 2, .M 51 4, .T 52 (.call 88 [.tmp 48, .tmp 49, .tmp 50, .tmp 51]), .M 47 52, .T 53 (.ext (.tmp 47) 0), .T 54 (.ext (.tmp 47) 1), .N 13 53, .N 14 54]) (.seq (.seq (.reg [] [] [.M 55 14, .K 56 (.bin .eql (.tmp 55) (cI 2))]) (.cond (.tmp 56) (some 56) (.seq (.reg [] [] [.M 57 0, .M 58 1, .M 59 2, .M 60 4, .T 61 (.call 89 [.tmp 57, .tmp 58, .tmp 59, .tmp 60])]) (.seq (.reg [] [] [.M 62 2, .T 63 (.bin .sub (.tmp 62) (cI 1)), .M 64 13, .M 65 1, .T 66 (.bin .sub (.tmp 64) (.tmp 65)), .T 67 (.bin .sub (.tmp 63) (.tmp 66)), .N 13 67]) (.reg [] [] [.K 14 (.mv (cI 1))]))) (.skip))) (.seq (.seq (.reg [] [] [.M 68 10, .M 69 68, .MG 70 69 true 11, .T 71 (.pick (.tmp 69) (.tmp 70) (.const (.bool false))), .M 72 71, .MG 73 72 true 14, .TG 74 72 true (.bin .eql (.tmp 73) (cI 1)), .K 75 (.pick (.tmp 72) (.tmp 74) (.const (.bool false)))]) (.cond (.tmp 75) (some 75) (.seq (.reg [] [] [.M 76 0, .M 77 1, .M 78 2, .M 79 4, .K 80 (.call 90 [.tmp 76, .tmp 77, .tmp 78, .tmp 79])]) (.cond (.tmp 80) (some 80) (.ret) (.skip))) (.skip))) (.seq (.seq (.reg [] [] [.M 81 1, .T 82 (.bin .gtr (.tmp 81) (cI 0)), .M 83 82, .MG 84 83 true 4, .MG 85 83 true 0, .MG 86 83 true 1, .TG 87 83 true (.bin .sub (.tmp 86) (cI 1)), ⟨some (88, false), .ix 2 (.tmp 85) (.tmp 87), some (83, true), true, false⟩, ⟨some (89, false), .load (some 2) (.tmp 88), some (83, true), true, false⟩, .MG 90 83 true 0, .MG 91 83 true 13, ⟨some (92, false), .ix 2 (.tmp 90) (.tmp 91), some (83, true), true, false⟩, ⟨some (93, false), .load (some 2) (.tmp 92), some (83, true), true, false⟩, ⟨some (94, false), .callV (.tmp 84) [.tmp 89, .tmp 93], some (83, true), true, false⟩, .TG 95 83 true (.bin .lss (.tmp 94) (cI 0)), .TG 96 83 true (.not (.tmp 95)), .K 97 (.pick (.tmp 83) (.tmp 96) (.const (.bool false)))]) (.cond (.tmp 97) (some 97) (.seq (.reg [] [] [.M 98 0, .M 99 1, .M 100 2, .M 101 13, .M 102 4, .T 103 (.call 91 [.tmp 98, .tmp 99, .tmp 100, .tmp 101, .tmp 102]), .N 15 103]) (.seq (.reg [] [] [.M 104 15, .N 1 104]) (.exit 1))) (.skip))) (.seq (.reg [] [] [.M 106 0, .M 107 1, .M 108 2, .M 109 13, .M 110 4, .T 111 (.call 92 [.tmp 106, .tmp 107, .tmp 108, .tmp 109, .tmp 110]), .M 105 111, .T 112 (.ext (.tmp 105) 0), .T 113 (.ext (.tmp 105) 1), .N 16 112, .N 17 113]) (.seq (.reg [] [] [.M 114 17, .N 11 114]) (.seq (.reg [] [] [.M 115 16, .M 116 1, .T 117 (.bin .sub (.tmp 115) (.tmp 116)), .M 118 2, .M 119 16, .T 120 (.bin .sub (.tmp 118) (.tmp 119)), .N 18 117, .N 19 120]) (.seq (.reg [] [] [.M 121 12, .T 122 (.binM .quo (.tmp 121) (cI 8)), .N 20 122]) (.seq (.reg [] [] [.M 123 18, .M 124 19, .K 125 (.bin .lss (.tmp 123) (.tmp 124))]) (.cond (.tmp 125) (some 125) (.seq (.reg [] [] [.M 126 18, .M 127 20, .T 128 (.bin .geq (.tmp 126) (.tmp 127)), .N 10 128]) (.seq (.reg [] [] [.M 129 0, .M 130 1, .M 131 16, .M 132 3, .M 133 4, .T 134 (.call 64 [.tmp 129, .tmp 130, .tmp 131, .tmp 132, .tmp 133])]) (.reg [] [] [.M 135 16, .T 136 (.bin .add (.tmp 135) (cI 1)), .N 1 136]))) (.seq (.reg [] [] [.M 137 19, .M 138 20, .T 139 (.bin .geq (.tmp 137) (.tmp 138)), .N 10 139]) (.seq (.reg [] [] [.M 140 0, .M 141 16, .T 142 (.bin .add (.tmp 141) (cI 1)), .M 143 2, .M 144 3, .M 145 4, .T 146 (.call 64 [.tmp 140, .tmp 142, .tmp 143, .tmp 144, .tmp 145])]) (.reg [] [] [.M 147 16, .N 2 147])))))))))))))))))
def c64 : ACode := .seq (.reg [] [] [.K 10 (.mv (.const (.bool true)))]) (.seq (.reg [] [] [.K 11 (.mv (.const (.bool true)))]) (.block 0 42535296023574879666274036850519699456 (.loop b64_0)))
theorem is64 : IsF C 64 148 42535296023574879666274036850519702559 c64 [] := ⟨⟨Tryd.f64, _, C_P ▸ Tryd.func64, rfl, rfl, rfl, by kernel_rfl, rfl⟩⟩
def slices_pdqsort_Bm_S0 (g1 : AHeap) (v0 : Nat) (n0 : Nat) (g2 : AHeap) : Int × Int × Int × Bool × Bool × (List Bind) → AHeap → St := fun (s1, s2, s3, s10, s11, o0) gt => ⟨[(0, .ref g1.length v0 0 n0), (1, PI s1), (2, PI s2), (3, PI s3), (4, .fn 43 []), (10, PB s10), (11, PB s11)], (g1 ++ (.row false v0 2 (rowP encBind o0) :: (g2 ++ gt)))⟩
def slices_pdqsort_Bm_I0 (g1 : AHeap) (v0 : Nat) (n0 : Nat) (g2 : AHeap) : Int × Int × Int × Bool × Bool × (List Bind) → Prop := fun (s1, s2, s3, s10, s11, o0) => o0.length = n0
def slices_pdqsort_Bm_X0 (g1 : AHeap) (v0 : Nat) (n0 : Nat) (g2 : AHeap) : ((List Bind)) → AExit × St → Prop := fun r q => q.1 = .ret ∧ ∃ hz : AHeap, mapO (resP C.P q.2) [] = some [] ∧ q.2.h = (g1 ++ (.row false v0 2 (rowP encBind r) :: (g2 ++ hz))) ∧ r.length = n0
set_option maxHeartbeats 4000000 in
theorem slices_pdqsort_Bm_R0 {rec : Int × Int × Int × (List Bind) → Option ((List Bind))} (hrec : ∀ {s1 : Int} {s2 : Int} {s3 : Int} {o0 : List Bind} {g1 : AHeap} {v0 : Nat} {n0 : Nat} {g2 : AHeap} (hln0 : o0.length = n0) {r : (List Bind)} (_ : rec (s1, s2, s3, o0) = some r), ∃ hz : AHeap, callP C (Lim C) 64 [.ref g1.length v0 0 n0, PI s1, PI s2, PI s3, .fn 43 []] (g1 ++ (.row false v0 2 (rowP encBind o0) :: g2)) = some (resOf [], (g1 ++ (.row false v0 2 (rowP encBind r) :: (g2 ++ hz)))) ∧ r.length = n0) (g1 : AHeap) (v0 : Nat) (n0 : Nat) (g2 : AHeap) : ∀ (s : Int × Int × Int × Bool × Bool × (List Bind)) (g : AHeap) r, slices_pdqsort_Bm_I0 g1 v0 n0 g2 s → slices_pdqsort_Bm_l0 rec s = some r → Sum.elim (fun s' => (∃ g', semA C (Lim C) 42535296023574879666274036850519702559 b64_0 (slices_pdqsort_Bm_S0 g1 v0 n0 g2 s g) = some (.normal, slices_pdqsort_Bm_S0 g1 v0 n0 g2 s' g')) ∧ slices_pdqsort_Bm_I0 g1 v0 n0 g2 s') (fun x => ∃ q, semA C (Lim C) 42535296023574879666274036850519702559 b64_0 (slices_pdqsort_Bm_S0 g1 v0 n0 g2 s g) = some q ∧ q.1 ≠ .normal ∧ slices_pdqsort_Bm_X0 g1 v0 n0 g2 x q) r := by
  intro s g r hI hr
  obtain ⟨s1, s2, s3, s10, s11, o0⟩ := s
  have ⟨gt, hg0⟩ : ∃ y, y = g := ⟨_, rfl⟩
  subst hg0
  simp only [slices_pdqsort_Bm_I0] at hI
  have hI0 := hI
  simp only [slices_pdqsort_Bm_l0] at hr
  rcases Classical.propComplete ((w64 (s2 - s1)) ≤ 12) with h1 | h1
  simp only [h1, if_true] at hr
  obtain ⟨x1, h2, hr⟩ := bsome hr
  obtain ⟨z2, h2k, h2l0⟩ := slices_insertionSort_Bm_k (g1 := g1) (v0 := v0) (n0 := n0) (g2 := (g2 ++ gt)) (show o0.length = n0 by first | assumption | (simp only [List.length_set, List.length_replicate]; first | done | assumption | omega) | omega) h2
  try simp only [go_sem, Nat.reduceAdd] at h2k
  obtain rfl := Option.some.inj hr
  refine ⟨(.ret, ⟨[(0, .ref g1.length v0 0 n0), (1, PI s1), (2, PI s2), (3, PI s3), (4, .fn 43 []), (10, PB s10), (11, PB s11), (12, PI (w64 (s2 - s1)))], (g1 ++ (.row false v0 2 (rowP encBind x1) :: (g2 ++ (gt ++ z2))))⟩), ?_, nofun, rfl, (gt ++ z2), rfl, rfl, (show x1.length = n0 by first | assumption | (simp only [List.length_set, List.length_replicate]; first | done | assumption | omega) | omega)⟩
  rotate_left
  simp only [h1, if_false] at hr
  rcases Classical.propComplete (s3 = 0) with h3 | h3
  simp only [h3, if_true] at hr
  obtain ⟨x3, h4, hr⟩ := bsome hr
  obtain ⟨z4, h4k, h4l0⟩ := slices_heapSort_Bm_k (g1 := g1) (v0 := v0) (n0 := n0) (g2 := (g2 ++ gt)) (show o0.length = n0 by first | assumption | (simp only [List.length_set, List.length_replicate]; first | done | assumption | omega) | omega) h4
  try simp only [go_sem, Nat.reduceAdd] at h4k
  obtain rfl := Option.some.inj hr
  refine ⟨(.ret, ⟨[(0, .ref g1.length v0 0 n0), (1, PI s1), (2, PI s2), (3, PI s3), (4, .fn 43 []), (10, PB s10), (11, PB s11), (12, PI (w64 (s2 - s1)))], (g1 ++ (.row false v0 2 (rowP encBind x3) :: (g2 ++ (gt ++ z4))))⟩), ?_, nofun, rfl, (gt ++ z4), rfl, rfl, (show x3.length = n0 by first | assumption | (simp only [List.length_set, List.length_replicate]; first | done | assumption | omega) | omega)⟩
  rotate_left
  simp only [h3, if_false] at hr
  cases h5 : s10
  simp only [h5, Bool.false_eq_true, if_false] at hr
  obtain ⟨x107, h96, hr⟩ := bsome hr
  obtain ⟨z108, h96k, h96l0⟩ := slices_breakPatterns_Bm_k (g1 := g1) (v0 := v0) (n0 := n0) (g2 := (g2 ++ gt)) (show o0.length = n0 by first | assumption | (simp only [List.length_set, List.length_replicate]; first | done | assumption | omega) | omega) h96
  try simp only [go_sem, Nat.reduceAdd] at h96k
  obtain ⟨x109, h97, hr⟩ := bsome hr
  obtain ⟨z110, h97k⟩ := slices_choosePivot_Bm_k (g1 := g1) (v0 := v0) (n0 := n0) (g2 := (g2 ++ (gt ++ z108))) (show x107.length = n0 by first | assumption | (simp only [List.length_set, List.length_replicate]; first | done | assumption | omega) | omega) h97
  try simp only [go_sem, Nat.reduceAdd] at h97k
  rcases Classical.propComplete (x109.2 = 2) with h98 | h98
  simp only [h98, if_true] at hr
  obtain ⟨x111, h99, hr⟩ := bsome hr
  obtain ⟨h99k, h99l0⟩ := slices_reverseRange_Bm_k (g1 := g1) (v0 := v0) (n0 := n0) (g2 := (g2 ++ (gt ++ (z108 ++ z110)))) (show x107.length = n0 by first | assumption | (simp only [List.length_set, List.length_replicate]; first | done | assumption | omega) | omega) h99
  try simp only [go_sem, Nat.reduceAdd] at h99k
  rcases Classical.propComplete (0 < s1) with h100 | h100
  simp only [h100, if_true] at hr
  obtain ⟨x112, h101, hr⟩ := bsome hr
  have h101a := eq_true (idx_some h101).1
  have h101b : ((w64 (s1 - 1)) < (n0 : Int)) = True := eq_true (by have hb : (w64 (s1 - 1)) < (x111.length : Int) := (idx_some h101).2.1; omega)
  have h101c := (idx_some h101).2.2
  obtain ⟨x113, h102, hr⟩ := bsome hr
  have h102a := eq_true (idx_some h102).1
  have h102b : ((w64 ((w64 (s2 - 1)) - (w64 (x109.1 - s1)))) < (n0 : Int)) = True := eq_true (by have hb : (w64 ((w64 (s2 - 1)) - (w64 (x109.1 - s1)))) < (x111.length : Int) := (idx_some h102).2.1; omega)
  have h102c := (idx_some h102).2.2
  obtain ⟨x114, h103, hr⟩ := bsome hr
  have h103k := fun h => match_Match_c1_o (h := h) (args := [.ag [PI x112.Var, .d (.rd (x112.T.map intD))], .ag [PI x113.Var, .d (.rd (x113.T.map intD))]]) h103 rfl
  try simp only [go_sem] at h103k
  rcases Classical.propComplete (x114 < 0) with h104 | h104
  simp only [h104, if_true] at hr
  obtain ⟨x115, h105, hr⟩ := bsome hr
  obtain ⟨z116, h105k, h105l0⟩ := slices_partition_Bm_k (g1 := g1) (v0 := v0) (n0 := n0) (g2 := (g2 ++ (gt ++ (z108 ++ z110)))) (show x111.length = n0 by first | assumption | (simp only [List.length_set, List.length_replicate]; first | done | assumption | omega) | omega) h105
  try simp only [go_sem, Nat.reduceAdd] at h105k
  obtain ⟨x117, h106, hr⟩ := bsome hr
  rcases Classical.propComplete ((w64 (x115.1 - s1)) < (w64 (s2 - x115.1))) with h107 | h107
  simp only [h107, if_true] at hr
  obtain ⟨x118, h108, hr⟩ := bsome hr
  obtain ⟨z119, h108k, h108l0⟩ := hrec (g1 := g1) (v0 := v0) (n0 := n0) (g2 := (g2 ++ (gt ++ (z108 ++ (z110 ++ z116))))) (show x115.2.2.length = n0 by first | assumption | (simp only [List.length_set, List.length_replicate]; first | done | assumption | omega) | omega) h108
  try simp only [go_sem, Nat.reduceAdd] at h108k
  obtain rfl := Option.some.inj hr
  refine ⟨⟨(gt ++ (z108 ++ (z110 ++ (z116 ++ z119)))), ?_⟩, (show x118.length = n0 by first | assumption | (simp only [List.length_set, List.length_replicate]; first | done | assumption | omega) | omega)⟩
  rotate_left
  simp only [h107, if_false] at hr
  obtain ⟨x120, h109, hr⟩ := bsome hr
  obtain ⟨z121, h109k, h109l0⟩ := hrec (g1 := g1) (v0 := v0) (n0 := n0) (g2 := (g2 ++ (gt ++ (z108 ++ (z110 ++ z116))))) (show x115.2.2.length = n0 by first | assumption | (simp only [List.length_set, List.length_replicate]; first | done | assumption | omega) | omega) h109
  try simp only [go_sem, Nat.reduceAdd] at h109k
  obtain rfl := Option.some.inj hr
  refine ⟨⟨(gt ++ (z108 ++ (z110 ++ (z116 ++ z121)))), ?_⟩, (show x120.length = n0 by first | assumption | (simp only [List.length_set, List.length_replicate]; first | done | assumption | omega) | omega)⟩
  rotate_left
  simp only [h104, if_false] at hr
  obtain ⟨x122, h110, hr⟩ := bsome hr
  obtain ⟨z123, h110k, h110l0⟩ := slices_partitionEqual_Bm_k (g1 := g1) (v0 := v0) (n0 := n0) (g2 := (g2 ++ (gt ++ (z108 ++ z110)))) (show x111.length = n0 by first | assumption | (simp only [List.length_set, List.length_replicate]; first | done | assumption | omega) | omega) h110
  try simp only [go_sem, Nat.reduceAdd] at h110k
  obtain rfl := Option.some.inj hr
  refine ⟨⟨(gt ++ (z108 ++ (z110 ++ z123))), ?_⟩, (show x122.2.length = n0 by first | assumption | (simp only [List.length_set, List.length_replicate]; first | done | assumption | omega) | omega)⟩
  rotate_left
  simp only [h100, if_false] at hr
  obtain ⟨x124, h111, hr⟩ := bsome hr
  obtain ⟨z125, h111k, h111l0⟩ := slices_partition_Bm_k (g1 := g1) (v0 := v0) (n0 := n0) (g2 := (g2 ++ (gt ++ (z108 ++ z110)))) (show x111.length = n0 by first | assumption | (simp only [List.length_set, List.length_replicate]; first | done | assumption | omega) | omega) h111
  try simp only [go_sem, Nat.reduceAdd] at h111k
  obtain ⟨x126, h112, hr⟩ := bsome hr
  rcases Classical.propComplete ((w64 (x124.1 - s1)) < (w64 (s2 - x124.1))) with h113 | h113
  simp only [h113, if_true] at hr
  obtain ⟨x127, h114, hr⟩ := bsome hr
  obtain ⟨z128, h114k, h114l0⟩ := hrec (g1 := g1) (v0 := v0) (n0 := n0) (g2 := (g2 ++ (gt ++ (z108 ++ (z110 ++ z125))))) (show x124.2.2.length = n0 by first | assumption | (simp only [List.length_set, List.length_replicate]; first | done | assumption | omega) | omega) h114
  try simp only [go_sem, Nat.reduceAdd] at h114k
  obtain rfl := Option.some.inj hr
  refine ⟨⟨(gt ++ (z108 ++ (z110 ++ (z125 ++ z128)))), ?_⟩, (show x127.length = n0 by first | assumption | (simp only [List.length_set, List.length_replicate]; first | done | assumption | omega) | omega)⟩
  rotate_left
  simp only [h113, if_false] at hr
  obtain ⟨x129, h115, hr⟩ := bsome hr
  obtain ⟨z130, h115k, h115l0⟩ := hrec (g1 := g1) (v0 := v0) (n0 := n0) (g2 := (g2 ++ (gt ++ (z108 ++ (z110 ++ z125))))) (show x124.2.2.length = n0 by first | assumption | (simp only [List.length_set, List.length_replicate]; first | done | assumption | omega) | omega) h115
  try simp only [go_sem, Nat.reduceAdd] at h115k
  obtain rfl := Option.some.inj hr
  refine ⟨⟨(gt ++ (z108 ++ (z110 ++ (z125 ++ z130)))), ?_⟩, (show x129.length = n0 by first | assumption | (simp only [List.length_set, List.length_replicate]; first | done | assumption | omega) | omega)⟩
  rotate_left
  simp only [h98, if_false] at hr
  rcases Classical.propComplete (0 < s1) with h116 | h116
  simp only [h116, if_true] at hr
  obtain ⟨x131, h117, hr⟩ := bsome hr
  have h117a := eq_true (idx_some h117).1
  have h117b : ((w64 (s1 - 1)) < (n0 : Int)) = True := eq_true (by have hb : (w64 (s1 - 1)) < (x107.length : Int) := (idx_some h117).2.1; omega)
  have h117c := (idx_some h117).2.2
  obtain ⟨x132, h118, hr⟩ := bsome hr
  have h118a := eq_true (idx_some h118).1
  have h118b : (x109.1 < (n0 : Int)) = True := eq_true (by have hb : x109.1 < (x107.length : Int) := (idx_some h118).2.1; omega)
  have h118c := (idx_some h118).2.2
  obtain ⟨x133, h119, hr⟩ := bsome hr
  have h119k := fun h => match_Match_c1_o (h := h) (args := [.ag [PI x131.Var, .d (.rd (x131.T.map intD))], .ag [PI x132.Var, .d (.rd (x132.T.map intD))]]) h119 rfl
  try simp only [go_sem] at h119k
  rcases Classical.propComplete (x133 < 0) with h120 | h120
  simp only [h120, if_true] at hr
  obtain ⟨x134, h121, hr⟩ := bsome hr
  obtain ⟨z135, h121k, h121l0⟩ := slices_partition_Bm_k (g1 := g1) (v0 := v0) (n0 := n0) (g2 := (g2 ++ (gt ++ (z108 ++ z110)))) (show x107.length = n0 by first | assumption | (simp only [List.length_set, List.length_replicate]; first | done | assumption | omega) | omega) h121
  try simp only [go_sem, Nat.reduceAdd] at h121k
  obtain ⟨x136, h122, hr⟩ := bsome hr
  rcases Classical.propComplete ((w64 (x134.1 - s1)) < (w64 (s2 - x134.1))) with h123 | h123
  simp only [h123, if_true] at hr
  obtain ⟨x137, h124, hr⟩ := bsome hr
  obtain ⟨z138, h124k, h124l0⟩ := hrec (g1 := g1) (v0 := v0) (n0 := n0) (g2 := (g2 ++ (gt ++ (z108 ++ (z110 ++ z135))))) (show x134.2.2.length = n0 by first | assumption | (simp only [List.length_set, List.length_replicate]; first | done | assumption | omega) | omega) h124
  try simp only [go_sem, Nat.reduceAdd] at h124k
  obtain rfl := Option.some.inj hr
  refine ⟨⟨(gt ++ (z108 ++ (z110 ++ (z135 ++ z138)))), ?_⟩, (show x137.length = n0 by first | assumption | (simp only [List.length_set, List.length_replicate]; first | done | assumption | omega) | omega)⟩
  rotate_left
  simp only [h123, if_false] at hr
  obtain ⟨x139, h125, hr⟩ := bsome hr
  obtain ⟨z140, h125k, h125l0⟩ := hrec (g1 := g1) (v0 := v0) (n0 := n0) (g2 := (g2 ++ (gt ++ (z108 ++ (z110 ++ z135))))) (show x134.2.2.length = n0 by first | assumption | (simp only [List.length_set, List.length_replicate]; first | done | assumption | omega) | omega) h125
  try simp only [go_sem, Nat.reduceAdd] at h125k
  obtain rfl := Option.some.inj hr
  refine ⟨⟨(gt ++ (z108 ++ (z110 ++ (z135 ++ z140)))), ?_⟩, (show x139.length = n0 by first | assumption | (simp only [List.length_set, List.length_replicate]; first | done | assumption | omega) | omega)⟩
  rotate_left
  simp only [h120, if_false] at hr
  obtain ⟨x141, h126, hr⟩ := bsome hr
  obtain ⟨z142, h126k, h126l0⟩ := slices_partitionEqual_Bm_k (g1 := g1) (v0 := v0) (n0 := n0) (g2 := (g2 ++ (gt ++ (z108 ++ z110)))) (show x107.length = n0 by first | assumption | (simp only [List.length_set, List.length_replicate]; first | done | assumption | omega) | omega) h126
  try simp only [go_sem, Nat.reduceAdd] at h126k
  obtain rfl := Option.some.inj hr
  refine ⟨⟨(gt ++ (z108 ++ (z110 ++ z142))), ?_⟩, (show x141.2.length = n0 by first | assumption | (simp only [List.length_set, List.length_replicate]; first | done | assumption | omega) | omega)⟩
  rotate_left
  simp only [h116, if_false] at hr
  obtain ⟨x143, h127, hr⟩ := bsome hr
  obtain ⟨z144, h127k, h127l0⟩ := slices_partition_Bm_k (g1 := g1) (v0 := v0) (n0 := n0) (g2 := (g2 ++ (gt ++ (z108 ++ z110)))) (show x107.length = n0 by first | assumption | (simp only [List.length_set, List.length_replicate]; first | done | assumption | omega) | omega) h127
  try simp only [go_sem, Nat.reduceAdd] at h127k
  obtain ⟨x145, h128, hr⟩ := bsome hr
  rcases Classical.propComplete ((w64 (x143.1 - s1)) < (w64 (s2 - x143.1))) with h129 | h129
  simp only [h129, if_true] at hr
  obtain ⟨x146, h130, hr⟩ := bsome hr
  obtain ⟨z147, h130k, h130l0⟩ := hrec (g1 := g1) (v0 := v0) (n0 := n0) (g2 := (g2 ++ (gt ++ (z108 ++ (z110 ++ z144))))) (show x143.2.2.length = n0 by first | assumption | (simp only [List.length_set, List.length_replicate]; first | done | assumption | omega) | omega) h130
  try simp only [go_sem, Nat.reduceAdd] at h130k
  obtain rfl := Option.some.inj hr
  refine ⟨⟨(gt ++ (z108 ++ (z110 ++ (z144 ++ z147)))), ?_⟩, (show x146.length = n0 by first | assumption | (simp only [List.length_set, List.length_replicate]; first | done | assumption | omega) | omega)⟩
  rotate_left
  simp only [h129, if_false] at hr
  obtain ⟨x148, h131, hr⟩ := bsome hr
  obtain ⟨z149, h131k, h131l0⟩ := hrec (g1 := g1) (v0 := v0) (n0 := n0) (g2 := (g2 ++ (gt ++ (z108 ++ (z110 ++ z144))))) (show x143.2.2.length = n0 by first | assumption | (simp only [List.length_set, List.length_replicate]; first | done | assumption | omega) | omega) h131
  try simp only [go_sem, Nat.reduceAdd] at h131k
  obtain rfl := Option.some.inj hr
  refine ⟨⟨(gt ++ (z108 ++ (z110 ++ (z144 ++ z149)))), ?_⟩, (show x148.length = n0 by first | assumption | (simp only [List.length_set, List.length_replicate]; first | done | assumption | omega) | omega)⟩
  rotate_left
  simp only [h5, if_true] at hr
  obtain ⟨x5, h6, hr⟩ := bsome hr
  obtain ⟨z6, h6k⟩ := slices_choosePivot_Bm_k (g1 := g1) (v0 := v0) (n0 := n0) (g2 := (g2 ++ gt)) (show o0.length = n0 by first | assumption | (simp only [List.length_set, List.length_replicate]; first | done | assumption | omega) | omega) h6
  try simp only [go_sem, Nat.reduceAdd] at h6k
  rcases Classical.propComplete (x5.2 = 2) with h7 | h7
  simp only [h7, if_true] at hr
  obtain ⟨x7, h8, hr⟩ := bsome hr
  obtain ⟨h8k, h8l0⟩ := slices_reverseRange_Bm_k (g1 := g1) (v0 := v0) (n0 := n0) (g2 := (g2 ++ (gt ++ z6))) (show o0.length = n0 by first | assumption | (simp only [List.length_set, List.length_replicate]; first | done | assumption | omega) | omega) h8
  try simp only [go_sem, Nat.reduceAdd] at h8k
  cases h9 : s11
  simp only [h9, Bool.false_eq_true, if_false] at hr
  rcases Classical.propComplete (0 < s1) with h28 | h28
  simp only [h28, if_true] at hr
  obtain ⟨x29, h29, hr⟩ := bsome hr
  have h29a := eq_true (idx_some h29).1
  have h29b : ((w64 (s1 - 1)) < (n0 : Int)) = True := eq_true (by have hb : (w64 (s1 - 1)) < (x7.length : Int) := (idx_some h29).2.1; omega)
  have h29c := (idx_some h29).2.2
  obtain ⟨x30, h30, hr⟩ := bsome hr
  have h30a := eq_true (idx_some h30).1
  have h30b : ((w64 ((w64 (s2 - 1)) - (w64 (x5.1 - s1)))) < (n0 : Int)) = True := eq_true (by have hb : (w64 ((w64 (s2 - 1)) - (w64 (x5.1 - s1)))) < (x7.length : Int) := (idx_some h30).2.1; omega)
  have h30c := (idx_some h30).2.2
  obtain ⟨x31, h31, hr⟩ := bsome hr
  have h31k := fun h => match_Match_c1_o (h := h) (args := [.ag [PI x29.Var, .d (.rd (x29.T.map intD))], .ag [PI x30.Var, .d (.rd (x30.T.map intD))]]) h31 rfl
  try simp only [go_sem] at h31k
  rcases Classical.propComplete (x31 < 0) with h32 | h32
  simp only [h32, if_true] at hr
  obtain ⟨x32, h33, hr⟩ := bsome hr
  obtain ⟨z33, h33k, h33l0⟩ := slices_partition_Bm_k (g1 := g1) (v0 := v0) (n0 := n0) (g2 := (g2 ++ (gt ++ z6))) (show x7.length = n0 by first | assumption | (simp only [List.length_set, List.length_replicate]; first | done | assumption | omega) | omega) h33
  try simp only [go_sem, Nat.reduceAdd] at h33k
  obtain ⟨x34, h34, hr⟩ := bsome hr
  rcases Classical.propComplete ((w64 (x32.1 - s1)) < (w64 (s2 - x32.1))) with h35 | h35
  simp only [h35, if_true] at hr
  obtain ⟨x35, h36, hr⟩ := bsome hr
  obtain ⟨z36, h36k, h36l0⟩ := hrec (g1 := g1) (v0 := v0) (n0 := n0) (g2 := (g2 ++ (gt ++ (z6 ++ z33)))) (show x32.2.2.length = n0 by first | assumption | (simp only [List.length_set, List.length_replicate]; first | done | assumption | omega) | omega) h36
  try simp only [go_sem, Nat.reduceAdd] at h36k
  obtain rfl := Option.some.inj hr
  refine ⟨⟨(gt ++ (z6 ++ (z33 ++ z36))), ?_⟩, (show x35.length = n0 by first | assumption | (simp only [List.length_set, List.length_replicate]; first | done | assumption | omega) | omega)⟩
  rotate_left
  simp only [h35, if_false] at hr
  obtain ⟨x37, h37, hr⟩ := bsome hr
  obtain ⟨z38, h37k, h37l0⟩ := hrec (g1 := g1) (v0 := v0) (n0 := n0) (g2 := (g2 ++ (gt ++ (z6 ++ z33)))) (show x32.2.2.length = n0 by first | assumption | (simp only [List.length_set, List.length_replicate]; first | done | assumption | omega) | omega) h37
  try simp only [go_sem, Nat.reduceAdd] at h37k
  obtain rfl := Option.some.inj hr
  refine ⟨⟨(gt ++ (z6 ++ (z33 ++ z38))), ?_⟩, (show x37.length = n0 by first | assumption | (simp only [List.length_set, List.length_replicate]; first | done | assumption | omega) | omega)⟩
  rotate_left
  simp only [h32, if_false] at hr
  obtain ⟨x39, h38, hr⟩ := bsome hr
  obtain ⟨z40, h38k, h38l0⟩ := slices_partitionEqual_Bm_k (g1 := g1) (v0 := v0) (n0 := n0) (g2 := (g2 ++ (gt ++ z6))) (show x7.length = n0 by first | assumption | (simp only [List.length_set, List.length_replicate]; first | done | assumption | omega) | omega) h38
  try simp only [go_sem, Nat.reduceAdd] at h38k
  obtain rfl := Option.some.inj hr
  refine ⟨⟨(gt ++ (z6 ++ z40)), ?_⟩, (show x39.2.length = n0 by first | assumption | (simp only [List.length_set, List.length_replicate]; first | done | assumption | omega) | omega)⟩
  rotate_left
  simp only [h28, if_false] at hr
  obtain ⟨x41, h39, hr⟩ := bsome hr
  obtain ⟨z42, h39k, h39l0⟩ := slices_partition_Bm_k (g1 := g1) (v0 := v0) (n0 := n0) (g2 := (g2 ++ (gt ++ z6))) (show x7.length = n0 by first | assumption | (simp only [List.length_set, List.length_replicate]; first | done | assumption | omega) | omega) h39
  try simp only [go_sem, Nat.reduceAdd] at h39k
  obtain ⟨x43, h40, hr⟩ := bsome hr
  rcases Classical.propComplete ((w64 (x41.1 - s1)) < (w64 (s2 - x41.1))) with h41 | h41
  simp only [h41, if_true] at hr
  obtain ⟨x44, h42, hr⟩ := bsome hr
  obtain ⟨z45, h42k, h42l0⟩ := hrec (g1 := g1) (v0 := v0) (n0 := n0) (g2 := (g2 ++ (gt ++ (z6 ++ z42)))) (show x41.2.2.length = n0 by first | assumption | (simp only [List.length_set, List.length_replicate]; first | done | assumption | omega) | omega) h42
  try simp only [go_sem, Nat.reduceAdd] at h42k
  obtain rfl := Option.some.inj hr
  refine ⟨⟨(gt ++ (z6 ++ (z42 ++ z45))), ?_⟩, (show x44.length = n0 by first | assumption | (simp only [List.length_set, List.length_replicate]; first | done | assumption | omega) | omega)⟩
  rotate_left
  simp only [h41, if_false] at hr
  obtain ⟨x46, h43, hr⟩ := bsome hr
  obtain ⟨z47, h43k, h43l0⟩ := hrec (g1 := g1) (v0 := v0) (n0 := n0) (g2 := (g2 ++ (gt ++ (z6 ++ z42)))) (show x41.2.2.length = n0 by first | assumption | (simp only [List.length_set, List.length_replicate]; first | done | assumption | omega) | omega) h43
  try simp only [go_sem, Nat.reduceAdd] at h43k
  obtain rfl := Option.some.inj hr
  refine ⟨⟨(gt ++ (z6 ++ (z42 ++ z47))), ?_⟩, (show x46.length = n0 by first | assumption | (simp only [List.length_set, List.length_replicate]; first | done | assumption | omega) | omega)⟩
  rotate_left
  simp only [h9, if_true] at hr
  obtain ⟨x8, h10, hr⟩ := bsome hr
  obtain ⟨z9, h10k, h10l0⟩ := slices_partialInsertionSort_Bm_k (g1 := g1) (v0 := v0) (n0 := n0) (g2 := (g2 ++ (gt ++ z6))) (show x7.length = n0 by first | assumption | (simp only [List.length_set, List.length_replicate]; first | done | assumption | omega) | omega) h10
  try simp only [go_sem, Nat.reduceAdd] at h10k
  cases h11 : x8.1
  simp only [h11, Bool.false_eq_true, if_false] at hr
  rcases Classical.propComplete (0 < s1) with h12 | h12
  simp only [h12, if_true] at hr
  obtain ⟨x10, h13, hr⟩ := bsome hr
  have h13a := eq_true (idx_some h13).1
  have h13b : ((w64 (s1 - 1)) < (n0 : Int)) = True := eq_true (by have hb : (w64 (s1 - 1)) < (x8.2.length : Int) := (idx_some h13).2.1; omega)
  have h13c := (idx_some h13).2.2
  obtain ⟨x11, h14, hr⟩ := bsome hr
  have h14a := eq_true (idx_some h14).1
  have h14b : ((w64 ((w64 (s2 - 1)) - (w64 (x5.1 - s1)))) < (n0 : Int)) = True := eq_true (by have hb : (w64 ((w64 (s2 - 1)) - (w64 (x5.1 - s1)))) < (x8.2.length : Int) := (idx_some h14).2.1; omega)
  have h14c := (idx_some h14).2.2
  obtain ⟨x12, h15, hr⟩ := bsome hr
  have h15k := fun h => match_Match_c1_o (h := h) (args := [.ag [PI x10.Var, .d (.rd (x10.T.map intD))], .ag [PI x11.Var, .d (.rd (x11.T.map intD))]]) h15 rfl
  try simp only [go_sem] at h15k
  rcases Classical.propComplete (x12 < 0) with h16 | h16
  simp only [h16, if_true] at hr
  obtain ⟨x13, h17, hr⟩ := bsome hr
  obtain ⟨z14, h17k, h17l0⟩ := slices_partition_Bm_k (g1 := g1) (v0 := v0) (n0 := n0) (g2 := (g2 ++ (gt ++ (z6 ++ z9)))) (show x8.2.length = n0 by first | assumption | (simp only [List.length_set, List.length_replicate]; first | done | assumption | omega) | omega) h17
  try simp only [go_sem, Nat.reduceAdd] at h17k
  obtain ⟨x15, h18, hr⟩ := bsome hr
  rcases Classical.propComplete ((w64 (x13.1 - s1)) < (w64 (s2 - x13.1))) with h19 | h19
  simp only [h19, if_true] at hr
  obtain ⟨x16, h20, hr⟩ := bsome hr
  obtain ⟨z17, h20k, h20l0⟩ := hrec (g1 := g1) (v0 := v0) (n0 := n0) (g2 := (g2 ++ (gt ++ (z6 ++ (z9 ++ z14))))) (show x13.2.2.length = n0 by first | assumption | (simp only [List.length_set, List.length_replicate]; first | done | assumption | omega) | omega) h20
  try simp only [go_sem, Nat.reduceAdd] at h20k
  obtain rfl := Option.some.inj hr
  refine ⟨⟨(gt ++ (z6 ++ (z9 ++ (z14 ++ z17)))), ?_⟩, (show x16.length = n0 by first | assumption | (simp only [List.length_set, List.length_replicate]; first | done | assumption | omega) | omega)⟩
  rotate_left
  simp only [h19, if_false] at hr
  obtain ⟨x18, h21, hr⟩ := bsome hr
  obtain ⟨z19, h21k, h21l0⟩ := hrec (g1 := g1) (v0 := v0) (n0 := n0) (g2 := (g2 ++ (gt ++ (z6 ++ (z9 ++ z14))))) (show x13.2.2.length = n0 by first | assumption | (simp only [List.length_set, List.length_replicate]; first | done | assumption | omega) | omega) h21
  try simp only [go_sem, Nat.reduceAdd] at h21k
  obtain rfl := Option.some.inj hr
  refine ⟨⟨(gt ++ (z6 ++ (z9 ++ (z14 ++ z19)))), ?_⟩, (show x18.length = n0 by first | assumption | (simp only [List.length_set, List.length_replicate]; first | done | assumption | omega) | omega)⟩
  rotate_left
  simp only [h16, if_false] at hr
  obtain ⟨x20, h22, hr⟩ := bsome hr
  obtain ⟨z21, h22k, h22l0⟩ := slices_partitionEqual_Bm_k (g1 := g1) (v0 := v0) (n0 := n0) (g2 := (g2 ++ (gt ++ (z6 ++ z9)))) (show x8.2.length = n0 by first | assumption | (simp only [List.length_set, List.length_replicate]; first | done | assumption | omega) | omega) h22
  try simp only [go_sem, Nat.reduceAdd] at h22k
  obtain rfl := Option.some.inj hr
  refine ⟨⟨(gt ++ (z6 ++ (z9 ++ z21))), ?_⟩, (show x20.2.length = n0 by first | assumption | (simp only [List.length_set, List.length_replicate]; first | done | assumption | omega) | omega)⟩
  rotate_left
  simp only [h12, if_false] at hr
  obtain ⟨x22, h23, hr⟩ := bsome hr
  obtain ⟨z23, h23k, h23l0⟩ := slices_partition_Bm_k (g1 := g1) (v0 := v0) (n0 := n0) (g2 := (g2 ++ (gt ++ (z6 ++ z9)))) (show x8.2.length = n0 by first | assumption | (simp only [List.length_set, List.length_replicate]; first | done | assumption | omega) | omega) h23
  try simp only [go_sem, Nat.reduceAdd] at h23k
  obtain ⟨x24, h24, hr⟩ := bsome hr
  rcases Classical.propComplete ((w64 (x22.1 - s1)) < (w64 (s2 - x22.1))) with h25 | h25
  simp only [h25, if_true] at hr
  obtain ⟨x25, h26, hr⟩ := bsome hr
  obtain ⟨z26, h26k, h26l0⟩ := hrec (g1 := g1) (v0 := v0) (n0 := n0) (g2 := (g2 ++ (gt ++ (z6 ++ (z9 ++ z23))))) (show x22.2.2.length = n0 by first | assumption | (simp only [List.length_set, List.length_replicate]; first | done | assumption | omega) | omega) h26
  try simp only [go_sem, Nat.reduceAdd] at h26k
  obtain rfl := Option.some.inj hr
  refine ⟨⟨(gt ++ (z6 ++ (z9 ++ (z23 ++ z26)))), ?_⟩, (show x25.length = n0 by first | assumption | (simp only [List.length_set, List.length_replicate]; first | done | assumption | omega) | omega)⟩
  rotate_left
  simp only [h25, if_false] at hr
  obtain ⟨x27, h27, hr⟩ := bsome hr
  obtain ⟨z28, h27k, h27l0⟩ := hrec (g1 := g1) (v0 := v0) (n0 := n0) (g2 := (g2 ++ (gt ++ (z6 ++ (z9 ++ z23))))) (show x22.2.2.length = n0 by first | assumption | (simp only [List.length_set, List.length_replicate]; first | done | assumption | omega) | omega) h27
  try simp only [go_sem, Nat.reduceAdd] at h27k
  obtain rfl := Option.some.inj hr
  refine ⟨⟨(gt ++ (z6 ++ (z9 ++ (z23 ++ z28)))), ?_⟩, (show x27.length = n0 by first | assumption | (simp only [List.length_set, List.length_replicate]; first | done | assumption | omega) | omega)⟩
  rotate_left
  simp only [h11, if_true] at hr
  obtain rfl := Option.some.inj hr
  refine ⟨(.ret, ⟨[(0, .ref g1.length v0 0 n0), (1, PI s1), (2, PI s2), (3, PI s3), (4, .fn 43 []), (10, PB s10), (11, PB s11), (12, PI (w64 (s2 - s1))), (13, PI (w64 ((w64 (s2 - 1)) - (w64 (x5.1 - s1))))), (14, PI 1)], (g1 ++ (.row false v0 2 (rowP encBind x8.2) :: (g2 ++ (gt ++ (z6 ++ z9)))))⟩), ?_, nofun, rfl, (gt ++ (z6 ++ z9)), rfl, rfl, (show x8.2.length = n0 by first | assumption | (simp only [List.length_set, List.length_replicate]; first | done | assumption | omega) | omega)⟩
  rotate_left
  simp only [h7, if_false] at hr
  cases h44 : s11
  simp only [h44, Bool.false_eq_true, if_false] at hr
  rcases Classical.propComplete (0 < s1) with h80 | h80
  simp only [h80, if_true] at hr
  obtain ⟨x88, h81, hr⟩ := bsome hr
  have h81a := eq_true (idx_some h81).1
  have h81b : ((w64 (s1 - 1)) < (n0 : Int)) = True := eq_true (by have hb : (w64 (s1 - 1)) < (o0.length : Int) := (idx_some h81).2.1; omega)
  have h81c := (idx_some h81).2.2
  obtain ⟨x89, h82, hr⟩ := bsome hr
  have h82a := eq_true (idx_some h82).1
  have h82b : (x5.1 < (n0 : Int)) = True := eq_true (by have hb : x5.1 < (o0.length : Int) := (idx_some h82).2.1; omega)
  have h82c := (idx_some h82).2.2
  obtain ⟨x90, h83, hr⟩ := bsome hr
  have h83k := fun h => match_Match_c1_o (h := h) (args := [.ag [PI x88.Var, .d (.rd (x88.T.map intD))], .ag [PI x89.Var, .d (.rd (x89.T.map intD))]]) h83 rfl
  try simp only [go_sem] at h83k
  rcases Classical.propComplete (x90 < 0) with h84 | h84
  simp only [h84, if_true] at hr
  obtain ⟨x91, h85, hr⟩ := bsome hr
  obtain ⟨z92, h85k, h85l0⟩ := slices_partition_Bm_k (g1 := g1) (v0 := v0) (n0 := n0) (g2 := (g2 ++ (gt ++ z6))) (show o0.length = n0 by first | assumption | (simp only [List.length_set, List.length_replicate]; first | done | assumption | omega) | omega) h85
  try simp only [go_sem, Nat.reduceAdd] at h85k
  obtain ⟨x93, h86, hr⟩ := bsome hr
  rcases Classical.propComplete ((w64 (x91.1 - s1)) < (w64 (s2 - x91.1))) with h87 | h87
  simp only [h87, if_true] at hr
  obtain ⟨x94, h88, hr⟩ := bsome hr
  obtain ⟨z95, h88k, h88l0⟩ := hrec (g1 := g1) (v0 := v0) (n0 := n0) (g2 := (g2 ++ (gt ++ (z6 ++ z92)))) (show x91.2.2.length = n0 by first | assumption | (simp only [List.length_set, List.length_replicate]; first | done | assumption | omega) | omega) h88
  try simp only [go_sem, Nat.reduceAdd] at h88k
  obtain rfl := Option.some.inj hr
  refine ⟨⟨(gt ++ (z6 ++ (z92 ++ z95))), ?_⟩, (show x94.length = n0 by first | assumption | (simp only [List.length_set, List.length_replicate]; first | done | assumption | omega) | omega)⟩
  rotate_left
  simp only [h87, if_false] at hr
  obtain ⟨x96, h89, hr⟩ := bsome hr
  obtain ⟨z97, h89k, h89l0⟩ := hrec (g1 := g1) (v0 := v0) (n0 := n0) (g2 := (g2 ++ (gt ++ (z6 ++ z92)))) (show x91.2.2.length = n0 by first | assumption | (simp only [List.length_set, List.length_replicate]; first | done | assumption | omega) | omega) h89
  try simp only [go_sem, Nat.reduceAdd] at h89k
  obtain rfl := Option.some.inj hr
  refine ⟨⟨(gt ++ (z6 ++ (z92 ++ z97))), ?_⟩, (show x96.length = n0 by first | assumption | (simp only [List.length_set, List.length_replicate]; first | done | assumption | omega) | omega)⟩
  rotate_left
  simp only [h84, if_false] at hr
  obtain ⟨x98, h90, hr⟩ := bsome hr
  obtain ⟨z99, h90k, h90l0⟩ := slices_partitionEqual_Bm_k (g1 := g1) (v0 := v0) (n0 := n0) (g2 := (g2 ++ (gt ++ z6))) (show o0.length = n0 by first | assumption | (simp only [List.length_set, List.length_replicate]; first | done | assumption | omega) | omega) h90
  try simp only [go_sem, Nat.reduceAdd] at h90k
  obtain rfl := Option.some.inj hr
  refine ⟨⟨(gt ++ (z6 ++ z99)), ?_⟩, (show x98.2.length = n0 by first | assumption | (simp only [List.length_set, List.length_replicate]; first | done | assumption | omega) | omega)⟩
  rotate_left
  simp only [h80, if_false] at hr
  obtain ⟨x100, h91, hr⟩ := bsome hr
  obtain ⟨z101, h91k, h91l0⟩ := slices_partition_Bm_k (g1 := g1) (v0 := v0) (n0 := n0) (g2 := (g2 ++ (gt ++ z6))) (show o0.length = n0 by first | assumption | (simp only [List.length_set, List.length_replicate]; first | done | assumption | omega) | omega) h91
  try simp only [go_sem, Nat.reduceAdd] at h91k
  obtain ⟨x102, h92, hr⟩ := bsome hr
  rcases Classical.propComplete ((w64 (x100.1 - s1)) < (w64 (s2 - x100.1))) with h93 | h93
  simp only [h93, if_true] at hr
  obtain ⟨x103, h94, hr⟩ := bsome hr
  obtain ⟨z104, h94k, h94l0⟩ := hrec (g1 := g1) (v0 := v0) (n0 := n0) (g2 := (g2 ++ (gt ++ (z6 ++ z101)))) (show x100.2.2.length = n0 by first | assumption | (simp only [List.length_set, List.length_replicate]; first | done | assumption | omega) | omega) h94
  try simp only [go_sem, Nat.reduceAdd] at h94k
  obtain rfl := Option.some.inj hr
  refine ⟨⟨(gt ++ (z6 ++ (z101 ++ z104))), ?_⟩, (show x103.length = n0 by first | assumption | (simp only [List.length_set, List.length_replicate]; first | done | assumption | omega) | omega)⟩
  rotate_left
  simp only [h93, if_false] at hr
  obtain ⟨x105, h95, hr⟩ := bsome hr
  obtain ⟨z106, h95k, h95l0⟩ := hrec (g1 := g1) (v0 := v0) (n0 := n0) (g2 := (g2 ++ (gt ++ (z6 ++ z101)))) (show x100.2.2.length = n0 by first | assumption | (simp only [List.length_set, List.length_replicate]; first | done | assumption | omega) | omega) h95
  try simp only [go_sem, Nat.reduceAdd] at h95k
  obtain rfl := Option.some.inj hr
  refine ⟨⟨(gt ++ (z6 ++ (z101 ++ z106))), ?_⟩, (show x105.length = n0 by first | assumption | (simp only [List.length_set, List.length_replicate]; first | done | assumption | omega) | omega)⟩
  rotate_left
  simp only [h44, if_true] at hr
  rcases Classical.propComplete (x5.2 = 1) with h45 | h45
  simp only [h45, if_true] at hr
  obtain ⟨x48, h46, hr⟩ := bsome hr
  obtain ⟨z49, h46k, h46l0⟩ := slices_partialInsertionSort_Bm_k (g1 := g1) (v0 := v0) (n0 := n0) (g2 := (g2 ++ (gt ++ z6))) (show o0.length = n0 by first | assumption | (simp only [List.length_set, List.length_replicate]; first | done | assumption | omega) | omega) h46
  try simp only [go_sem, Nat.reduceAdd] at h46k
  cases h47 : x48.1
  simp only [h47, Bool.false_eq_true, if_false] at hr
  rcases Classical.propComplete (0 < s1) with h48 | h48
  simp only [h48, if_true] at hr
  obtain ⟨x50, h49, hr⟩ := bsome hr
  have h49a := eq_true (idx_some h49).1
  have h49b : ((w64 (s1 - 1)) < (n0 : Int)) = True := eq_true (by have hb : (w64 (s1 - 1)) < (x48.2.length : Int) := (idx_some h49).2.1; omega)
  have h49c := (idx_some h49).2.2
  obtain ⟨x51, h50, hr⟩ := bsome hr
  have h50a := eq_true (idx_some h50).1
  have h50b : (x5.1 < (n0 : Int)) = True := eq_true (by have hb : x5.1 < (x48.2.length : Int) := (idx_some h50).2.1; omega)
  have h50c := (idx_some h50).2.2
  obtain ⟨x52, h51, hr⟩ := bsome hr
  have h51k := fun h => match_Match_c1_o (h := h) (args := [.ag [PI x50.Var, .d (.rd (x50.T.map intD))], .ag [PI x51.Var, .d (.rd (x51.T.map intD))]]) h51 rfl
  try simp only [go_sem] at h51k
  rcases Classical.propComplete (x52 < 0) with h52 | h52
  simp only [h52, if_true] at hr
  obtain ⟨x53, h53, hr⟩ := bsome hr
  obtain ⟨z54, h53k, h53l0⟩ := slices_partition_Bm_k (g1 := g1) (v0 := v0) (n0 := n0) (g2 := (g2 ++ (gt ++ (z6 ++ z49)))) (show x48.2.length = n0 by first | assumption | (simp only [List.length_set, List.length_replicate]; first | done | assumption | omega) | omega) h53
  try simp only [go_sem, Nat.reduceAdd] at h53k
  obtain ⟨x55, h54, hr⟩ := bsome hr
  rcases Classical.propComplete ((w64 (x53.1 - s1)) < (w64 (s2 - x53.1))) with h55 | h55
  simp only [h55, if_true] at hr
  obtain ⟨x56, h56, hr⟩ := bsome hr
  obtain ⟨z57, h56k, h56l0⟩ := hrec (g1 := g1) (v0 := v0) (n0 := n0) (g2 := (g2 ++ (gt ++ (z6 ++ (z49 ++ z54))))) (show x53.2.2.length = n0 by first | assumption | (simp only [List.length_set, List.length_replicate]; first | done | assumption | omega) | omega) h56
  try simp only [go_sem, Nat.reduceAdd] at h56k
  obtain rfl := Option.some.inj hr
  refine ⟨⟨(gt ++ (z6 ++ (z49 ++ (z54 ++ z57)))), ?_⟩, (show x56.length = n0 by first | assumption | (simp only [List.length_set, List.length_replicate]; first | done | assumption | omega) | omega)⟩
  rotate_left
  simp only [h55, if_false] at hr
  obtain ⟨x58, h57, hr⟩ := bsome hr
  obtain ⟨z59, h57k, h57l0⟩ := hrec (g1 := g1) (v0 := v0) (n0 := n0) (g2 := (g2 ++ (gt ++ (z6 ++ (z49 ++ z54))))) (show x53.2.2.length = n0 by first | assumption | (simp only [List.length_set, List.length_replicate]; first | done | assumption | omega) | omega) h57
  try simp only [go_sem, Nat.reduceAdd] at h57k
  obtain rfl := Option.some.inj hr
  refine ⟨⟨(gt ++ (z6 ++ (z49 ++ (z54 ++ z59)))), ?_⟩, (show x58.length = n0 by first | assumption | (simp only [List.length_set, List.length_replicate]; first | done | assumption | omega) | omega)⟩
  rotate_left
  simp only [h52, if_false] at hr
  obtain ⟨x60, h58, hr⟩ := bsome hr
  obtain ⟨z61, h58k, h58l0⟩ := slices_partitionEqual_Bm_k (g1 := g1) (v0 := v0) (n0 := n0) (g2 := (g2 ++ (gt ++ (z6 ++ z49)))) (show x48.2.length = n0 by first | assumption | (simp only [List.length_set, List.length_replicate]; first | done | assumption | omega) | omega) h58
  try simp only [go_sem, Nat.reduceAdd] at h58k
  obtain rfl := Option.some.inj hr
  refine ⟨⟨(gt ++ (z6 ++ (z49 ++ z61))), ?_⟩, (show x60.2.length = n0 by first | assumption | (simp only [List.length_set, List.length_replicate]; first | done | assumption | omega) | omega)⟩
  rotate_left
  simp only [h48, if_false] at hr
  obtain ⟨x62, h59, hr⟩ := bsome hr
  obtain ⟨z63, h59k, h59l0⟩ := slices_partition_Bm_k (g1 := g1) (v0 := v0) (n0 := n0) (g2 := (g2 ++ (gt ++ (z6 ++ z49)))) (show x48.2.length = n0 by first | assumption | (simp only [List.length_set, List.length_replicate]; first | done | assumption | omega) | omega) h59
  try simp only [go_sem, Nat.reduceAdd] at h59k
  obtain ⟨x64, h60, hr⟩ := bsome hr
  rcases Classical.propComplete ((w64 (x62.1 - s1)) < (w64 (s2 - x62.1))) with h61 | h61
  simp only [h61, if_true] at hr
  obtain ⟨x65, h62, hr⟩ := bsome hr
  obtain ⟨z66, h62k, h62l0⟩ := hrec (g1 := g1) (v0 := v0) (n0 := n0) (g2 := (g2 ++ (gt ++ (z6 ++ (z49 ++ z63))))) (show x62.2.2.length = n0 by first | assumption | (simp only [List.length_set, List.length_replicate]; first | done | assumption | omega) | omega) h62
  try simp only [go_sem, Nat.reduceAdd] at h62k
  obtain rfl := Option.some.inj hr
  refine ⟨⟨(gt ++ (z6 ++ (z49 ++ (z63 ++ z66)))), ?_⟩, (show x65.length = n0 by first | assumption | (simp only [List.length_set, List.length_replicate]; first | done | assumption | omega) | omega)⟩
  rotate_left
  simp only [h61, if_false] at hr
  obtain ⟨x67, h63, hr⟩ := bsome hr
  obtain ⟨z68, h63k, h63l0⟩ := hrec (g1 := g1) (v0 := v0) (n0 := n0) (g2 := (g2 ++ (gt ++ (z6 ++ (z49 ++ z63))))) (show x62.2.2.length = n0 by first | assumption | (simp only [List.length_set, List.length_replicate]; first | done | assumption | omega) | omega) h63
  try simp only [go_sem, Nat.reduceAdd] at h63k
  obtain rfl := Option.some.inj hr
  refine ⟨⟨(gt ++ (z6 ++ (z49 ++ (z63 ++ z68)))), ?_⟩, (show x67.length = n0 by first | assumption | (simp only [List.length_set, List.length_replicate]; first | done | assumption | omega) | omega)⟩
  rotate_left
  simp only [h47, if_true] at hr
  obtain rfl := Option.some.inj hr
  refine ⟨(.ret, ⟨[(0, .ref g1.length v0 0 n0), (1, PI s1), (2, PI s2), (3, PI s3), (4, .fn 43 []), (10, PB s10), (11, PB s11), (12, PI (w64 (s2 - s1))), (13, PI x5.1), (14, PI x5.2)], (g1 ++ (.row false v0 2 (rowP encBind x48.2) :: (g2 ++ (gt ++ (z6 ++ z49)))))⟩), ?_, nofun, rfl, (gt ++ (z6 ++ z49)), rfl, rfl, (show x48.2.length = n0 by first | assumption | (simp only [List.length_set, List.length_replicate]; first | done | assumption | omega) | omega)⟩
  rotate_left
  simp only [h45, if_false] at hr
  rcases Classical.propComplete (0 < s1) with h64 | h64
  simp only [h64, if_true] at hr
  obtain ⟨x69, h65, hr⟩ := bsome hr
  have h65a := eq_true (idx_some h65).1
  have h65b : ((w64 (s1 - 1)) < (n0 : Int)) = True := eq_true (by have hb : (w64 (s1 - 1)) < (o0.length : Int) := (idx_some h65).2.1; omega)
  have h65c := (idx_some h65).2.2
  obtain ⟨x70, h66, hr⟩ := bsome hr
  have h66a := eq_true (idx_some h66).1
  have h66b : (x5.1 < (n0 : Int)) = True := eq_true (by have hb : x5.1 < (o0.length : Int) := (idx_some h66).2.1; omega)
  have h66c := (idx_some h66).2.2
  obtain ⟨x71, h67, hr⟩ := bsome hr
  have h67k := fun h => match_Match_c1_o (h := h) (args := [.ag [PI x69.Var, .d (.rd (x69.T.map intD))], .ag [PI x70.Var, .d (.rd (x70.T.map intD))]]) h67 rfl
  try simp only [go_sem] at h67k
  rcases Classical.propComplete (x71 < 0) with h68 | h68
  simp only [h68, if_true] at hr
  obtain ⟨x72, h69, hr⟩ := bsome hr
  obtain ⟨z73, h69k, h69l0⟩ := slices_partition_Bm_k (g1 := g1) (v0 := v0) (n0 := n0) (g2 := (g2 ++ (gt ++ z6))) (show o0.length = n0 by first | assumption | (simp only [List.length_set, List.length_replicate]; first | done | assumption | omega) | omega) h69
  try simp only [go_sem, Nat.reduceAdd] at h69k
  obtain ⟨x74, h70, hr⟩ := bsome hr
  rcases Classical.propComplete ((w64 (x72.1 - s1)) < (w64 (s2 - x72.1))) with h71 | h71
  simp only [h71, if_true] at hr
  obtain ⟨x75, h72, hr⟩ := bsome hr
  obtain ⟨z76, h72k, h72l0⟩ := hrec (g1 := g1) (v0 := v0) (n0 := n0) (g2 := (g2 ++ (gt ++ (z6 ++ z73)))) (show x72.2.2.length = n0 by first | assumption | (simp only [List.length_set, List.length_replicate]; first | done | assumption | omega) | omega) h72
  try simp only [go_sem, Nat.reduceAdd] at h72k
  obtain rfl := Option.some.inj hr
  refine ⟨⟨(gt ++ (z6 ++ (z73 ++ z76))), ?_⟩, (show x75.length = n0 by first | assumption | (simp only [List.length_set, List.length_replicate]; first | done | assumption | omega) | omega)⟩
  rotate_left
  simp only [h71, if_false] at hr
  obtain ⟨x77, h73, hr⟩ := bsome hr
  obtain ⟨z78, h73k, h73l0⟩ := hrec (g1 := g1) (v0 := v0) (n0 := n0) (g2 := (g2 ++ (gt ++ (z6 ++ z73)))) (show x72.2.2.length = n0 by first | assumption | (simp only [List.length_set, List.length_replicate]; first | done | assumption | omega) | omega) h73
  try simp only [go_sem, Nat.reduceAdd] at h73k
  obtain rfl := Option.some.inj hr
  refine ⟨⟨(gt ++ (z6 ++ (z73 ++ z78))), ?_⟩, (show x77.length = n0 by first | assumption | (simp only [List.length_set, List.length_replicate]; first | done | assumption | omega) | omega)⟩
  rotate_left
  simp only [h68, if_false] at hr
  obtain ⟨x79, h74, hr⟩ := bsome hr
  obtain ⟨z80, h74k, h74l0⟩ := slices_partitionEqual_Bm_k (g1 := g1) (v0 := v0) (n0 := n0) (g2 := (g2 ++ (gt ++ z6))) (show o0.length = n0 by first | assumption | (simp only [List.length_set, List.length_replicate]; first | done | assumption | omega) | omega) h74
  try simp only [go_sem, Nat.reduceAdd] at h74k
  obtain rfl := Option.some.inj hr
  refine ⟨⟨(gt ++ (z6 ++ z80)), ?_⟩, (show x79.2.length = n0 by first | assumption | (simp only [List.length_set, List.length_replicate]; first | done | assumption | omega) | omega)⟩
  rotate_left
  simp only [h64, if_false] at hr
  obtain ⟨x81, h75, hr⟩ := bsome hr
  obtain ⟨z82, h75k, h75l0⟩ := slices_partition_Bm_k (g1 := g1) (v0 := v0) (n0 := n0) (g2 := (g2 ++ (gt ++ z6))) (show o0.length = n0 by first | assumption | (simp only [List.length_set, List.length_replicate]; first | done | assumption | omega) | omega) h75
  try simp only [go_sem, Nat.reduceAdd] at h75k
  obtain ⟨x83, h76, hr⟩ := bsome hr
  rcases Classical.propComplete ((w64 (x81.1 - s1)) < (w64 (s2 - x81.1))) with h77 | h77
  simp only [h77, if_true] at hr
  obtain ⟨x84, h78, hr⟩ := bsome hr
  obtain ⟨z85, h78k, h78l0⟩ := hrec (g1 := g1) (v0 := v0) (n0 := n0) (g2 := (g2 ++ (gt ++ (z6 ++ z82)))) (show x81.2.2.length = n0 by first | assumption | (simp only [List.length_set, List.length_replicate]; first | done | assumption | omega) | omega) h78
  try simp only [go_sem, Nat.reduceAdd] at h78k
  obtain rfl := Option.some.inj hr
  refine ⟨⟨(gt ++ (z6 ++ (z82 ++ z85))), ?_⟩, (show x84.length = n0 by first | assumption | (simp only [List.length_set, List.length_replicate]; first | done | assumption | omega) | omega)⟩
  rotate_left
  simp only [h77, if_false] at hr
  obtain ⟨x86, h79, hr⟩ := bsome hr
  obtain ⟨z87, h79k, h79l0⟩ := hrec (g1 := g1) (v0 := v0) (n0 := n0) (g2 := (g2 ++ (gt ++ (z6 ++ z82)))) (show x81.2.2.length = n0 by first | assumption | (simp only [List.length_set, List.length_replicate]; first | done | assumption | omega) | omega) h79
  try simp only [go_sem, Nat.reduceAdd] at h79k
  obtain rfl := Option.some.inj hr
  refine ⟨⟨(gt ++ (z6 ++ (z82 ++ z87))), ?_⟩, (show x86.length = n0 by first | assumption | (simp only [List.length_set, List.length_replicate]; first | done | assumption | omega) | omega)⟩
  rotate_left
  all_goals (simp (config := {decide := true}) only [go_sem, Int.reduceToNat, Nat.reduceAdd, Nat.reduceLT, Nat.reduceMul, Nat.reducePow, reduceCtorEq, slices_pdqsort_Bm_S0, b64_0, *])
theorem slices_pdqsort_Bm_L0 {rec : Int × Int × Int × (List Bind) → Option ((List Bind))} (hrec : ∀ {s1 : Int} {s2 : Int} {s3 : Int} {o0 : List Bind} {g1 : AHeap} {v0 : Nat} {n0 : Nat} {g2 : AHeap} (hln0 : o0.length = n0) {r : (List Bind)} (_ : rec (s1, s2, s3, o0) = some r), ∃ hz : AHeap, callP C (Lim C) 64 [.ref g1.length v0 0 n0, PI s1, PI s2, PI s3, .fn 43 []] (g1 ++ (.row false v0 2 (rowP encBind o0) :: g2)) = some (resOf [], (g1 ++ (.row false v0 2 (rowP encBind r) :: (g2 ++ hz)))) ∧ r.length = n0) {g1 : AHeap} {v0 : Nat} {n0 : Nat} {g2 : AHeap} {s : Int × Int × Int × Bool × Bool × (List Bind)} {g : AHeap} {x} (h : wh (slices_pdqsort_Bm_l0 rec) s = some x) (hI : slices_pdqsort_Bm_I0 g1 v0 n0 g2 s) : ∃ q, loopLim (semA C (Lim C) 42535296023574879666274036850519702559 b64_0) (slices_pdqsort_Bm_S0 g1 v0 n0 g2 s g) = some q ∧ slices_pdqsort_Bm_X0 g1 v0 n0 g2 x q := wh_simI (slices_pdqsort_Bm_R0 hrec g1 v0 n0 g2) hI h
set_option maxHeartbeats 4000000 in
theorem slices_pdqsort_Bm_RF {rec : Int × Int × Int × (List Bind) → Option ((List Bind))} (hrec : ∀ {s1 : Int} {s2 : Int} {s3 : Int} {o0 : List Bind} {g1 : AHeap} {v0 : Nat} {n0 : Nat} {g2 : AHeap} (hln0 : o0.length = n0) {r : (List Bind)} (_ : rec (s1, s2, s3, o0) = some r), ∃ hz : AHeap, callP C (Lim C) 64 [.ref g1.length v0 0 n0, PI s1, PI s2, PI s3, .fn 43 []] (g1 ++ (.row false v0 2 (rowP encBind o0) :: g2)) = some (resOf [], (g1 ++ (.row false v0 2 (rowP encBind r) :: (g2 ++ hz)))) ∧ r.length = n0) {s1 : Int} {s2 : Int} {s3 : Int} {o0 : List Bind} {g1 : AHeap} {v0 : Nat} {n0 : Nat} {g2 : AHeap} (hln0 : o0.length = n0) {r : (List Bind)} (hr : slices_pdqsort_Bm_F rec s1 s2 s3 o0 = some r) : ∃ hz : AHeap, Lim C 64 [.ref g1.length v0 0 n0, PI s1, PI s2, PI s3, .fn 43 []] (g1 ++ (.row false v0 2 (rowP encBind o0) :: g2)) = some (resOf [], (g1 ++ (.row false v0 2 (rowP encBind r) :: (g2 ++ hz)))) ∧ r.length = n0 := by
  simp only [slices_pdqsort_Bm_F] at hr
  obtain ⟨x150, h1, hr⟩ := bsome hr
  obtain ⟨q1, h1L, h1X⟩ := slices_pdqsort_Bm_L0 hrec (g1 := g1) (v0 := v0) (n0 := n0) (g2 := g2) (g := []) h1 (show o0.length = n0 by first | assumption | (simp only [List.length_set, List.length_replicate]; first | done | assumption | omega) | omega)
  have ⟨x151, hq1⟩ : ∃ y, y = x150 := ⟨_, rfl⟩
  subst hq1
  simp only [slices_pdqsort_Bm_X0, slices_pdqsort_Bm_S0] at h1X h1L
  obtain ⟨e1, st1⟩ := q1
  obtain ⟨rfl, h1R⟩ := h1X
  obtain ⟨env1, hp1⟩ := st1
  obtain ⟨y3, h1v, h1h, h1f0⟩ := h1R
  replace h1h : hp1 = _ := h1h
  subst h1h
  try simp only [go_sem, Nat.reduceAdd] at h1L
  obtain rfl := Option.some.inj hr
  refine ⟨y3, Lim_A is64 (Nat.le_of_ble_eq_true rfl) (e := .ret) (env := env1) ?_ (.inr rfl) h1v, h1f0⟩
  rotate_left
  all_goals (simp (config := {decide := true}) only [go_sem, Int.reduceToNat, Nat.reduceAdd, Nat.reduceLT, Nat.reduceMul, Nat.reducePow, reduceCtorEq, callEnv, c64, *])
theorem slices_pdqsort_Bm_R {s1 : Int} {s2 : Int} {s3 : Int} {o0 : List Bind} {g1 : AHeap} {v0 : Nat} {n0 : Nat} {g2 : AHeap} (hln0 : o0.length = n0) {r : (List Bind)} (hr : slices_pdqsort_Bm s1 s2 s3 o0 = some r) : ∃ hz : AHeap, Lim C 64 [.ref g1.length v0 0 n0, PI s1, PI s2, PI s3, .fn 43 []] (g1 ++ (.row false v0 2 (rowP encBind o0) :: g2)) = some (resOf [], (g1 ++ (.row false v0 2 (rowP encBind r) :: (g2 ++ hz)))) ∧ r.length = n0 := by
  obtain ⟨n, hn⟩ := fixO_some hr
  clear hr
  induction n generalizing s1 s2 s3 o0 g1 v0 n0 g2 r with
  | zero => cases hn
  | succ n ih =>
    refine slices_pdqsort_Bm_RF (rec := fixN _ n) (fun {s1} {s2} {s3} {o0} {g1} {v0} {n0} {g2} hln0 {r} hr => ?_) hln0 (g1 := g1) (v0 := v0) (n0 := n0) (g2 := g2) hn
    obtain ⟨hz, h1, f0⟩ := ih hln0 (g1 := g1) (v0 := v0) (n0 := n0) (g2 := g2) hr
    exact ⟨hz, call_live rfl rfl rfl h1, f0⟩
theorem slices_pdqsort_Bm_k {s1 : Int} {s2 : Int} {s3 : Int} {o0 : List Bind} {g1 : AHeap} {v0 : Nat} {n0 : Nat} {g2 : AHeap} (hln0 : o0.length = n0) {r : (List Bind)} (hr : slices_pdqsort_Bm s1 s2 s3 o0 = some r) : ∃ hz : AHeap, callP C (Lim C) 64 [.ref g1.length v0 0 n0, PI s1, PI s2, PI s3, .fn 43 []] (g1 ++ (.row false v0 2 (rowP encBind o0) :: g2)) = some (resOf [], (g1 ++ (.row false v0 2 (rowP encBind r) :: (g2 ++ hz)))) ∧ r.length = n0 := by
  obtain ⟨hz, h1, f0⟩ := slices_pdqsort_Bm_R hln0 hr (g1 := g1) (v0 := v0) (n0 := n0) (g2 := g2)
  exact ⟨hz, call_live rfl rfl rfl h1, f0⟩
def c42 : ACode := .seq (.reg [] [] [.M 5 0, .T 6 (.len (.tmp 5)), .N 4 6]) (.reg [] [] [.M 7 0, .M 8 4, .M 9 4, .T 10 (.wrap .u64 (.tmp 9)), .T 11 (.call 65 [.tmp 10]), .M 12 1, .T 13 (.call 64 [.tmp 7, .const (.int .i64 0), .tmp 8, .tmp 11, .tmp 12])])
theorem is42 : IsF C 42 14 19 c42 [] := ⟨⟨Tryd.f42, _, C_P ▸ Tryd.func42, rfl, rfl, rfl, by kernel_rfl, rfl⟩⟩
set_option maxHeartbeats 4000000 in
theorem slices_SortFunc_Bm_R {o0 : List Bind} {g1 : AHeap} {v0 : Nat} {n0 : Nat} {g2 : AHeap} (hln0 : o0.length = n0) {r : (List Bind)} (hr : slices_SortFunc_Bm o0 = some r) : ∃ hz : AHeap, Lim C 42 [.ref g1.length v0 0 n0, .fn 43 []] (g1 ++ (.row false v0 2 (rowP encBind o0) :: g2)) = some (resOf [], (g1 ++ (.row false v0 2 (rowP encBind r) :: (g2 ++ hz)))) ∧ r.length = n0 := by
  simp only [slices_SortFunc_Bm] at hr
  obtain ⟨x1, h1, hr⟩ := bsome hr
  have h1k := fun h => math_bits_Len_k (h := h) h1
  try simp only [go_sem] at h1k
  try simp only [hln0] at h1k
  obtain ⟨x2, h2, hr⟩ := bsome hr
  obtain ⟨z3, h2k, h2l0⟩ := slices_pdqsort_Bm_k (g1 := g1) (v0 := v0) (n0 := n0) (g2 := g2) (show o0.length = n0 by first | assumption | (simp only [List.length_set, List.length_replicate]; first | done | assumption | omega) | omega) h2
  try simp only [go_sem, Nat.reduceAdd] at h2k
  try simp only [hln0] at h2k
  obtain rfl := Option.some.inj hr
  refine ⟨z3, Lim_A is42 (Nat.le_of_ble_eq_true rfl) (e := .normal) (env := [(0, .ref g1.length v0 0 n0), (1, .fn 43 []), (4, PI (o0.length : Int))]) (h' := (g1 ++ (.row false v0 2 (rowP encBind x2) :: (g2 ++ z3)))) (vs := []) ?_ (.inl rfl) rfl, (show x2.length = n0 by first | assumption | (simp only [List.length_set, List.length_replicate]; first | done | assumption | omega) | omega)⟩
  rotate_left
  all_goals (simp (config := {decide := true}) only [go_sem, Int.reduceToNat, Nat.reduceAdd, Nat.reduceLT, Nat.reduceMul, Nat.reducePow, reduceCtorEq, callEnv, c42, *])
theorem slices_SortFunc_Bm_k {o0 : List Bind} {g1 : AHeap} {v0 : Nat} {n0 : Nat} {g2 : AHeap} (hln0 : o0.length = n0) {r : (List Bind)} (hr : slices_SortFunc_Bm o0 = some r) : ∃ hz : AHeap, callP C (Lim C) 42 [.ref g1.length v0 0 n0, .fn 43 []] (g1 ++ (.row false v0 2 (rowP encBind o0) :: g2)) = some (resOf [], (g1 ++ (.row false v0 2 (rowP encBind r) :: (g2 ++ hz)))) ∧ r.length = n0 := by
  obtain ⟨hz, h1, f0⟩ := slices_SortFunc_Bm_R hln0 hr (g1 := g1) (v0 := v0) (n0 := n0) (g2 := g2)
  exact ⟨hz, call_live rfl rfl rfl h1, f0⟩
def b15_0 : ACode := .seq (.reg [] [] [.K 33 (.bin .lss (.tmp 32) (.tmp 31))]) (.seq (.cond (.tmp 33) (some 33) (.skip) (.exit 0)) (.seq (.block 1 604467521783612674930688 (.seq (.reg [] [] [.T 34 (.ix 1 (.tmp 30) (.tmp 32)), .T 35 (.load none (.tmp 34)), .N 11 35]) (.seq (.reg [] [] [.M 36 11, .T 37 (.call 38 [.tmp 36]), .N 12 37]) (.seq (.seq (.reg [] [] [.M 39 12, .T 40 (.asr 57 (some (.d (.v (.int .i64 0)))) (.tmp 39) true), .M 38 40, .T 41 (.ext (.tmp 38) 0), .T 42 (.ext (.tmp 38) 1), .N 13 41, .N 14 42]) (.seq (.reg [] [] [.N 43 14]) (.cond (.tmp 43) (some 43) (.seq (.seq (.reg [] [] [.M 44 2, .T 45 (.ix 1 (.tmp 44) (cI 0)), .T 46 (.load none (.tmp 45)), .M 47 13, .K 48 (.bin .neq (.tmp 46) (.tmp 47))]) (.cond (.tmp 48) (some 48) (.seq (.reg [] [(6, 0)] [.K 6 (.mv (.const (.slice none 0 0))), .K 7 (.mv (.const (.bool false)))]) (.ret)) (.skip))) (.seq (.reg [] [] [.M 49 2, .T 50 (.cut 1 (.tmp 49) (some (cI 1)) none), .N 2 50]) (.exit 1))) (.skip)))) (.seq (.reg [] [] [.M 51 12, .T 52 (.asr 59 (some (.d (.v (.int .i64 0)))) (.tmp 51) false), .N 15 52]) (.seq (.reg [] [] [.M 53 0, .M 54 2, .T 55 (.call 39 [.tmp 53, .tmp 54]), .N 16 55]) (.seq (.reg [] [(17, 0)] [.M 57 8, .M 58 15, .T 59 (.look (Go.TypeDesc.int .i64) (.im true []) (.tmp 57) (.tmp 58) true), .M 56 59, .T 60 (.ext (.tmp 56) 0), .T 61 (.ext (.tmp 56) 1), .N 17 60, .N 18 61]) (.seq (.block 2 604467521783612674865152 (.seq (.reg [] [] [.M 63 18, .T 64 (.not (.tmp 63)), .N 62 64]) (.cond (.tmp 62) (some 62) (.seq (.reg [] [] [.M 65 8, .M 66 15, .M 67 2, .M 68 16, .T 69 (.cut 1 (.tmp 67) none (some (.tmp 68))), ⟨none, .mput (Go.TypeDesc.int .i64) (.tmp 65) (.tmp 66) (.tmp 69), none, false, false⟩]) (.reg [] [] [.M 70 9, .M 71 15, .M 72 2, .M 73 16, .T 74 (.cut 1 (.tmp 72) none (some (.tmp 73))), ⟨some (75, false), .call 40 [.tmp 74], none, false, true⟩, .T 76 (.build [(0, 1), (1, 1)] [.d (.v (.int .i64 0)), .im true []] [(0, .tmp 71), (1, .tmp 75)]), .T 77 (.lit 2 [(0, .tmp 76)]), .T 78 (.app 2 32 (.tmp 70) (.tmp 77)), .N 9 78])) (.seq (.reg [] [] [.M 80 17, .M 81 2, .M 82 16, .T 83 (.cut 1 (.tmp 81) none (some (.tmp 82))), .T 84 (.call 41 [.tmp 80, .tmp 83]), .T 85 (.not (.tmp 84)), .N 79 85]) (.cond (.tmp 79) (some 79) (.seq (.reg [] [(6, 0)] [.K 6 (.mv (.const (.slice none 0 0))), .K 7 (.mv (.const (.bool false)))]) (.ret)) (.skip)))))) (.reg [] [] [.M 86 2, .M 87 16, .T 88 (.cut 1 (.tmp 86) (some (.tmp 87)) none), .N 2 88]))))))))) (.reg [] [] [.T 89 (.bin .add (.tmp 32) (cI 1)), .N 32 89])))
def c15 : ACode := .seq (.reg [] [(6, 0)] [.K 6 (.mv (.const (.slice none 0 0))), .K 7 (.mv (.const (.bool false)))]) (.seq (.seq (.reg [] [] [.M 19 0, .M 20 1, .T 21 (.call 37 [.tmp 19, .tmp 20]), .T 22 (.bin .neq (.tmp 21) (cI 0)), .M 23 22, .MG 24 23 false 0, .MG 25 23 false 2, .TG 26 23 false (.call 37 [.tmp 24, .tmp 25]), .TG 27 23 false (.bin .neq (.tmp 26) (cI 0)), .K 28 (.pick (.tmp 23) (.const (.bool true)) (.tmp 27))]) (.cond (.tmp 28) (some 28) (.seq (.reg [] [(6, 0)] [.K 6 (.mv (.const (.slice none 0 0))), .K 7 (.mv (.const (.bool false)))]) (.ret)) (.skip))) (.seq (.reg [] [] [.T 29 (.mkMap), .N 8 29]) (.seq (.reg [] [(9, 2)] [.K 9 (.mv (.const (.slice none 0 0)))]) (.seq (.seq (.reg [] [] [.N 30 1, .K 31 (.len (.tmp 30)), .K 32 (.mv (cI 0))]) (.block 0 604467521783612674930688 (.loop b15_0))) (.seq (.reg [] [] [.M 90 9, .T 91 (.call 42 [.tmp 90, .func 43])]) (.seq (.reg [] [(6, 0)] [.M 92 9, .N 6 92, .K 7 (.mv (.const (.bool true)))]) (.ret)))))))
theorem is15 : IsF C 15 93 604467521783620459559879 c15 [.tmp 6, .tmp 7] := ⟨⟨Tryd.f15, _, C_P ▸ Tryd.func15, rfl, rfl, rfl, by kernel_rfl, rfl⟩⟩
def match_Match_S0 (s0 : List Symbol) (s1 : List Int) (s6 : List Bind) (s30 : List Int) (s31 : Int) : (List Int) × Int × (List (Int × (List Int))) × (List Bind) → Nat × AHeap → St := fun (s2, s32, m8, o9) (v9, gt) => ⟨[(0, .d (.rd (s0.map encSymbol))), (1, .d (.rd (s1.map intD))), (2, .d (.rd (s2.map intD))), (6, .d (.rd (s6.map encBind))), (7, PB false), (8, .mp 0), (9, .ref 1 v9 0 o9.length), (30, .d (.rd (s30.map intD))), (31, PI s31), (32, PI s32)], (.map (mapP keyI (lsD intD) m8) :: (.row false v9 2 (rowP encBind o9) :: gt))⟩
def match_Match_X0 (s0 : List Symbol) (s1 : List Int) (s6 : List Bind) (s30 : List Int) (s31 : Int) : (((List Bind) × Bool) ⊕ ((List Int) × Int × (List (Int × (List Int))) × (List Bind))) → AExit × St → Prop
  | .inl r, q => q.1 = .ret ∧ RetOK C [.tmp 6, .tmp 7] q.2 (.tp [.d (.rd (r.1.map encBind)), PB r.2])
  | .inr (s2, s32, m8, o9), q => ∃ v9 : Nat, ∃ h1 : AHeap, q = (.exit 0, ⟨[(0, .d (.rd (s0.map encSymbol))), (1, .d (.rd (s1.map intD))), (2, .d (.rd (s2.map intD))), (6, .d (.rd (s6.map encBind))), (7, PB false), (8, .mp 0), (9, .ref 1 v9 0 o9.length), (30, .d (.rd (s30.map intD))), (31, PI s31), (32, PI s32)], (.map (mapP keyI (lsD intD) m8) :: (.row false v9 2 (rowP encBind o9) :: h1))⟩)
set_option maxHeartbeats 4000000 in
theorem match_Match_R0 (s0 : List Symbol) (s1 : List Int) (s6 : List Bind) (s30 : List Int) (s31 : Int) : ∀ (s : (List Int) × Int × (List (Int × (List Int))) × (List Bind)) (g : Nat × AHeap) r, match_Match_l0 s0 s1 s6 s30 s31 s = some r → Sum.elim (fun s' => ∃ g', semA C (Lim C) 604467521783620459559879 b15_0 (match_Match_S0 s0 s1 s6 s30 s31 s g) = some (.normal, match_Match_S0 s0 s1 s6 s30 s31 s' g')) (fun x => ∃ q, semA C (Lim C) 604467521783620459559879 b15_0 (match_Match_S0 s0 s1 s6 s30 s31 s g) = some q ∧ q.1 ≠ .normal ∧ match_Match_X0 s0 s1 s6 s30 s31 x q) r := by
  intro s g r hr
  obtain ⟨s2, s32, m8, o9⟩ := s
  obtain ⟨v9, gt⟩ := g
  simp only [match_Match_l0] at hr
  rcases Classical.propComplete (s32 < s31) with h1 | h1
  simp only [h1, if_true] at hr
  obtain ⟨x3, h2, hr⟩ := bsome hr
  obtain ⟨x4, h3, hr⟩ := bsome hr
  have h3k := fun h => match_part_k (h := h) h3
  try simp only [go_sem] at h3k
  obtain ⟨h4, hr⟩ := gsome hr
  rcases h5 : asI 57 .i64 x4 with _ | x5
  simp only [h5] at hr
  obtain ⟨x8, h6, hr⟩ := bsome hr
  obtain ⟨x9, h7, hr⟩ := bsome hr
  have h7k := fun h => match_reach_k (h := h) h7
  try simp only [go_sem] at h7k
  rcases h8 : mget m8 x8 with _ | x10
  simp only [h8] at hr
  obtain ⟨x14, h9, hr⟩ := bsome hr
  obtain ⟨h10, hr⟩ := gsome hr
  obtain ⟨h11, hr⟩ := gsome hr
  obtain ⟨x15, h12, hr⟩ := bsome hr
  obtain rfl := Option.some.inj hr
  refine ⟨((v9 + 1), (gt ++ (.row true 0 1 (rowP intD x14) :: []))), ?_⟩
  rotate_left
  simp only [h8] at hr
  obtain ⟨x11, h13, hr⟩ := bsome hr
  obtain ⟨x12, h14, hr⟩ := bsome hr
  have h14k := fun h => slices_Equal_s_int_int_k (h := h) h14
  try simp only [go_sem] at h14k
  cases h15 : x12
  simp only [h15, Bool.false_eq_true, if_false] at hr
  obtain rfl := Option.some.inj hr
  refine ⟨(.ret, ⟨[(0, .d (.rd (s0.map encSymbol))), (1, .d (.rd (s1.map intD))), (2, .d (.rd (s2.map intD))), (6, .d (.rd (([] : List Bind).map encBind))), (7, PB false), (8, .mp 0), (9, .ref 1 v9 0 o9.length), (11, PI x3), (12, .d (x4)), (13, PI 0), (14, PB false), (15, PI x8), (16, PI x9), (17, .d (.rd (x10.map intD))), (18, PB true), (30, .d (.rd (s30.map intD))), (31, PI s31), (32, PI s32)], (.map (mapP keyI (lsD intD) m8) :: (.row false v9 2 (rowP encBind o9) :: gt))⟩), ?_, nofun, rfl, [.d (.rd (([] : List Bind).map encBind)), PB false], rfl, ?_⟩
  rotate_left 2
  simp only [h15, if_true] at hr
  obtain ⟨x13, h16, hr⟩ := bsome hr
  obtain rfl := Option.some.inj hr
  refine ⟨(v9, gt), ?_⟩
  rotate_left
  simp only [h5] at hr
  obtain ⟨x6, h17, hr⟩ := bsome hr
  rcases Classical.propComplete (x6 = x5) with h18 | h18
  simp only [h18, if_true] at hr
  obtain ⟨x7, h19, hr⟩ := bsome hr
  obtain rfl := Option.some.inj hr
  refine ⟨(v9, gt), ?_⟩
  rotate_left
  simp only [h18, if_false] at hr
  obtain rfl := Option.some.inj hr
  refine ⟨(.ret, ⟨[(0, .d (.rd (s0.map encSymbol))), (1, .d (.rd (s1.map intD))), (2, .d (.rd (s2.map intD))), (6, .d (.rd (([] : List Bind).map encBind))), (7, PB false), (8, .mp 0), (9, .ref 1 v9 0 o9.length), (11, PI x3), (12, .d (x4)), (13, PI x5), (14, PB true), (30, .d (.rd (s30.map intD))), (31, PI s31), (32, PI s32)], (.map (mapP keyI (lsD intD) m8) :: (.row false v9 2 (rowP encBind o9) :: gt))⟩), ?_, nofun, rfl, [.d (.rd (([] : List Bind).map encBind)), PB false], rfl, ?_⟩
  rotate_left 2
  simp only [h1, if_false] at hr
  obtain rfl := Option.some.inj hr
  refine ⟨(.exit 0, ⟨[(0, .d (.rd (s0.map encSymbol))), (1, .d (.rd (s1.map intD))), (2, .d (.rd (s2.map intD))), (6, .d (.rd (s6.map encBind))), (7, PB false), (8, .mp 0), (9, .ref 1 v9 0 o9.length), (30, .d (.rd (s30.map intD))), (31, PI s31), (32, PI s32)], (.map (mapP keyI (lsD intD) m8) :: (.row false v9 2 (rowP encBind o9) :: gt))⟩), ?_, nofun, v9, gt, rfl⟩
  rotate_left
  all_goals (simp (config := {decide := true}) only [go_sem, Int.reduceToNat, Nat.reduceAdd, Nat.reduceLT, Nat.reduceMul, Nat.reducePow, reduceCtorEq, match_Match_S0, b15_0, *])
theorem match_Match_L0 {s0 : List Symbol} {s1 : List Int} {s6 : List Bind} {s30 : List Int} {s31 : Int} {s : (List Int) × Int × (List (Int × (List Int))) × (List Bind)} {g : Nat × AHeap} {x} (h : wh (match_Match_l0 s0 s1 s6 s30 s31) s = some x) : ∃ q, loopLim (semA C (Lim C) 604467521783620459559879 b15_0) (match_Match_S0 s0 s1 s6 s30 s31 s g) = some q ∧ match_Match_X0 s0 s1 s6 s30 s31 x q := wh_sim (match_Match_R0 s0 s1 s6 s30 s31) h
set_option maxHeartbeats 4000000 in
theorem match_Match_R {a0 : List Symbol} {a1 : List Int} {a2 : List Int} {r : (List Bind) × Bool} (hr : match_Match a0 a1 a2 = some r) : ∃ p hp, Lim C 15 [.d (.rd (a0.map encSymbol)), .d (.rd (a1.map intD)), .d (.rd (a2.map intD))] [] = some (p, hp) ∧ rsT hp p = some (.tp [.d (.rd (r.1.map encBind)), PB r.2]) := by
  simp only [match_Match] at hr
  obtain ⟨x1, h1, hr⟩ := bsome hr
  have h1k := fun h => term_Check_k (h := h) h1
  try simp only [go_sem] at h1k
  rcases Classical.propComplete (x1 = 0) with h2 | h2
  simp only [h2, if_true] at hr
  obtain ⟨x2, h3, hr⟩ := bsome hr
  have h3k := fun h => term_Check_k (h := h) h3
  try simp only [go_sem] at h3k
  rcases Classical.propComplete (x2 = 0) with h4 | h4
  simp only [h4, if_true] at hr
  obtain ⟨x16, h5, hr⟩ := bsome hr
  obtain ⟨q5, h5L, h5X⟩ := match_Match_L0 (g := (0, [])) h5
  rcases x16 with x17 | ⟨x18, x19, x20, x21⟩
  simp only [match_Match_X0, match_Match_S0] at h5X h5L
  obtain ⟨e5, st5⟩ := q5
  obtain ⟨rfl, h5R⟩ := h5X
  try simp only [go_sem, Nat.reduceAdd] at h5L
  obtain rfl := Option.some.inj hr
  refine run_ok is15 (Nat.le_of_ble_eq_true rfl) ?_ (.inr rfl) h5R
  rotate_left
  simp only [match_Match_X0, match_Match_S0] at h5X h5L
  obtain ⟨z22, z23, rfl⟩ := h5X
  try simp only [go_sem, Nat.reduceAdd] at h5L
  obtain ⟨x24, h6, hr⟩ := bsome hr
  obtain ⟨z25, h6k, h6l0⟩ := slices_SortFunc_Bm_k (g1 := (.map (mapP keyI (lsD intD) x20) :: [])) (v0 := z22) (n0 := x21.length) (g2 := z23) rfl h6
  try simp only [go_sem, Nat.reduceAdd] at h6k
  obtain rfl := Option.some.inj hr
  refine run_ok is15 (Nat.le_of_ble_eq_true rfl) (q := (.ret, ⟨[(0, .d (.rd (a0.map encSymbol))), (1, .d (.rd (a1.map intD))), (2, .d (.rd (x18.map intD))), (6, .d (.rd (x24.map encBind))), (7, PB true), (8, .mp 0), (9, .ref 1 z22 0 x21.length), (30, .d (.rd (a1.map intD))), (31, PI (a1.length : Int)), (32, PI x19)], (.map (mapP keyI (lsD intD) x20) :: (.row true z22 2 (rowP encBind x24) :: (z23 ++ z25)))⟩)) ?_ (.inr rfl) ⟨[.d (.rd (x24.map encBind)), PB true], rfl, ?_⟩
  rotate_left 2
  simp only [h4, if_false] at hr
  obtain rfl := Option.some.inj hr
  refine run_ok is15 (Nat.le_of_ble_eq_true rfl) (q := (.ret, ⟨[(0, .d (.rd (a0.map encSymbol))), (1, .d (.rd (a1.map intD))), (2, .d (.rd (a2.map intD))), (6, .d (.rd (([] : List Bind).map encBind))), (7, PB false)], []⟩)) ?_ (.inr rfl) ⟨[.d (.rd (([] : List Bind).map encBind)), PB false], rfl, ?_⟩
  rotate_left 2
  simp only [h2, if_false] at hr
  obtain rfl := Option.some.inj hr
  refine run_ok is15 (Nat.le_of_ble_eq_true rfl) (q := (.ret, ⟨[(0, .d (.rd (a0.map encSymbol))), (1, .d (.rd (a1.map intD))), (2, .d (.rd (a2.map intD))), (6, .d (.rd (([] : List Bind).map encBind))), (7, PB false)], []⟩)) ?_ (.inr rfl) ⟨[.d (.rd (([] : List Bind).map encBind)), PB false], rfl, ?_⟩
  rotate_left 2
  all_goals (simp (config := {decide := true}) only [go_sem, Int.reduceToNat, Nat.reduceAdd, Nat.reduceLT, Nat.reduceMul, Nat.reducePow, reduceCtorEq, callEnv, c15, *])
theorem match_Match_k {a0 : List Symbol} {a1 : List Int} {a2 : List Int} {r : (List Bind) × Bool} (hr : match_Match a0 a1 a2 = some r) {h : AHeap} : callP C (Lim C) 15 [.d (.rd (a0.map encSymbol)), .d (.rd (a1.map intD)), .d (.rd (a2.map intD))] h = some (.tp [.d (.rd (r.1.map encBind)), PB r.2], h) := call_of (ds := [.rd (a0.map encSymbol), .rd (a1.map intD), .rd (a2.map intD)]) rfl rfl rfl (match_Match_R hr) h
theorem match_Match_o {a0 : List Symbol} {a1 : List Int} {a2 : List Int} {r : (List Bind) × Bool} (hr : match_Match a0 a1 a2 = some r) {h : AHeap} {args : List PV} (ha : mapO (rs h depth) args = some [.rd (a0.map encSymbol), .rd (a1.map intD), .rd (a2.map intD)]) : callP C (Lim C) 15 args h = some (.tp [.d (.rd (r.1.map encBind)), PB r.2], if scalar (.tp [.d (.rd (r.1.map encBind)), PB r.2]) = true then h else freezeAll (args.flatMap (reach h depth)) h) := call_own rfl rfl rfl (match_Match_R hr) ha
def b18_0 : ACode := .seq (.seq (.reg [] [] [.M 11 5, .M 12 0, .T 13 (.len (.tmp 12)), .K 14 (.bin .lss (.tmp 11) (.tmp 13))]) (.cond (.tmp 14) (some 14) (.skip) (.exit 0))) (.seq (.block 1 33570816 (.seq (.reg [] [] [.M 17 0, .M 18 5, ⟨some (19, false), .ix 1 (.tmp 17) (.tmp 18), none, true, false⟩, ⟨some (20, false), .load none (.tmp 19), none, true, false⟩, .M 21 1, .M 22 5, ⟨some (23, false), .ix 1 (.tmp 21) (.tmp 22), none, true, false⟩, ⟨some (24, false), .load none (.tmp 23), none, true, false⟩, .K 25 (.bin .neq (.tmp 20) (.tmp 24))]) (.cond (.tmp 25) (some 25) (.seq (.reg [] [] [.K 4 (.mv (.const (.bool false)))]) (.ret)) (.skip)))) (.reg [] [] [.M 15 5, .T 16 (.bin .add (.tmp 15) (cI 1)), .N 5 16]))
def c18 : ACode := .seq (.reg [] [] [.K 4 (.mv (.const (.bool false)))]) (.seq (.seq (.reg [] [] [.M 6 0, .T 7 (.len (.tmp 6)), .M 8 1, .T 9 (.len (.tmp 8)), .K 10 (.bin .neq (.tmp 7) (.tmp 9))]) (.cond (.tmp 10) (some 10) (.seq (.reg [] [] [.K 4 (.mv (.const (.bool false)))]) (.ret)) (.skip))) (.seq (.seq (.reg [] [] [.K 5 (.mv (cI 0))]) (.block 0 33570816 (.loop b18_0))) (.seq (.reg [] [] [.K 4 (.mv (.const (.bool true)))]) (.ret))))
theorem is18 : IsF C 18 26 33571891 c18 [.tmp 4] := ⟨⟨Tryd.f18, _, C_P ▸ Tryd.func18, rfl, rfl, rfl, by kernel_rfl, rfl⟩⟩
def l05_sameRow_S0 (s0 : List Int) (s1 : List Int) : Int → Unit → St := fun s5 _ => ⟨[(0, .d (.rd (s0.map intD))), (1, .d (.rd (s1.map intD))), (4, PB false), (5, PI s5)], []⟩
def l05_sameRow_X0 (s0 : List Int) (s1 : List Int) : (Bool ⊕ Int) → AExit × St → Prop
  | .inl r, q => q.1 = .ret ∧ RetOK C [.tmp 4] q.2 (PB r)
  | .inr s5, q => q = (.exit 0, ⟨[(0, .d (.rd (s0.map intD))), (1, .d (.rd (s1.map intD))), (4, PB false), (5, PI s5)], []⟩)
set_option maxHeartbeats 4000000 in
theorem l05_sameRow_R0 (s0 : List Int) (s1 : List Int) : ∀ (s : Int) (g : Unit) r, l05_sameRow_l0 s0 s1 s = some r → Sum.elim (fun s' => ∃ g', semA C (Lim C) 33571891 b18_0 (l05_sameRow_S0 s0 s1 s g) = some (.normal, l05_sameRow_S0 s0 s1 s' g')) (fun x => ∃ q, semA C (Lim C) 33571891 b18_0 (l05_sameRow_S0 s0 s1 s g) = some q ∧ q.1 ≠ .normal ∧ l05_sameRow_X0 s0 s1 x q) r := by
  intro s g r hr
  have ⟨s5, hs0⟩ : ∃ y, y = s := ⟨_, rfl⟩
  subst hs0
  simp only [l05_sameRow_l0] at hr
  rcases Classical.propComplete (s5 < (s0.length : Int)) with h1 | h1
  simp only [h1, if_true] at hr
  obtain ⟨x1, h2, hr⟩ := bsome hr
  obtain ⟨x2, h3, hr⟩ := bsome hr
  rcases Classical.propComplete (x1 = x2) with h4 | h4
  simp only [h4, if_true] at hr
  obtain rfl := Option.some.inj hr
  refine ⟨(), ?_⟩
  rotate_left
  simp only [h4, if_false] at hr
  obtain rfl := Option.some.inj hr
  refine ⟨(.ret, ⟨[(0, .d (.rd (s0.map intD))), (1, .d (.rd (s1.map intD))), (4, PB false), (5, PI s5)], []⟩), ?_, nofun, rfl, [PB false], rfl, ?_⟩
  rotate_left 2
  simp only [h1, if_false] at hr
  obtain rfl := Option.some.inj hr
  refine ⟨(.exit 0, ⟨[(0, .d (.rd (s0.map intD))), (1, .d (.rd (s1.map intD))), (4, PB false), (5, PI s5)], []⟩), ?_, nofun, rfl⟩
  rotate_left
  all_goals (simp (config := {decide := true}) only [go_sem, Int.reduceToNat, Nat.reduceAdd, Nat.reduceLT, Nat.reduceMul, Nat.reducePow, reduceCtorEq, l05_sameRow_S0, b18_0, *])
theorem l05_sameRow_L0 {s0 : List Int} {s1 : List Int} {s : Int} {g : Unit} {x} (h : wh (l05_sameRow_l0 s0 s1) s = some x) : ∃ q, loopLim (semA C (Lim C) 33571891 b18_0) (l05_sameRow_S0 s0 s1 s g) = some q ∧ l05_sameRow_X0 s0 s1 x q := wh_sim (l05_sameRow_R0 s0 s1) h
set_option maxHeartbeats 4000000 in
theorem l05_sameRow_R {a0 : List Int} {a1 : List Int} {r : Bool} (hr : l05_sameRow a0 a1 = some r) : ∃ p hp, Lim C 18 [.d (.rd (a0.map intD)), .d (.rd (a1.map intD))] [] = some (p, hp) ∧ rsT hp p = some (PB r) := by
  simp only [l05_sameRow] at hr
  rcases Classical.propComplete ((a0.length : Int) = (a1.length : Int)) with h1 | h1
  simp only [h1, if_true] at hr
  obtain ⟨x3, h2, hr⟩ := bsome hr
  obtain ⟨q2, h2L, h2X⟩ := l05_sameRow_L0 (g := ()) h2
  rcases x3 with x4 | x5
  simp only [l05_sameRow_X0, l05_sameRow_S0] at h2X h2L
  obtain ⟨e2, st2⟩ := q2
  obtain ⟨rfl, h2R⟩ := h2X
  try simp only [go_sem, Nat.reduceAdd] at h2L
  obtain rfl := Option.some.inj hr
  refine run_ok is18 (Nat.le_of_ble_eq_true rfl) ?_ (.inr rfl) h2R
  rotate_left
  simp only [l05_sameRow_X0, l05_sameRow_S0] at h2X h2L
  subst h2X
  try simp only [go_sem, Nat.reduceAdd] at h2L
  obtain rfl := Option.some.inj hr
  refine run_ok is18 (Nat.le_of_ble_eq_true rfl) (q := (.ret, ⟨[(0, .d (.rd (a0.map intD))), (1, .d (.rd (a1.map intD))), (4, PB true), (5, PI x5)], []⟩)) ?_ (.inr rfl) ⟨[PB true], rfl, ?_⟩
  rotate_left 2
  simp only [h1, if_false] at hr
  obtain rfl := Option.some.inj hr
  refine run_ok is18 (Nat.le_of_ble_eq_true rfl) (q := (.ret, ⟨[(0, .d (.rd (a0.map intD))), (1, .d (.rd (a1.map intD))), (4, PB false)], []⟩)) ?_ (.inr rfl) ⟨[PB false], rfl, ?_⟩
  rotate_left 2
  all_goals (simp (config := {decide := true}) only [go_sem, Int.reduceToNat, Nat.reduceAdd, Nat.reduceLT, Nat.reduceMul, Nat.reducePow, reduceCtorEq, callEnv, c18, *])
theorem l05_sameRow_k {a0 : List Int} {a1 : List Int} {r : Bool} (hr : l05_sameRow a0 a1 = some r) {h : AHeap} : callP C (Lim C) 18 [.d (.rd (a0.map intD)), .d (.rd (a1.map intD))] h = some (PB r, h) := call_of (ds := [.rd (a0.map intD), .rd (a1.map intD)]) rfl rfl rfl (l05_sameRow_R hr) h
def b17_0 : ACode := .seq (.seq (.reg [] [] [.M 12 5, .M 13 0, .T 14 (.len (.tmp 13)), .K 15 (.bin .lss (.tmp 12) (.tmp 14))]) (.cond (.tmp 15) (some 15) (.skip) (.exit 0))) (.seq (.block 1 8796093055040 (.seq (.reg [] [] [.M 18 0, .M 19 5, ⟨some (20, false), .ix 2 (.tmp 18) (.tmp 19), none, true, false⟩, .T 21 (.fa 1 (.tmp 20)), ⟨some (22, false), .load none (.tmp 21), none, true, false⟩, .M 23 1, .M 24 5, ⟨some (25, false), .ix 2 (.tmp 23) (.tmp 24), none, true, false⟩, .T 26 (.fa 1 (.tmp 25)), ⟨some (27, false), .load none (.tmp 26), none, true, false⟩, ⟨some (28, false), .call 18 [.tmp 22, .tmp 27], none, true, false⟩, .N 6 28]) (.seq (.reg [] [] [.M 29 6, .T 30 (.not (.tmp 29)), .M 31 30, .MG 32 31 false 0, .MG 33 31 false 5, ⟨some (34, false), .ix 2 (.tmp 32) (.tmp 33), some (31, false), true, false⟩, .TG 35 31 false (.fa 0 (.tmp 34)), ⟨some (36, false), .load none (.tmp 35), some (31, false), true, false⟩, .MG 37 31 false 1, .MG 38 31 false 5, ⟨some (39, false), .ix 2 (.tmp 37) (.tmp 38), some (31, false), true, false⟩, .TG 40 31 false (.fa 0 (.tmp 39)), ⟨some (41, false), .load none (.tmp 40), some (31, false), true, false⟩, .TG 42 31 false (.bin .neq (.tmp 36) (.tmp 41)), .K 43 (.pick (.tmp 31) (.const (.bool true)) (.tmp 42))]) (.cond (.tmp 43) (some 43) (.seq (.reg [] [] [.K 4 (.mv (.const (.bool false)))]) (.ret)) (.skip))))) (.reg [] [] [.M 16 5, .T 17 (.bin .add (.tmp 16) (cI 1)), .N 5 17]))
def c17 : ACode := .seq (.reg [] [] [.K 4 (.mv (.const (.bool false)))]) (.seq (.seq (.reg [] [] [.M 7 0, .T 8 (.len (.tmp 7)), .M 9 1, .T 10 (.len (.tmp 9)), .K 11 (.bin .neq (.tmp 8) (.tmp 10))]) (.cond (.tmp 11) (some 11) (.seq (.reg [] [] [.K 4 (.mv (.const (.bool false)))]) (.ret)) (.skip))) (.seq (.seq (.reg [] [] [.K 5 (.mv (cI 0))]) (.block 0 8796093055040 (.loop b17_0))) (.seq (.reg [] [] [.K 4 (.mv (.const (.bool true)))]) (.ret))))
theorem is17 : IsF C 17 44 8796093057139 c17 [.tmp 4] := ⟨⟨Tryd.f17, _, C_P ▸ Tryd.func17, rfl, rfl, rfl, by kernel_rfl, rfl⟩⟩
def l05_same_S0 (s0 : List Bind) (s1 : List Bind) : Int → Unit → St := fun s5 _ => ⟨[(0, .d (.rd (s0.map encBind))), (1, .d (.rd (s1.map encBind))), (4, PB false), (5, PI s5)], []⟩
def l05_same_X0 (s0 : List Bind) (s1 : List Bind) : (Bool ⊕ Int) → AExit × St → Prop
  | .inl r, q => q.1 = .ret ∧ RetOK C [.tmp 4] q.2 (PB r)
  | .inr s5, q => q = (.exit 0, ⟨[(0, .d (.rd (s0.map encBind))), (1, .d (.rd (s1.map encBind))), (4, PB false), (5, PI s5)], []⟩)
set_option maxHeartbeats 4000000 in
theorem l05_same_R0 (s0 : List Bind) (s1 : List Bind) : ∀ (s : Int) (g : Unit) r, l05_same_l0 s0 s1 s = some r → Sum.elim (fun s' => ∃ g', semA C (Lim C) 8796093057139 b17_0 (l05_same_S0 s0 s1 s g) = some (.normal, l05_same_S0 s0 s1 s' g')) (fun x => ∃ q, semA C (Lim C) 8796093057139 b17_0 (l05_same_S0 s0 s1 s g) = some q ∧ q.1 ≠ .normal ∧ l05_same_X0 s0 s1 x q) r := by
  intro s g r hr
  have ⟨s5, hs0⟩ : ∃ y, y = s := ⟨_, rfl⟩
  subst hs0
  simp only [l05_same_l0] at hr
  rcases Classical.propComplete (s5 < (s0.length : Int)) with h1 | h1
  simp only [h1, if_true] at hr
  obtain ⟨x1, h2, hr⟩ := bsome hr
  obtain ⟨x2, h3, hr⟩ := bsome hr
  obtain ⟨x3, h4, hr⟩ := bsome hr
  have h4k := fun h => l05_sameRow_k (h := h) h4
  try simp only [go_sem] at h4k
  cases h5 : x3
  simp only [h5, Bool.false_eq_true, if_false] at hr
  obtain rfl := Option.some.inj hr
  refine ⟨(.ret, ⟨[(0, .d (.rd (s0.map encBind))), (1, .d (.rd (s1.map encBind))), (4, PB false), (5, PI s5), (6, PB x3)], []⟩), ?_, nofun, rfl, [PB false], rfl, ?_⟩
  rotate_left 2
  simp only [h5, if_true] at hr
  rcases Classical.propComplete (x1.Var = x2.Var) with h6 | h6
  simp only [h6, if_true] at hr
  obtain rfl := Option.some.inj hr
  refine ⟨(), ?_⟩
  rotate_left
  simp only [h6, if_false] at hr
  obtain rfl := Option.some.inj hr
  refine ⟨(.ret, ⟨[(0, .d (.rd (s0.map encBind))), (1, .d (.rd (s1.map encBind))), (4, PB false), (5, PI s5), (6, PB x3)], []⟩), ?_, nofun, rfl, [PB false], rfl, ?_⟩
  rotate_left 2
  simp only [h1, if_false] at hr
  obtain rfl := Option.some.inj hr
  refine ⟨(.exit 0, ⟨[(0, .d (.rd (s0.map encBind))), (1, .d (.rd (s1.map encBind))), (4, PB false), (5, PI s5)], []⟩), ?_, nofun, rfl⟩
  rotate_left
  all_goals (simp (config := {decide := true}) only [go_sem, Int.reduceToNat, Nat.reduceAdd, Nat.reduceLT, Nat.reduceMul, Nat.reducePow, reduceCtorEq, l05_same_S0, b17_0, *])
theorem l05_same_L0 {s0 : List Bind} {s1 : List Bind} {s : Int} {g : Unit} {x} (h : wh (l05_same_l0 s0 s1) s = some x) : ∃ q, loopLim (semA C (Lim C) 8796093057139 b17_0) (l05_same_S0 s0 s1 s g) = some q ∧ l05_same_X0 s0 s1 x q := wh_sim (l05_same_R0 s0 s1) h
set_option maxHeartbeats 4000000 in
theorem l05_same_R {a0 : List Bind} {a1 : List Bind} {r : Bool} (hr : l05_same a0 a1 = some r) : ∃ p hp, Lim C 17 [.d (.rd (a0.map encBind)), .d (.rd (a1.map encBind))] [] = some (p, hp) ∧ rsT hp p = some (PB r) := by
  simp only [l05_same] at hr
  rcases Classical.propComplete ((a0.length : Int) = (a1.length : Int)) with h1 | h1
  simp only [h1, if_true] at hr
  obtain ⟨x4, h2, hr⟩ := bsome hr
  obtain ⟨q2, h2L, h2X⟩ := l05_same_L0 (g := ()) h2
  rcases x4 with x5 | x6
  simp only [l05_same_X0, l05_same_S0] at h2X h2L
  obtain ⟨e2, st2⟩ := q2
  obtain ⟨rfl, h2R⟩ := h2X
  try simp only [go_sem, Nat.reduceAdd] at h2L
  obtain rfl := Option.some.inj hr
  refine run_ok is17 (Nat.le_of_ble_eq_true rfl) ?_ (.inr rfl) h2R
  rotate_left
  simp only [l05_same_X0, l05_same_S0] at h2X h2L
  subst h2X
  try simp only [go_sem, Nat.reduceAdd] at h2L
  obtain rfl := Option.some.inj hr
  refine run_ok is17 (Nat.le_of_ble_eq_true rfl) (q := (.ret, ⟨[(0, .d (.rd (a0.map encBind))), (1, .d (.rd (a1.map encBind))), (4, PB true), (5, PI x6)], []⟩)) ?_ (.inr rfl) ⟨[PB true], rfl, ?_⟩
  rotate_left 2
  simp only [h1, if_false] at hr
  obtain rfl := Option.some.inj hr
  refine run_ok is17 (Nat.le_of_ble_eq_true rfl) (q := (.ret, ⟨[(0, .d (.rd (a0.map encBind))), (1, .d (.rd (a1.map encBind))), (4, PB false)], []⟩)) ?_ (.inr rfl) ⟨[PB false], rfl, ?_⟩
  rotate_left 2
  all_goals (simp (config := {decide := true}) only [go_sem, Int.reduceToNat, Nat.reduceAdd, Nat.reduceLT, Nat.reduceMul, Nat.reducePow, reduceCtorEq, callEnv, c17, *])
theorem l05_same_o {a0 : List Bind} {a1 : List Bind} {r : Bool} (hr : l05_same a0 a1 = some r) {h : AHeap} {args : List PV} (ha : mapO (rs h depth) args = some [.rd (a0.map encBind), .rd (a1.map encBind)]) : callP C (Lim C) 17 args h = some (PB r, if scalar (PB r) = true then h else freezeAll (args.flatMap (reach h depth)) h) := call_own rfl rfl rfl (l05_same_R hr) ha
def c46_r8 : ACode := .reg [] [] [.K 30 (.bin .lss (.tmp 29) (.tmp 28))]
def c46_r9 : ACode := .reg [] [] [.M 31 29, .T 32 (.ix 1 (.tmp 27) (.tmp 29)), .T 33 (.load none (.tmp 32)), .N 7 31, .N 8 33]
def c46_r10 : ACode := .reg [] [] [.M 34 8, .K 35 (.bin .geq (.tmp 34) (cI 0))]
def c46_r11 : ACode := .reg [] [] [.M 37 3, .M 38 8, .T 39 (.look (Go.TypeDesc.int .i64) (.d (.v (.int .i64 0))) (.tmp 37) (.tmp 38) true), .M 36 39, .T 40 (.ext (.tmp 36) 0), .T 41 (.ext (.tmp 36) 1), .M 9 40, .N 10 41]
def c46_r12 : ACode := .reg [] [] [.M 42 10, .K 43 (.not (.tmp 42))]
def c46_r13 : ACode := .reg [] [] [.M 44 3, .M 45 8, .M 46 3, .T 47 (.mlen (.tmp 46)), ⟨none, .mput (Go.TypeDesc.int .i64) (.tmp 44) (.tmp 45) (.tmp 47), none, false, false⟩]
def c46_r14 : ACode := .reg [] [] [.M 48 4, .M 49 5, ⟨some (50, false), .ix 1 (.tmp 48) (.tmp 49), none, true, false⟩, ⟨some (51, false), .load none (.tmp 50), none, true, false⟩, .M 52 7, .M 53 3, .M 54 8, ⟨some (55, false), .look (Go.TypeDesc.int .i64) (.d (.v (.int .i64 0))) (.tmp 53) (.tmp 54) false, none, true, false⟩, .T 56 (.bin .sub (cI (-1)) (.tmp 55)), ⟨some (57, false), .ix 1 (.tmp 51) (.tmp 52), none, true, false⟩, ⟨none, .store 1 (.tmp 57) (.tmp 56), none, false, false⟩]
def c46_r15 : ACode := .reg [] [] [.T 58 (.bin .add (.tmp 29) (cI 1)), .N 29 58]
def c46_r4 : ACode := .reg [] [] [.K 18 (.bin .lss (.tmp 17) (.tmp 16))]
def c46_r5 : ACode := .reg [] [] [.M 19 17, .T 20 (.ix 1 (.tmp 15) (.tmp 17)), .T 21 (.load none (.tmp 20)), .N 5 19, .N 6 21]
def c46_r6 : ACode := .reg [] [] [.M 22 4, .M 23 5, .M 24 6, .T 25 (.call 40 [.tmp 24]), .T 26 (.ix 1 (.tmp 22) (.tmp 23)), ⟨none, .store 1 (.tmp 26) (.tmp 25), none, false, false⟩]
def c46_r7 : ACode := .reg [] [] [.N 27 6, .K 28 (.len (.tmp 27)), .K 29 (.mv (cI 0))]
def c46_r16 : ACode := .reg [] [] [.T 59 (.bin .add (.tmp 17) (cI 1)), .N 17 59]
def c46_r0 : ACode := .reg [] [] [.K 2 (.mv (.const (.slice none 0 0)))]
def c46_r1 : ACode := .reg [] [] [.T 11 (.mkMap), .N 3 11]
def c46_r2 : ACode := .reg [] [] [.M 12 0, .T 13 (.len (.tmp 12)), .T 14 (.mkSl [.d (.rd [])] 1 24 (.tmp 13) (.tmp 13)), .N 4 14]
def c46_r3 : ACode := .reg [] [] [.N 15 0, .K 16 (.len (.tmp 15)), .K 17 (.mv (cI 0))]
def c46_r17 : ACode := .reg [] [] [.M 60 4, .N 2 60]
def b46_1 : ACode := .seq (c46_r8) (.seq (.cond (.tmp 30) (some 30) (.skip) (.exit 2)) (.seq (.block 3 8831526503808 (.seq (c46_r9) (.seq (.seq (c46_r10) (.cond (.tmp 35) (some 35) (.exit 3) (.skip))) (.seq (.seq (c46_r11) (.seq (c46_r12) (.cond (.tmp 43) (some 43) (c46_r13) (.skip)))) (c46_r14))))) (c46_r15)))
def b46_0 : ACode := .seq (c46_r4) (.seq (.cond (.tmp 18) (some 18) (.skip) (.exit 0)) (.seq (.block 1 8832466290144 (.seq (c46_r5) (.seq (c46_r6) (.seq (c46_r7) (.block 2 8832466290144 (.loop b46_1)))))) (c46_r16)))
def c46 : ACode := .seq (c46_r0) (.seq (c46_r1) (.seq (c46_r2) (.seq (.seq (c46_r3) (.block 0 8832466290144 (.loop b46_0))) (.seq (c46_r17) (.ret)))))
theorem is46 : IsF C 46 61 8832466519549 c46 [.tmp 2] := ⟨⟨Tryd.f46, _, C_P ▸ Tryd.func46, rfl, rfl, rfl, by kernel_rfl, rfl⟩⟩
section
abbrev cnI (l : List (List Int)) (i : Nat) (t : List Int) (k : Nat) (m : List (Int × Int)) (cells : List (List PV)) (objs : AHeap) : St := ⟨[(0, .d (.rd (l.map (lsD intD)))), (2, .im true []), (3, .mp 0), (4, .ref 1 0 0 l.length), (5, PI i), (6, .d (.rd (t.map intD))), (15, .d (.rd (l.map (lsD intD)))), (16, PI l.length), (17, PI i), (27, .d (.rd (t.map intD))), (28, PI t.length), (29, PI k)], .map (mapP keyI intD m) :: .row false 0 1 cells :: objs⟩
abbrev rowO (cur : List Int) : AObj := .row false 0 1 (rowP intD cur)
variable {l : List (List Int)} {i k : Nat} {t : List Int} {m : List (Int × Int)} {cells : List (List PV)} {A : AHeap} {cur : List Int}
theorem mget_num (c : Int) : ∃ v, mget (canNum m c) c = some v := by
  unfold canNum
  cases h : mget m c with
  | some v => exact ⟨v, h⟩
  | none =>
    simp only
    generalize (m.length : Int) = n
    refine ⟨n, ?_⟩
    induction m with
    | nil => simp [mset, mget]
    | cons p r ih =>
      obtain ⟨a, b⟩ := p
      simp only [mget] at h
      split at h
      · cases h
      · rename_i hne
        simp only [mset, if_neg hne, mget]
        exact ih h
theorem cnPos {c : Int} (hl : l.length < 4611686018427387904) (hk : t.length < 4611686018427387904) (hx : t[k]? = some c) (hc : 0 ≤ c) : semA C (Lim C) 8832466519549 b46_1 (cnI l i t k m cells A) = some (.normal, cnI l i t (k + 1) m cells A) := by
  have hlt := (List.getElem?_eq_some_iff.1 hx).1
  have h1 : ((k : Int) < (t.length : Int)) = True := eq_true (by omega)
  have h2 := idx_nat hx
  have h3 : (0 ≤ c) = True := eq_true hc
  have hw : w64 ((k : Int) + 1) = ((k + 1 : Nat) : Int) := by rw [w64_small (by omega) (by omega)]; omega
  simp (config := {decide := true}) only [b46_1, c46_r8, c46_r9, c46_r10, c46_r11, c46_r12, c46_r13, c46_r14, c46_r15, c46_r4, c46_r5, c46_r6, c46_r7, c46_r16, c46_r0, c46_r1, c46_r2, c46_r3, c46_r17, go_sem, Int.reduceToNat, Nat.reduceAdd, Nat.reduceLT, Nat.reduceMul, Nat.reducePow, reduceCtorEq, h1, h2, h3, hw]
theorem cnNeg {c : Int} (hl : l.length < 4611686018427387904) (hk : t.length < 4611686018427387904) (hA : A.length = i) (hi : i < l.length) (hx : t[k]? = some c) (hc : ¬ 0 ≤ c) (hcell : cells[i]? = some [.ref (i + 2) 0 0 cur.length]) (hcur : cur.length = t.length) :
    semA C (Lim C) 8832466519549 b46_1 (cnI l i t k m cells (A ++ [rowO cur])) = some (.normal, cnI l i t (k + 1) (canNum m c) cells (A ++ [rowO (cur.set k (w64 (-1 - (mget (canNum m c) c).getD 0)))])) := by
  have hlt := (List.getElem?_eq_some_iff.1 hx).1
  have h1 : ((k : Int) < (t.length : Int)) = True := eq_true (by omega)
  have h2 := idx_nat hx
  have h3 : (0 ≤ c) = False := eq_false hc
  have hw : w64 ((k : Int) + 1) = ((k + 1 : Nat) : Int) := by rw [w64_small (by omega) (by omega)]; omega
  have h4 : ((i : Int) < (l.length : Int)) = True := eq_true (by omega)
  have h5 : ((k : Int) < (cur.length : Int)) = True := eq_true (by omega)
  have h0 : ((0 : Int) ≤ (i : Int)) = True := eq_true (by omega)
  have h0k : ((0 : Int) ≤ (k : Int)) = True := eq_true (by omega)
  have h6 : ∀ x, (A ++ [x])[i]? = some x := fun x => by rw [← hA]; simp
  have h7 : ∀ x y, (A ++ [x]).set i y = A ++ [y] := fun x y => by rw [← hA]; simp
  obtain ⟨a, ha⟩ : ∃ a, cur[k]? = some a := ⟨cur[k], List.getElem?_eq_getElem (by omega)⟩
  obtain ⟨v, hv⟩ := mget_num (m := m) c
  cases hm : mget m c with
  | none =>
    have hn : canNum m c = mset m c (m.length : Int) := by unfold canNum; rw [hm]
    rw [hn] at hv ⊢
    rw [hv]
    simp (config := {decide := true}) only [b46_1, c46_r8, c46_r9, c46_r10, c46_r11, c46_r12, c46_r13, c46_r14, c46_r15, c46_r4, c46_r5, c46_r6, c46_r7, c46_r16, c46_r0, c46_r1, c46_r2, c46_r3, c46_r17, go_sem, Int.reduceToNat, Nat.reduceAdd, Nat.reduceLT, Nat.reduceMul, Nat.reducePow, reduceCtorEq, h1, h2, h3, hw, h4, h5, h0, h0k, h6, h7, ha, hcell, hm, hv, Int.toNat_natCast]
  | some u =>
    have hn : canNum m c = m := by unfold canNum; rw [hm]
    rw [hn] at hv ⊢
    rw [hm]
    simp (config := {decide := true}) only [b46_1, c46_r8, c46_r9, c46_r10, c46_r11, c46_r12, c46_r13, c46_r14, c46_r15, c46_r4, c46_r5, c46_r6, c46_r7, c46_r16, c46_r0, c46_r1, c46_r2, c46_r3, c46_r17, go_sem, Int.reduceToNat, Nat.reduceAdd, Nat.reduceLT, Nat.reduceMul, Nat.reducePow, reduceCtorEq, h1, h2, h3, hw, h4, h5, h0, h0k, h6, h7, ha, hcell, hm, Int.toNat_natCast]
theorem cnEnd : semA C (Lim C) 8832466519549 b46_1 (cnI l i t t.length m cells A) = some (.exit 2, cnI l i t t.length m cells A) := by
  have h1 : ((t.length : Int) < (t.length : Int)) = False := eq_false (by omega)
  simp (config := {decide := true}) only [b46_1, c46_r8, c46_r9, c46_r10, c46_r11, c46_r12, c46_r13, c46_r14, c46_r15, c46_r4, c46_r5, c46_r6, c46_r7, c46_r16, c46_r0, c46_r1, c46_r2, c46_r3, c46_r17, go_sem, Int.reduceToNat, Nat.reduceAdd, Nat.reduceLT, Nat.reduceMul, Nat.reducePow, reduceCtorEq, h1]
theorem canRow_len : ∀ (t : List Int) (m : List (Int × Int)), (canRow m t).2.length = t.length := by
  intro t
  induction t with
  | nil => intro m; rfl
  | cons c r ih => intro m; simp only [canRow]; split <;> simp [ih]
theorem cnLoop (hl : l.length < 4611686018427387904) (hk : t.length < 4611686018427387904) (hA : A.length = i) (hi : i < l.length) (hcell : cells[i]? = some [.ref (i + 2) 0 0 t.length]) : ∀ (n k : Nat) (m : List (Int × Int)) (done : List Int), k + n = t.length → done.length = k →
    loopLim (semA C (Lim C) 8832466519549 b46_1) (cnI l i t k m cells (A ++ [rowO (done ++ t.drop k)])) = some (.exit 2, cnI l i t t.length (canRow m (t.drop k)).1 cells (A ++ [rowO (done ++ (canRow m (t.drop k)).2)])) := by
  intro n
  induction n with
  | zero =>
    intro k m done hn hd
    have : k = t.length := by omega
    subst this
    rw [List.drop_eq_nil_of_le (Nat.le_refl _)]
    exact ev_leave cnEnd (by simp)
  | succ n ih =>
    intro k m done hn hd
    have hlt : k < t.length := by omega
    have hx : t[k]? = some t[k] := List.getElem?_eq_getElem hlt
    have hcl : (done ++ t.drop k).length = t.length := by simp; omega
    rw [List.drop_eq_getElem_cons hlt] at hcl ⊢
    simp only [canRow]
    by_cases hc : 0 ≤ t[k]
    · simp only [if_pos hc]
      have := ih (k + 1) m (done ++ [t[k]]) (by omega) (by simp; omega)
      rw [List.append_assoc, List.append_assoc] at this
      exact ev_next (cnPos hl hk hx hc) this
    · simp only [if_neg hc]
      have hs : ∀ (x y : Int) (r : List Int), (done ++ x :: r).set k y = done ++ y :: r := fun x y r => by rw [← hd]; simp
      have h1 := cnNeg (m := m) (A := A) (cells := cells) (l := l) (i := i) (k := k) (t := t) (cur := done ++ t[k] :: t.drop (k + 1)) hl hk hA hi hx hc (by rw [hcl]; exact hcell) hcl
      rw [hs] at h1
      have := ih (k + 1) (canNum m t[k]) (done ++ [w64 (-1 - (mget (canNum m t[k]) t[k]).getD 0)]) (by omega) (by simp; omega)
      rw [List.append_assoc, List.append_assoc] at this
      exact ev_next h1 this
def cellsOf (rs : List (List Int)) (n : Nat) : List (List PV) := (rs.zipIdx.map fun p => [PV.ref (p.2 + 2) 0 0 p.1.length]) ++ List.replicate (n - rs.length) [.d (.rd [])]
theorem cellsOf_set {rs : List (List Int)} {n q : Nat} {r' : List Int} (hn : rs.length < n) (hq : r'.length = q) : (cellsOf rs n).set rs.length [.ref (rs.length + 2) 0 0 q] = cellsOf (rs ++ [r']) n := by
  unfold cellsOf
  obtain ⟨k, hk⟩ : ∃ k, n - rs.length = k + 1 := ⟨n - rs.length - 1, by omega⟩
  have hk2 : n - (rs ++ [r']).length = k := by simp; omega
  rw [hk, hk2, List.replicate_succ, List.set_append_right _ _ (by simp), List.zipIdx_append]
  simp [hq]
theorem cellsOf_get {rs : List (List Int)} {n : Nat} (hn : rs.length < n) : (cellsOf rs n)[rs.length]? = some [.d (.rd [])] := by
  unfold cellsOf
  rw [List.getElem?_append_right (by simp)]
  simp only [List.length_map, List.length_zipIdx, Nat.sub_self]
  rw [List.getElem?_replicate, if_pos (by omega)]
theorem cellsOf_len {rs : List (List Int)} {n : Nat} (hn : rs.length ≤ n) : (cellsOf rs n).length = n := by unfold cellsOf; simp; omega
abbrev cnO (l : List (List Int)) (i : Nat) (m : List (Int × Int)) (rs : List (List Int)) : St := ⟨[(0, .d (.rd (l.map (lsD intD)))), (2, .im true []), (3, .mp 0), (4, .ref 1 0 0 l.length), (15, .d (.rd (l.map (lsD intD)))), (16, PI l.length), (17, PI i)], .map (mapP keyI intD m) :: .row false 0 1 (cellsOf rs l.length) :: rs.map rowO⟩
theorem cnStep {rs : List (List Int)} (hl : l.length < 4611686018427387904) (hr : rs.length = i) (hx : l[i]? = some t) (ht : t.length * 8 ≤ 140737488355328) : semA C (Lim C) 8832466519549 b46_0 (cnO l i m rs) = some (.normal, cnO l (i + 1) (canRow m t).1 (rs ++ [(canRow m t).2])) := by
  have hlt := (List.getElem?_eq_some_iff.1 hx).1
  have h1 : ((i : Int) < (l.length : Int)) = True := eq_true (by omega)
  have h0 : ((0 : Int) ≤ (i : Int)) = True := eq_true (by omega)
  have h2 := idx_nat hx
  have hw : w64 ((i : Int) + 1) = ((i + 1 : Nat) : Int) := by rw [w64_small (by omega) (by omega)]; omega
  have h3 : (cellsOf rs l.length)[i]? = some [.d (.rd [])] := by rw [← hr]; exact cellsOf_get (by omega)
  have ht' := eq_true ht
  have hmap : (rs.map rowO).length = i := by simp [hr]
  have hlp := cnLoop (l := l) (t := t) (i := i) (A := rs.map rowO) (cells := (cellsOf rs l.length).set i [.ref (i + 2) 0 0 t.length]) hl (by omega) hmap hlt (by
    rw [List.getElem?_set_self (by rw [cellsOf_len (by omega)]; omega)]) t.length 0 m [] (by omega) rfl
  have hset := cellsOf_set (rs := rs) (n := l.length) (q := t.length) (r' := (canRow m t).2) (by omega) (canRow_len _ _)
  rw [hr] at hset
  simp only [List.drop_zero, List.nil_append, cnI, rowO, Int.natCast_zero] at hlp
  rw [hset] at hlp
  simp (config := {decide := true}) only [b46_0, c46_r8, c46_r9, c46_r10, c46_r11, c46_r12, c46_r13, c46_r14, c46_r15, c46_r4, c46_r5, c46_r6, c46_r7, c46_r16, c46_r0, c46_r1, c46_r2, c46_r3, c46_r17, go_sem, Int.reduceToNat, Nat.reduceAdd, Nat.reduceLT, Nat.reduceMul, Nat.reducePow, reduceCtorEq, h1, h0, h2, h3, hw, ht', hmap, Int.toNat_natCast, hset, hlp, List.map_append, cnO, rowO]
theorem cnOEnd {rs : List (List Int)} : semA C (Lim C) 8832466519549 b46_0 (cnO l l.length m rs) = some (.exit 0, cnO l l.length m rs) := by
  have h1 : ((l.length : Int) < (l.length : Int)) = False := eq_false (by omega)
  simp (config := {decide := true}) only [b46_0, c46_r8, c46_r9, c46_r10, c46_r11, c46_r12, c46_r13, c46_r14, c46_r15, c46_r4, c46_r5, c46_r6, c46_r7, c46_r16, c46_r0, c46_r1, c46_r2, c46_r3, c46_r17, go_sem, Int.reduceToNat, Nat.reduceAdd, Nat.reduceLT, Nat.reduceMul, Nat.reducePow, reduceCtorEq, h1]
def canMap : List (Int × Int) → List (List Int) → List (Int × Int)
  | m, [] => m
  | m, t :: r => canMap (canRow m t).1 r
theorem cnOLoop (hl : l.length < 4611686018427387904) (ht : ∀ t ∈ l, t.length * 8 ≤ 140737488355328) : ∀ (n i : Nat) (m : List (Int × Int)) (rs : List (List Int)), i + n = l.length → rs.length = i →
    loopLim (semA C (Lim C) 8832466519549 b46_0) (cnO l i m rs) = some (.exit 0, cnO l l.length (canMap m (l.drop i)) (rs ++ canRows m (l.drop i))) := by
  intro n
  induction n with
  | zero =>
    intro i m rs hn hr
    have : i = l.length := by omega
    subst this
    rw [List.drop_eq_nil_of_le (Nat.le_refl _)]
    simp only [canRows, canMap, List.append_nil]
    exact ev_leave cnOEnd (by simp)
  | succ n ih =>
    intro i m rs hn hr
    have hlt : i < l.length := by omega
    have hx : l[i]? = some l[i] := List.getElem?_eq_getElem hlt
    rw [List.drop_eq_getElem_cons hlt]
    simp only [canRows, canMap]
    have := ih (i + 1) (canRow m l[i]).1 (rs ++ [(canRow m l[i]).2]) (by omega) (by simp [hr])
    rw [List.append_assoc] at this
    exact ev_next (cnStep hl hr hx (ht _ (List.getElem_mem hlt))) this
theorem canRows_len : ∀ (l : List (List Int)) (m : List (Int × Int)), (canRows m l).length = l.length := by
  intro l
  induction l with
  | nil => intro m; rfl
  | cons t r ih => intro m; simp [canRows, ih]
theorem rs_ref39 {h : AHeap} {id ver off len : Nat} : rs h 39 (.ref id ver off len) = match rowAt h id ver with
    | some p => (mapO (mapO (rs h 38)) ((p.2.2.drop off).take len)).map D.rd
    | none => none := by
  show (match rowAt h id ver with | some (_, _, es) => (mapO (mapO (rs h 38)) ((es.drop off).take len)).map D.rd | none => none) = _
  cases rowAt h id ver <;> rfl
theorem mapO_cells {H : AHeap} : ∀ (rs' : List (List Int)) (k : Nat), (∀ j r, rs'[j]? = some r → H[k + j + 2]? = some (rowO r)) → mapO (mapO (rs H 39)) ((rs'.zipIdx k).map fun p => [PV.ref (p.2 + 2) 0 0 p.1.length]) = some (rs'.map (lsD intD)) := by
  intro rs'
  induction rs' with
  | nil => intro k _; rfl
  | cons r rs' ih =>
    intro k hH
    have h0 := hH 0 r rfl
    rw [Nat.add_zero] at h0
    have h1 := ih (k + 1) (fun j q hq => by rw [show k + 1 + j + 2 = k + (j + 1) + 2 by omega]; exact hH (j + 1) q (by simpa using hq))
    have h2 : rs H 39 (.ref (k + 2) 0 0 r.length) = some (.rd (r.map intD)) := by
      rw [rs_ref39]
      simp only [Abs.rowAt, h0, if_true, List.drop_zero, rowP_take, mapO_rowP (n := 37), Option.map_some]
    simp only [List.zipIdx_cons, List.map_cons, mapO, h2, h1, lsD]
theorem subst_Canon_R {a0 r : List (List Int)} (hr : subst_Canon a0 = some r) : ∃ p hp, Lim C 46 [.d (.rd (a0.map (lsD intD)))] [] = some (p, hp) ∧ rsT hp p = some (.d (.rd (r.map (lsD intD)))) := by
  simp only [subst_Canon] at hr
  replace hr := gsome hr
  obtain ⟨hl, hr⟩ := hr
  replace hr := gsome hr
  obtain ⟨ht, hr⟩ := hr
  replace hr := Option.some.inj hr
  subst hr
  have ht' : ∀ t ∈ a0, t.length * 8 ≤ 140737488355328 := fun t h => by
    have := List.all_eq_true.1 (of_eq_true ht) t h
    simpa using this
  have hl' := of_eq_true hl
  have hlp := cnOLoop (l := a0) (by omega) ht' a0.length 0 [] [] (by omega) rfl
  have h0 : ((0 : Int) ≤ (a0.length : Int)) = True := eq_true (by omega)
  have hm : ((24 : Nat) : Int) * (a0.length : Int) ≤ 140737488355328 := by omega
  have hm' : (((24 : Nat) : Int) * (a0.length : Int) ≤ 140737488355328) = True := eq_true hm
  have hcell : cellsOf [] a0.length = List.replicate a0.length [.d (.rd [])] := by unfold cellsOf; simp
  simp only [cnO, hcell, List.drop_zero, List.nil_append, List.map_nil, Int.natCast_zero, mapP_nil] at hlp
  refine ⟨_, _, Lim_A is46 (h' := .map (mapP keyI intD (canMap [] a0)) :: .row false 0 1 (cellsOf (canRows [] a0) a0.length) :: (canRows [] a0).map rowO) (Nat.le_of_ble_eq_true rfl) (env := [(0, .d (.rd (a0.map (lsD intD)))), (2, .ref 1 0 0 a0.length), (3, .mp 0), (4, .ref 1 0 0 a0.length), (15, .d (.rd (a0.map (lsD intD)))), (16, PI a0.length), (17, PI a0.length)]) (e := .ret) ?_ (.inr rfl) (vs := [.ref 1 0 0 a0.length]) rfl, ?_⟩
  · simp (config := {decide := true}) only [c46, c46_r8, c46_r9, c46_r10, c46_r11, c46_r12, c46_r13, c46_r14, c46_r15, c46_r4, c46_r5, c46_r6, c46_r7, c46_r16, c46_r0, c46_r1, c46_r2, c46_r3, c46_r17, callEnv, go_sem, Int.reduceToNat, Nat.reduceAdd, Nat.reduceLT, Nat.reduceMul, Nat.reducePow, reduceCtorEq, h0, hm', Int.toNat_natCast, hlp, setl]
  · rw [resOf, rsT_ref, rs_ref]
    have hlen : (canRows [] a0).length = a0.length := canRows_len _ _
    have hc2 : cellsOf (canRows [] a0) a0.length = ((canRows [] a0).zipIdx.map fun p => [PV.ref (p.2 + 2) 0 0 p.1.length]) := by unfold cellsOf; rw [hlen]; simp
    simp only [Abs.rowAt, List.getElem?_cons_succ, List.getElem?_cons_zero, if_true, List.drop_zero]
    have hcl : (cellsOf (canRows [] a0) a0.length).take a0.length = cellsOf (canRows [] a0) a0.length := List.take_of_length_le (by rw [cellsOf_len (by omega)]; omega)
    rw [hcl, hc2]
    rw [mapO_cells (canRows [] a0) 0 (fun j r hj => by rw [show 0 + j + 2 = j + 1 + 1 by omega, List.getElem?_cons_succ, List.getElem?_cons_succ, List.getElem?_map, hj]; rfl)]
    rfl
theorem subst_Canon_o {a0 r : List (List Int)} (hr : subst_Canon a0 = some r) {h : AHeap} {args : List PV} (ha : mapO (rs h depth) args = some [.rd (a0.map (lsD intD))]) : callP C (Lim C) 46 args h = some (.d (.rd (r.map (lsD intD))), if scalar (.d (.rd (r.map (lsD intD)))) = true then h else freezeAll (args.flatMap (reach h depth)) h) := call_own rfl rfl rfl (subst_Canon_R hr) ha
end

def b19_0 : ACode := .seq (.reg [] [] [.K 22 (.bin .lss (.tmp 21) (.tmp 20))]) (.seq (.cond (.tmp 22) (some 22) (.skip) (.exit 0)) (.seq (.block 1 272630016 (.seq (.reg [] [] [.T 23 (.ix 1 (.tmp 19) (.tmp 21)), .T 24 (.load none (.tmp 23)), .N 8 24]) (.seq (.reg [] [] [.M 25 0, .M 26 8, .T 27 (.call 37 [.tmp 25, .tmp 26]), .K 28 (.bin .neq (.tmp 27) (cI 0))]) (.cond (.tmp 28) (some 28) (.seq (.reg [] [] [.K 6 (.mv (.const (.bool false)))]) (.ret)) (.skip))))) (.reg [] [] [.T 29 (.bin .add (.tmp 21) (cI 1)), .N 21 29])))
def c19 : ACode := .seq (.reg [] [] [.K 4 (.box (.tmp 1)), .K 5 (.box (.tmp 2)), .K 6 (.mv (.const (.bool false)))]) (.seq (.seq (.reg [] [(19, 0)] [.T 11 (.fa 0 (.tmp 4)), .T 12 (.load none (.tmp 11)), .T 13 (.fa 1 (.tmp 4)), .T 14 (.load none (.tmp 13)), .T 15 (.fa 0 (.tmp 5)), .T 16 (.load none (.tmp 15)), .T 17 (.fa 1 (.tmp 5)), .T 18 (.load none (.tmp 17)), .K 19 (.lit 1 [(0, .tmp 12), (1, .tmp 14), (2, .tmp 16), (3, .tmp 18)]), .K 20 (.len (.tmp 19)), .K 21 (.mv (cI 0))]) (.block 0 272630016 (.loop b19_0))) (.seq (.reg [] [] [.T 30 (.fa 0 (.tmp 4)), ⟨some (31, false), .load none (.tmp 30), none, true, false⟩, .T 32 (.fa 1 (.tmp 4)), ⟨some (33, false), .load none (.tmp 32), none, true, false⟩, .T 34 (.lit 1 [(0, .tmp 31), (1, .tmp 33)]), ⟨some (35, false), .call 46 [.tmp 34], none, true, false⟩, .T 36 (.fa 0 (.tmp 5)), ⟨some (37, false), .load none (.tmp 36), none, true, false⟩, .T 38 (.fa 1 (.tmp 5)), ⟨some (39, false), .load none (.tmp 38), none, true, false⟩, .T 40 (.lit 1 [(0, .tmp 37), (1, .tmp 39)]), ⟨some (41, false), .call 46 [.tmp 40], none, true, false⟩, .N 9 35, .N 10 41]) (.seq (.reg [] [] [.M 42 9, ⟨some (43, false), .ix 1 (.tmp 42) (cI 0), none, true, false⟩, ⟨some (44, false), .load none (.tmp 43), none, true, false⟩, .M 45 10, ⟨some (46, false), .ix 1 (.tmp 45) (cI 0), none, true, false⟩, ⟨some (47, false), .load none (.tmp 46), none, true, false⟩, ⟨some (48, false), .call 41 [.tmp 44, .tmp 47], none, true, false⟩, .M 49 48, .MG 50 49 true 9, ⟨some (51, false), .ix 1 (.tmp 50) (cI 1), some (49, true), true, false⟩, ⟨some (52, false), .load none (.tmp 51), some (49, true), true, false⟩, .MG 53 49 true 10, ⟨some (54, false), .ix 1 (.tmp 53) (cI 1), some (49, true), true, false⟩, ⟨some (55, false), .load none (.tmp 54), some (49, true), true, false⟩, ⟨some (56, false), .call 41 [.tmp 52, .tmp 55], some (49, true), true, false⟩, .T 57 (.pick (.tmp 49) (.tmp 56) (.const (.bool false))), .N 6 57]) (.ret))))
theorem is19 : IsF C 19 58 276301687 c19 [.tmp 6] := ⟨⟨Tryd.f19, _, C_P ▸ Tryd.func19, rfl, rfl, rfl, by kernel_rfl, rfl⟩⟩
def match_Variant_S0 (s0 : List Symbol) (s1 : Rule) (s2 : Rule) (s19 : List (List Int)) (b4_0 : List Int) (b4_1 : List Int) (b5_0 : List Int) (b5_1 : List Int) : Int → Unit → St := fun s21 _ => ⟨[(0, .d (.rd (s0.map encSymbol))), (1, .d (.ag (encRule s1))), (2, .d (.ag (encRule s2))), (4, .ptr 0 0 0 0), (5, .ptr 1 0 0 0), (6, PB false), (19, .d (.rd (s19.map (lsD intD)))), (20, PI 4), (21, PI s21)], (.row false 0 2 [[.d (.rd (b4_0.map intD)), .d (.rd (b4_1.map intD))]] :: (.row false 0 2 [[.d (.rd (b5_0.map intD)), .d (.rd (b5_1.map intD))]] :: []))⟩
def match_Variant_X0 (s0 : List Symbol) (s1 : Rule) (s2 : Rule) (s19 : List (List Int)) (b4_0 : List Int) (b4_1 : List Int) (b5_0 : List Int) (b5_1 : List Int) : (Bool ⊕ Int) → AExit × St → Prop
  | .inl r, q => q.1 = .ret ∧ RetOK C [.tmp 6] q.2 (PB r)
  | .inr s21, q => q = (.exit 0, ⟨[(0, .d (.rd (s0.map encSymbol))), (1, .d (.ag (encRule s1))), (2, .d (.ag (encRule s2))), (4, .ptr 0 0 0 0), (5, .ptr 1 0 0 0), (6, PB false), (19, .d (.rd (s19.map (lsD intD)))), (20, PI 4), (21, PI s21)], (.row false 0 2 [[.d (.rd (b4_0.map intD)), .d (.rd (b4_1.map intD))]] :: (.row false 0 2 [[.d (.rd (b5_0.map intD)), .d (.rd (b5_1.map intD))]] :: []))⟩)
set_option maxHeartbeats 4000000 in
theorem match_Variant_R0 (s0 : List Symbol) (s1 : Rule) (s2 : Rule) (s19 : List (List Int)) (b4_0 : List Int) (b4_1 : List Int) (b5_0 : List Int) (b5_1 : List Int) : ∀ (s : Int) (g : Unit) r, match_Variant_l0 s0 s1 s2 s19 b4_0 b4_1 b5_0 b5_1 s = some r → Sum.elim (fun s' => ∃ g', semA C (Lim C) 276301687 b19_0 (match_Variant_S0 s0 s1 s2 s19 b4_0 b4_1 b5_0 b5_1 s g) = some (.normal, match_Variant_S0 s0 s1 s2 s19 b4_0 b4_1 b5_0 b5_1 s' g')) (fun x => ∃ q, semA C (Lim C) 276301687 b19_0 (match_Variant_S0 s0 s1 s2 s19 b4_0 b4_1 b5_0 b5_1 s g) = some q ∧ q.1 ≠ .normal ∧ match_Variant_X0 s0 s1 s2 s19 b4_0 b4_1 b5_0 b5_1 x q) r := by
  intro s g r hr
  have ⟨s21, hs0⟩ : ∃ y, y = s := ⟨_, rfl⟩
  subst hs0
  simp only [match_Variant_l0] at hr
  rcases Classical.propComplete (s21 < 4) with h1 | h1
  simp only [h1, if_true] at hr
  obtain ⟨x1, h2, hr⟩ := bsome hr
  obtain ⟨x2, h3, hr⟩ := bsome hr
  have h3k := fun h => term_Check_k (h := h) h3
  try simp only [go_sem] at h3k
  rcases Classical.propComplete (x2 = 0) with h4 | h4
  simp only [h4, if_true] at hr
  obtain rfl := Option.some.inj hr
  refine ⟨(), ?_⟩
  rotate_left
  simp only [h4, if_false] at hr
  obtain rfl := Option.some.inj hr
  refine ⟨(.ret, ⟨[(0, .d (.rd (s0.map encSymbol))), (1, .d (.ag (encRule s1))), (2, .d (.ag (encRule s2))), (4, .ptr 0 0 0 0), (5, .ptr 1 0 0 0), (6, PB false), (8, .d (.rd (x1.map intD))), (19, .d (.rd (s19.map (lsD intD)))), (20, PI 4), (21, PI s21)], (.row false 0 2 [[.d (.rd (b4_0.map intD)), .d (.rd (b4_1.map intD))]] :: (.row false 0 2 [[.d (.rd (b5_0.map intD)), .d (.rd (b5_1.map intD))]] :: []))⟩), ?_, nofun, rfl, [PB false], rfl, ?_⟩
  rotate_left 2
  simp only [h1, if_false] at hr
  obtain rfl := Option.some.inj hr
  refine ⟨(.exit 0, ⟨[(0, .d (.rd (s0.map encSymbol))), (1, .d (.ag (encRule s1))), (2, .d (.ag (encRule s2))), (4, .ptr 0 0 0 0), (5, .ptr 1 0 0 0), (6, PB false), (19, .d (.rd (s19.map (lsD intD)))), (20, PI 4), (21, PI s21)], (.row false 0 2 [[.d (.rd (b4_0.map intD)), .d (.rd (b4_1.map intD))]] :: (.row false 0 2 [[.d (.rd (b5_0.map intD)), .d (.rd (b5_1.map intD))]] :: []))⟩), ?_, nofun, rfl⟩
  rotate_left
  all_goals (simp (config := {decide := true}) only [go_sem, Int.reduceToNat, Nat.reduceAdd, Nat.reduceLT, Nat.reduceMul, Nat.reducePow, reduceCtorEq, match_Variant_S0, b19_0, *])
theorem match_Variant_L0 {s0 : List Symbol} {s1 : Rule} {s2 : Rule} {s19 : List (List Int)} {b4_0 : List Int} {b4_1 : List Int} {b5_0 : List Int} {b5_1 : List Int} {s : Int} {g : Unit} {x} (h : wh (match_Variant_l0 s0 s1 s2 s19 b4_0 b4_1 b5_0 b5_1) s = some x) : ∃ q, loopLim (semA C (Lim C) 276301687 b19_0) (match_Variant_S0 s0 s1 s2 s19 b4_0 b4_1 b5_0 b5_1 s g) = some q ∧ match_Variant_X0 s0 s1 s2 s19 b4_0 b4_1 b5_0 b5_1 x q := wh_sim (match_Variant_R0 s0 s1 s2 s19 b4_0 b4_1 b5_0 b5_1) h
set_option maxHeartbeats 4000000 in
theorem match_Variant_R {a0 : List Symbol} {a1 : Rule} {a2 : Rule} {r : Bool} (hr : match_Variant a0 a1 a2 = some r) : ∃ p hp, Lim C 19 [.d (.rd (a0.map encSymbol)), .d (.ag (encRule a1)), .d (.ag (encRule a2))] [] = some (p, hp) ∧ rsT hp p = some (PB r) := by
  simp only [match_Variant] at hr
  obtain ⟨x3, h1, hr⟩ := bsome hr
  obtain ⟨q1, h1L, h1X⟩ := match_Variant_L0 (g := ()) h1
  rcases x3 with x4 | x5
  simp only [match_Variant_X0, match_Variant_S0] at h1X h1L
  obtain ⟨e1, st1⟩ := q1
  obtain ⟨rfl, h1R⟩ := h1X
  try simp only [go_sem, Nat.reduceAdd] at h1L
  obtain rfl := Option.some.inj hr
  refine run_ok is19 (Nat.le_of_ble_eq_true rfl) ?_ (.inr rfl) h1R
  rotate_left
  simp only [match_Variant_X0, match_Variant_S0] at h1X h1L
  subst h1X
  try simp only [go_sem, Nat.reduceAdd] at h1L
  obtain ⟨x6, h2, hr⟩ := bsome hr
  have h2k := fun h => subst_Canon_o (h := h) (args := [.im true [[.d (.rd (a1.L.map intD))], [.d (.rd (a1.R.map intD))]]]) h2 rfl
  try simp only [go_sem] at h2k
  obtain ⟨x7, h3, hr⟩ := bsome hr
  have h3k := fun h => subst_Canon_o (h := h) (args := [.im true [[.d (.rd (a2.L.map intD))], [.d (.rd (a2.R.map intD))]]]) h3 rfl
  try simp only [go_sem] at h3k
  obtain ⟨x8, h4, hr⟩ := bsome hr
  obtain ⟨x9, h5, hr⟩ := bsome hr
  obtain ⟨x10, h6, hr⟩ := bsome hr
  have h6k := fun h => slices_Equal_s_int_int_k (h := h) h6
  try simp only [go_sem] at h6k
  cases h7 : x10
  simp only [h7, Bool.false_eq_true, if_false] at hr
  obtain rfl := Option.some.inj hr
  refine run_ok is19 (Nat.le_of_ble_eq_true rfl) (q := (.ret, ⟨[(0, .d (.rd (a0.map encSymbol))), (1, .d (.ag (encRule a1))), (2, .d (.ag (encRule a2))), (4, .ptr 0 0 0 0), (5, .ptr 1 0 0 0), (6, PB false), (9, .d (.rd (x6.map (lsD intD)))), (10, .d (.rd (x7.map (lsD intD)))), (19, .d (.rd (([a1.L, a1.R, a2.L, a2.R] : List (List Int)).map (lsD intD)))), (20, PI 4), (21, PI x5)], (.row false 0 2 [[.d (.rd (a1.L.map intD)), .d (.rd (a1.R.map intD))]] :: (.row false 0 2 [[.d (.rd (a2.L.map intD)), .d (.rd (a2.R.map intD))]] :: []))⟩)) ?_ (.inr rfl) ⟨[PB false], rfl, ?_⟩
  rotate_left 2
  simp only [h7, if_true] at hr
  obtain ⟨x11, h8, hr⟩ := bsome hr
  obtain ⟨x12, h9, hr⟩ := bsome hr
  obtain ⟨x13, h10, hr⟩ := bsome hr
  have h10k := fun h => slices_Equal_s_int_int_k (h := h) h10
  try simp only [go_sem] at h10k
  obtain rfl := Option.some.inj hr
  refine run_ok is19 (Nat.le_of_ble_eq_true rfl) (q := (.ret, ⟨[(0, .d (.rd (a0.map encSymbol))), (1, .d (.ag (encRule a1))), (2, .d (.ag (encRule a2))), (4, .ptr 0 0 0 0), (5, .ptr 1 0 0 0), (6, PB x13), (9, .d (.rd (x6.map (lsD intD)))), (10, .d (.rd (x7.map (lsD intD)))), (19, .d (.rd (([a1.L, a1.R, a2.L, a2.R] : List (List Int)).map (lsD intD)))), (20, PI 4), (21, PI x5)], (.row false 0 2 [[.d (.rd (a1.L.map intD)), .d (.rd (a1.R.map intD))]] :: (.row false 0 2 [[.d (.rd (a2.L.map intD)), .d (.rd (a2.R.map intD))]] :: []))⟩)) ?_ (.inr rfl) ⟨[PB x13], rfl, ?_⟩
  rotate_left 2
  all_goals (simp (config := {decide := true}) only [go_sem, Int.reduceToNat, Nat.reduceAdd, Nat.reduceLT, Nat.reduceMul, Nat.reducePow, reduceCtorEq, callEnv, c19, *])
theorem match_Variant_o {a0 : List Symbol} {a1 : Rule} {a2 : Rule} {r : Bool} (hr : match_Variant a0 a1 a2 = some r) {h : AHeap} {args : List PV} (ha : mapO (rs h depth) args = some [.rd (a0.map encSymbol), .ag (encRule a1), .ag (encRule a2)]) : callP C (Lim C) 19 args h = some (PB r, if scalar (PB r) = true then h else freezeAll (args.flatMap (reach h depth)) h) := call_own rfl rfl rfl (match_Variant_R hr) ha
def c14 : ACode := .seq (.reg [] [] [.K 0 (.mv (.const (.bool false)))]) (.seq (.reg [] [] [.T 9 (.call 36 []), .N 1 9]) (.seq (.reg [] [] [.M 11 1, .T 12 (.lit 1 [(0, .const (.int .i64 2)), (1, .const (.int .i64 (-1))), (2, .const (.int .i64 (-2)))]), .T 13 (.lit 1 [(0, .const (.int .i64 2)), (1, .const (.int .i64 1)), (2, .const (.int .i64 0)), (3, .const (.int .i64 0))]), .T 14 (.call 15 [.tmp 11, .tmp 12, .tmp 13]), .M 10 14, .T 15 (.ext (.tmp 10) 0), .T 16 (.ext (.tmp 10) 1), .N 2 15, .N 3 16]) (.seq (.reg [] [] [.M 18 1, .T 19 (.lit 1 [(0, .const (.int .i64 2)), (1, .const (.int .i64 (-1))), (2, .const (.int .i64 (-1)))]), .T 20 (.lit 1 [(0, .const (.int .i64 2)), (1, .const (.int .i64 0)), (2, .const (.int .i64 1)), (3, .const (.int .i64 0))]), .T 21 (.call 15 [.tmp 18, .tmp 19, .tmp 20]), .M 17 21, .T 22 (.ext (.tmp 17) 0), .T 23 (.ext (.tmp 17) 1), .M 4 22, .N 5 23]) (.seq (.reg [] [] [.M 24 2, ⟨some (25, false), .lit 1 [(0, .const (.int .i64 1)), (1, .const (.int .i64 0))], none, false, true⟩, .T 26 (.build [(0, 1), (1, 1)] [.d (.v (.int .i64 0)), .im true []] [(0, .const (.int .i64 0)), (1, .tmp 25)]), ⟨some (27, false), .lit 1 [(0, .const (.int .i64 0))], none, false, true⟩, .T 28 (.build [(0, 1), (1, 1)] [.d (.v (.int .i64 0)), .im true []] [(0, .const (.int .i64 1)), (1, .tmp 27)]), .T 29 (.lit 2 [(0, .tmp 26), (1, .tmp 28)]), .T 30 (.call 17 [.tmp 24, .tmp 29]), .N 6 30]) (.seq (.reg [] [] [.M 31 1, ⟨some (32, false), .lit 1 [(0, .const (.int .i64 2)), (1, .const (.int .i64 (-1))), (2, .const (.int .i64 (-2)))], none, false, true⟩, ⟨some (33, false), .lit 1 [(0, .const (.int .i64 (-1)))], none, false, true⟩, .T 34 (.build [(0, 1), (1, 1)] [.im true [], .im true []] [(0, .tmp 32), (1, .tmp 33)]), ⟨some (35, false), .lit 1 [(0, .const (.int .i64 2)), (1, .const (.int .i64 (-7))), (2, .const (.int .i64 (-3)))], none, false, true⟩, ⟨some (36, false), .lit 1 [(0, .const (.int .i64 (-7)))], none, false, true⟩, .T 37 (.build [(0, 1), (1, 1)] [.im true [], .im true []] [(0, .tmp 35), (1, .tmp 36)]), .T 38 (.call 19 [.tmp 31, .tmp 34, .tmp 37]), .N 7 38]) (.seq (.reg [] [] [.M 39 1, ⟨some (40, false), .lit 1 [(0, .const (.int .i64 2)), (1, .const (.int .i64 (-1))), (2, .const (.int .i64 (-2)))], none, false, true⟩, ⟨some (41, false), .lit 1 [(0, .const (.int .i64 (-1)))], none, false, true⟩, .T 42 (.build [(0, 1), (1, 1)] [.im true [], .im true []] [(0, .tmp 40), (1, .tmp 41)]), ⟨some (43, false), .lit 1 [(0, .const (.int .i64 2)), (1, .const (.int .i64 (-7))), (2, .const (.int .i64 (-3)))], none, false, true⟩, ⟨some (44, false), .lit 1 [(0, .const (.int .i64 (-3)))], none, false, true⟩, .T 45 (.build [(0, 1), (1, 1)] [.im true [], .im true []] [(0, .tmp 43), (1, .tmp 44)]), .T 46 (.call 19 [.tmp 39, .tmp 42, .tmp 45]), .N 8 46]) (.seq (.reg [] [] [.M 47 6, .M 48 47, .MG 49 48 true 3, .T 50 (.pick (.tmp 48) (.tmp 49) (.const (.bool false))), .M 51 50, .MG 52 51 true 5, .TG 53 51 true (.not (.tmp 52)), .T 54 (.pick (.tmp 51) (.tmp 53) (.const (.bool false))), .M 55 54, .MG 56 55 true 7, .T 57 (.pick (.tmp 55) (.tmp 56) (.const (.bool false))), .M 58 57, .MG 59 58 true 8, .TG 60 58 true (.not (.tmp 59)), .T 61 (.pick (.tmp 58) (.tmp 60) (.const (.bool false))), .N 0 61]) (.ret))))))))
theorem is14 : IsF C 14 62 495 c14 [.tmp 0] := ⟨⟨Tryd.f14, _, C_P ▸ Tryd.func14, rfl, rfl, rfl, by kernel_rfl, rfl⟩⟩
set_option maxHeartbeats 4000000 in
theorem l05_shown_R  {r : Bool} (hr : l05_shown = some r) : ∃ p hp, Lim C 14 [] [] = some (p, hp) ∧ rsT hp p = some (PB r) := by
  simp only [l05_shown] at hr
  obtain ⟨x1, h1, hr⟩ := bsome hr
  have h1k := fun h => l05_three_k (h := h) h1
  try simp only [go_sem] at h1k
  obtain ⟨x2, h2, hr⟩ := bsome hr
  have h2k := fun h => match_Match_o (h := h) (args := [.d (.rd (x1.map encSymbol)), .im true [[PI 2], [PI (-1)], [PI (-2)]], .im true [[PI 2], [PI 1], [PI 0], [PI 0]]]) h2 rfl
  try simp only [go_sem] at h2k
  obtain ⟨x3, h3, hr⟩ := bsome hr
  have h3k := fun h => match_Match_o (h := h) (args := [.d (.rd (x1.map encSymbol)), .im true [[PI 2], [PI (-1)], [PI (-1)]], .im true [[PI 2], [PI 0], [PI 1], [PI 0]]]) h3 rfl
  try simp only [go_sem] at h3k
  obtain ⟨x4, h4, hr⟩ := bsome hr
  have h4k := fun h => l05_same_o (h := h) (args := [.d (.rd (x2.1.map encBind)), .im true [[PI 0, .d (.rd (([1, 0] : List Int).map intD))], [PI 1, .d (.rd (([0] : List Int).map intD))]]]) h4 rfl
  try simp only [go_sem] at h4k
  obtain ⟨x5, h5, hr⟩ := bsome hr
  have h5k := fun h => match_Variant_o (h := h) (args := [.d (.rd (x1.map encSymbol)), .ag [.d (.rd (([2, (-1), (-2)] : List Int).map intD)), .d (.rd (([(-1)] : List Int).map intD))], .ag [.d (.rd (([2, (-7), (-3)] : List Int).map intD)), .d (.rd (([(-7)] : List Int).map intD))]]) h5 rfl
  try simp only [go_sem] at h5k
  obtain ⟨x6, h6, hr⟩ := bsome hr
  have h6k := fun h => match_Variant_o (h := h) (args := [.d (.rd (x1.map encSymbol)), .ag [.d (.rd (([2, (-1), (-2)] : List Int).map intD)), .d (.rd (([(-1)] : List Int).map intD))], .ag [.d (.rd (([2, (-7), (-3)] : List Int).map intD)), .d (.rd (([(-3)] : List Int).map intD))]]) h6 rfl
  try simp only [go_sem] at h6k
  cases h7 : x4
  simp only [h7, Bool.false_eq_true, if_false] at hr
  obtain rfl := Option.some.inj hr
  refine run_ok is14 (Nat.le_of_ble_eq_true rfl) (q := (.ret, ⟨[(0, PB false), (1, .d (.rd (x1.map encSymbol))), (2, .d (.rd (x2.1.map encBind))), (3, PB x2.2), (5, PB x3.2), (6, PB x4), (7, PB x5), (8, PB x6)], []⟩)) ?_ (.inr rfl) ⟨[PB false], rfl, ?_⟩
  rotate_left 2
  simp only [h7, if_true] at hr
  cases h8 : x2.2
  simp only [h8, Bool.false_eq_true, if_false] at hr
  obtain rfl := Option.some.inj hr
  refine run_ok is14 (Nat.le_of_ble_eq_true rfl) (q := (.ret, ⟨[(0, PB false), (1, .d (.rd (x1.map encSymbol))), (2, .d (.rd (x2.1.map encBind))), (3, PB x2.2), (5, PB x3.2), (6, PB x4), (7, PB x5), (8, PB x6)], []⟩)) ?_ (.inr rfl) ⟨[PB false], rfl, ?_⟩
  rotate_left 2
  simp only [h8, if_true] at hr
  cases h9 : x3.2
  simp only [h9, Bool.false_eq_true, if_false] at hr
  cases h10 : x5
  simp only [h10, Bool.false_eq_true, if_false] at hr
  obtain rfl := Option.some.inj hr
  refine run_ok is14 (Nat.le_of_ble_eq_true rfl) (q := (.ret, ⟨[(0, PB false), (1, .d (.rd (x1.map encSymbol))), (2, .d (.rd (x2.1.map encBind))), (3, PB x2.2), (5, PB x3.2), (6, PB x4), (7, PB x5), (8, PB x6)], []⟩)) ?_ (.inr rfl) ⟨[PB false], rfl, ?_⟩
  rotate_left 2
  simp only [h10, if_true] at hr
  obtain rfl := Option.some.inj hr
  refine run_ok is14 (Nat.le_of_ble_eq_true rfl) (q := (.ret, ⟨[(0, PB (!x6)), (1, .d (.rd (x1.map encSymbol))), (2, .d (.rd (x2.1.map encBind))), (3, PB x2.2), (5, PB x3.2), (6, PB x4), (7, PB x5), (8, PB x6)], []⟩)) ?_ (.inr rfl) ⟨[PB (!x6)], rfl, ?_⟩
  rotate_left 2
  simp only [h9, if_true] at hr
  obtain rfl := Option.some.inj hr
  refine run_ok is14 (Nat.le_of_ble_eq_true rfl) (q := (.ret, ⟨[(0, PB false), (1, .d (.rd (x1.map encSymbol))), (2, .d (.rd (x2.1.map encBind))), (3, PB x2.2), (5, PB x3.2), (6, PB x4), (7, PB x5), (8, PB x6)], []⟩)) ?_ (.inr rfl) ⟨[PB false], rfl, ?_⟩
  rotate_left 2
  all_goals (simp (config := {decide := true}) only [go_sem, Int.reduceToNat, Nat.reduceAdd, Nat.reduceLT, Nat.reduceMul, Nat.reducePow, reduceCtorEq, callEnv, c14, *])
theorem l05_shown_k  {r : Bool} (hr : l05_shown = some r) {h : AHeap} : callP C (Lim C) 14 [] h = some (PB r, h) := call_of (ds := []) rfl rfl rfl (l05_shown_R hr) h
def b95_0 : ACode := .seq (.reg [] [] [.K 8 (.nxt (.tmp 7) true), .K 9 (.ext (.tmp 8) 0)]) (.seq (.cond (.tmp 9) (some 9) (.skip) (.exit 0)) (.block 1 800 (.seq (.reg [] [] [.T 10 (.ext (.tmp 8) 2), .N 5 10]) (.reg [] [] [.M 11 3, .M 12 5, .T 13 (.toStr (.tmp 12)), .T 14 (.bin .add (.tmp 11) (.tmp 13)), .N 3 14]))))
def c95 : ACode := .seq (.reg [] [] [.K 2 (.mv (.const (.bool false)))]) (.seq (.reg [] [] [.K 3 (.mv (.const (.string { data := #[] })))]) (.seq (.seq (.reg [] [] [.M 6 0, .K 7 (.rng (.tmp 6))]) (.block 0 800 (.loop b95_0))) (.seq (.reg [] [] [.M 15 3, .M 16 0, .T 17 (.bin .eql (.tmp 15) (.tmp 16)), .N 2 17]) (.ret))))
theorem is95 : IsF C 95 18 941 c95 [.tmp 2] := ⟨⟨Tryd.f95, _, C_P ▸ Tryd.func95, rfl, rfl, rfl, by kernel_rfl, rfl⟩⟩
def r03_good_S0 (s0 : ByteArray) (t7 : ByteArray) : ByteArray × Nat → Unit → St := fun (s3, q7) _ => ⟨[(0, .d (.v (.string s0))), (2, PB false), (3, .d (.v (.string s3))), (7, .it 0)], (.siter t7 q7 :: [])⟩
def r03_good_X0 (s0 : ByteArray) (t7 : ByteArray) : (ByteArray × Nat) → AExit × St → Prop := fun (s3, q7) q => ∃ d8 : PV, q = (.exit 0, ⟨[(0, .d (.v (.string s0))), (2, PB false), (3, .d (.v (.string s3))), (7, .it 0), (8, d8)], (.siter t7 q7 :: [])⟩)
set_option maxHeartbeats 4000000 in
theorem r03_good_R0 (s0 : ByteArray) (t7 : ByteArray) : ∀ (s : ByteArray × Nat) (g : Unit) r, r03_good_l0 s0 t7 s = some r → Sum.elim (fun s' => ∃ g', semA C (Lim C) 941 b95_0 (r03_good_S0 s0 t7 s g) = some (.normal, r03_good_S0 s0 t7 s' g')) (fun x => ∃ q, semA C (Lim C) 941 b95_0 (r03_good_S0 s0 t7 s g) = some q ∧ q.1 ≠ .normal ∧ r03_good_X0 s0 t7 x q) r := by
  intro s g r hr
  obtain ⟨s3, q7⟩ := s
  simp only [r03_good_l0] at hr
  rcases Classical.propComplete (q7 < t7.size) with h1 | h1
  simp only [h1, if_true] at hr
  obtain ⟨h2, hr⟩ := gsome hr
  obtain rfl := Option.some.inj hr
  refine ⟨(), ?_⟩
  rotate_left
  simp only [h1, if_false] at hr
  obtain rfl := Option.some.inj hr
  refine ⟨(.exit 0, ⟨[(0, .d (.v (.string s0))), (2, PB false), (3, .d (.v (.string s3))), (7, .it 0), (8, (.tp [PB false]))], (.siter t7 q7 :: [])⟩), ?_, nofun, .tp [PB false], rfl⟩
  rotate_left
  all_goals (simp (config := {decide := true}) only [go_sem, Int.reduceToNat, Nat.reduceAdd, Nat.reduceLT, Nat.reduceMul, Nat.reducePow, reduceCtorEq, r03_good_S0, b95_0, *])
theorem r03_good_L0 {s0 : ByteArray} {t7 : ByteArray} {s : ByteArray × Nat} {g : Unit} {x} (h : wh (r03_good_l0 s0 t7) s = some x) : ∃ q, loopLim (semA C (Lim C) 941 b95_0) (r03_good_S0 s0 t7 s g) = some q ∧ r03_good_X0 s0 t7 x q := wh_sim (r03_good_R0 s0 t7) h
set_option maxHeartbeats 4000000 in
theorem r03_good_R {a0 : ByteArray} {r : Bool} (hr : r03_good a0 = some r) : ∃ p hp, Lim C 95 [.d (.v (.string a0))] [] = some (p, hp) ∧ rsT hp p = some (PB r) := by
  simp only [r03_good] at hr
  obtain ⟨x1, h1, hr⟩ := bsome hr
  obtain ⟨q1, h1L, h1X⟩ := r03_good_L0 (g := ()) h1
  obtain ⟨x2, x3⟩ := x1
  simp only [r03_good_X0, r03_good_S0] at h1X h1L
  obtain ⟨z4, rfl⟩ := h1X
  try simp only [go_sem, Nat.reduceAdd] at h1L
  obtain rfl := Option.some.inj hr
  refine run_ok is95 (Nat.le_of_ble_eq_true rfl) (q := (.ret, ⟨[(0, .d (.v (.string a0))), (2, PB (decide (x2 = a0))), (3, .d (.v (.string x2))), (7, .it 0)], (.siter a0 x3 :: [])⟩)) ?_ (.inr rfl) ⟨[PB (decide (x2 = a0))], rfl, ?_⟩
  rotate_left 2
  all_goals (simp (config := {decide := true}) only [go_sem, Int.reduceToNat, Nat.reduceAdd, Nat.reduceLT, Nat.reduceMul, Nat.reducePow, reduceCtorEq, callEnv, c95, *])
theorem r03_good_k {a0 : ByteArray} {r : Bool} (hr : r03_good a0 = some r) {h : AHeap} : callP C (Lim C) 95 [.d (.v (.string a0))] h = some (PB r, h) := call_of (ds := [.v (.string a0)]) rfl rfl rfl (r03_good_R hr) h
def c96 : ACode := .seq (.reg [] [] [.K 2 (.mv (.const (.bool false)))]) (.seq (.reg [] [] [.M 3 0, .T 4 (.bin .geq (.tmp 3) (.const (.int .i32 97))), .M 5 4, .MG 6 5 true 0, .TG 7 5 true (.bin .leq (.tmp 6) (.const (.int .i32 122))), .T 8 (.pick (.tmp 5) (.tmp 7) (.const (.bool false))), .M 9 8, .MG 10 9 false 0, .TG 11 9 false (.bin .geq (.tmp 10) (.const (.int .i32 65))), .MG 12 9 false 11, .MG 13 12 true 0, .TG 14 12 true (.bin .leq (.tmp 13) (.const (.int .i32 90))), .TG 15 9 false (.pick (.tmp 12) (.tmp 14) (.const (.bool false))), .T 16 (.pick (.tmp 9) (.const (.bool true)) (.tmp 15)), .M 17 16, .MG 18 17 false 0, .TG 19 17 false (.bin .geq (.tmp 18) (.const (.int .i32 128))), .T 20 (.pick (.tmp 17) (.const (.bool true)) (.tmp 19)), .N 2 20]) (.ret))
theorem is96 : IsF C 96 21 5 c96 [.tmp 2] := ⟨⟨Tryd.f96, _, C_P ▸ Tryd.func96, rfl, rfl, rfl, by kernel_rfl, rfl⟩⟩
set_option maxHeartbeats 4000000 in
theorem r03_letter_R {a0 : Int} {r : Bool} (hr : r03_letter a0 = some r) : ∃ p hp, Lim C 96 [.d (.v (.int .i32 a0))] [] = some (p, hp) ∧ rsT hp p = some (PB r) := by
  simp only [r03_letter] at hr
  rcases Classical.propComplete (97 ≤ a0) with h1 | h1
  simp only [h1, if_true] at hr
  rcases Classical.propComplete (a0 ≤ 122) with h2 | h2
  simp only [h2, if_true] at hr
  obtain rfl := Option.some.inj hr
  refine run_ok is96 (Nat.le_of_ble_eq_true rfl) (q := (.ret, ⟨[(0, .d (.v (.int .i32 a0))), (2, PB true)], []⟩)) ?_ (.inr rfl) ⟨[PB true], rfl, ?_⟩
  rotate_left 2
  simp only [h2, if_false] at hr
  rcases Classical.propComplete (65 ≤ a0) with h3 | h3
  simp only [h3, if_true] at hr
  rcases Classical.propComplete (a0 ≤ 90) with h4 | h4
  simp only [h4, if_true] at hr
  obtain rfl := Option.some.inj hr
  refine run_ok is96 (Nat.le_of_ble_eq_true rfl) (q := (.ret, ⟨[(0, .d (.v (.int .i32 a0))), (2, PB true)], []⟩)) ?_ (.inr rfl) ⟨[PB true], rfl, ?_⟩
  rotate_left 2
  simp only [h4, if_false] at hr
  obtain rfl := Option.some.inj hr
  refine run_ok is96 (Nat.le_of_ble_eq_true rfl) (q := (.ret, ⟨[(0, .d (.v (.int .i32 a0))), (2, PB (decide (128 ≤ a0)))], []⟩)) ?_ (.inr rfl) ⟨[PB (decide (128 ≤ a0))], rfl, ?_⟩
  rotate_left 2
  simp only [h3, if_false] at hr
  obtain rfl := Option.some.inj hr
  refine run_ok is96 (Nat.le_of_ble_eq_true rfl) (q := (.ret, ⟨[(0, .d (.v (.int .i32 a0))), (2, PB (decide (128 ≤ a0)))], []⟩)) ?_ (.inr rfl) ⟨[PB (decide (128 ≤ a0))], rfl, ?_⟩
  rotate_left 2
  simp only [h1, if_false] at hr
  rcases Classical.propComplete (65 ≤ a0) with h5 | h5
  simp only [h5, if_true] at hr
  rcases Classical.propComplete (a0 ≤ 90) with h6 | h6
  simp only [h6, if_true] at hr
  obtain rfl := Option.some.inj hr
  refine run_ok is96 (Nat.le_of_ble_eq_true rfl) (q := (.ret, ⟨[(0, .d (.v (.int .i32 a0))), (2, PB true)], []⟩)) ?_ (.inr rfl) ⟨[PB true], rfl, ?_⟩
  rotate_left 2
  simp only [h6, if_false] at hr
  obtain rfl := Option.some.inj hr
  refine run_ok is96 (Nat.le_of_ble_eq_true rfl) (q := (.ret, ⟨[(0, .d (.v (.int .i32 a0))), (2, PB (decide (128 ≤ a0)))], []⟩)) ?_ (.inr rfl) ⟨[PB (decide (128 ≤ a0))], rfl, ?_⟩
  rotate_left 2
  simp only [h5, if_false] at hr
  obtain rfl := Option.some.inj hr
  refine run_ok is96 (Nat.le_of_ble_eq_true rfl) (q := (.ret, ⟨[(0, .d (.v (.int .i32 a0))), (2, PB (decide (128 ≤ a0)))], []⟩)) ?_ (.inr rfl) ⟨[PB (decide (128 ≤ a0))], rfl, ?_⟩
  rotate_left 2
  all_goals (simp (config := {decide := true}) only [go_sem, Int.reduceToNat, Nat.reduceAdd, Nat.reduceLT, Nat.reduceMul, Nat.reducePow, reduceCtorEq, callEnv, c96, *])
theorem r03_letter_k {a0 : Int} {r : Bool} (hr : r03_letter a0 = some r) {h : AHeap} : callP C (Lim C) 96 [.d (.v (.int .i32 a0))] h = some (PB r, h) := call_of (ds := [.v (.int .i32 a0)]) rfl rfl rfl (r03_letter_R hr) h
def c97 : ACode := .seq (.reg [] [] [.K 2 (.mv (.const (.bool false)))]) (.seq (.reg [] [] [.M 3 0, .T 4 (.call 96 [.tmp 3]), .M 5 4, .MG 6 5 false 0, .TG 7 5 false (.bin .geq (.tmp 6) (.const (.int .i32 48))), .MG 8 5 false 7, .MG 9 8 true 0, .TG 10 8 true (.bin .leq (.tmp 9) (.const (.int .i32 57))), .TG 11 5 false (.pick (.tmp 8) (.tmp 10) (.const (.bool false))), .T 12 (.pick (.tmp 5) (.const (.bool true)) (.tmp 11)), .M 13 12, .MG 14 13 false 0, .TG 15 13 false (.bin .eql (.tmp 14) (.const (.int .i32 95))), .T 16 (.pick (.tmp 13) (.const (.bool true)) (.tmp 15)), .M 17 16, .MG 18 17 false 0, .TG 19 17 false (.bin .eql (.tmp 18) (.const (.int .i32 39))), .T 20 (.pick (.tmp 17) (.const (.bool true)) (.tmp 19)), .N 2 20]) (.ret))
theorem is97 : IsF C 97 21 5 c97 [.tmp 2] := ⟨⟨Tryd.f97, _, C_P ▸ Tryd.func97, rfl, rfl, rfl, by kernel_rfl, rfl⟩⟩
set_option maxHeartbeats 4000000 in
theorem r03_more_R {a0 : Int} {r : Bool} (hr : r03_more a0 = some r) : ∃ p hp, Lim C 97 [.d (.v (.int .i32 a0))] [] = some (p, hp) ∧ rsT hp p = some (PB r) := by
  simp only [r03_more] at hr
  obtain ⟨x1, h1, hr⟩ := bsome hr
  have h1k := fun h => r03_letter_k (h := h) h1
  try simp only [go_sem] at h1k
  cases h2 : x1
  simp only [h2, Bool.false_eq_true, if_false] at hr
  rcases Classical.propComplete (48 ≤ a0) with h3 | h3
  simp only [h3, if_true] at hr
  rcases Classical.propComplete (a0 ≤ 57) with h4 | h4
  simp only [h4, if_true] at hr
  obtain rfl := Option.some.inj hr
  refine run_ok is97 (Nat.le_of_ble_eq_true rfl) (q := (.ret, ⟨[(0, .d (.v (.int .i32 a0))), (2, PB true)], []⟩)) ?_ (.inr rfl) ⟨[PB true], rfl, ?_⟩
  rotate_left 2
  simp only [h4, if_false] at hr
  rcases Classical.propComplete (a0 = 95) with h5 | h5
  simp only [h5, if_true] at hr
  obtain rfl := Option.some.inj hr
  refine run_ok is97 (Nat.le_of_ble_eq_true rfl) (q := (.ret, ⟨[(0, .d (.v (.int .i32 a0))), (2, PB true)], []⟩)) ?_ (.inr rfl) ⟨[PB true], rfl, ?_⟩
  rotate_left 2
  simp only [h5, if_false] at hr
  obtain rfl := Option.some.inj hr
  refine run_ok is97 (Nat.le_of_ble_eq_true rfl) (q := (.ret, ⟨[(0, .d (.v (.int .i32 a0))), (2, PB (decide (a0 = 39)))], []⟩)) ?_ (.inr rfl) ⟨[PB (decide (a0 = 39))], rfl, ?_⟩
  rotate_left 2
  simp only [h3, if_false] at hr
  rcases Classical.propComplete (a0 = 95) with h6 | h6
  simp only [h6, if_true] at hr
  obtain rfl := Option.some.inj hr
  refine run_ok is97 (Nat.le_of_ble_eq_true rfl) (q := (.ret, ⟨[(0, .d (.v (.int .i32 a0))), (2, PB true)], []⟩)) ?_ (.inr rfl) ⟨[PB true], rfl, ?_⟩
  rotate_left 2
  simp only [h6, if_false] at hr
  obtain rfl := Option.some.inj hr
  refine run_ok is97 (Nat.le_of_ble_eq_true rfl) (q := (.ret, ⟨[(0, .d (.v (.int .i32 a0))), (2, PB (decide (a0 = 39)))], []⟩)) ?_ (.inr rfl) ⟨[PB (decide (a0 = 39))], rfl, ?_⟩
  rotate_left 2
  simp only [h2, if_true] at hr
  obtain rfl := Option.some.inj hr
  refine run_ok is97 (Nat.le_of_ble_eq_true rfl) (q := (.ret, ⟨[(0, .d (.v (.int .i32 a0))), (2, PB true)], []⟩)) ?_ (.inr rfl) ⟨[PB true], rfl, ?_⟩
  rotate_left 2
  all_goals (simp (config := {decide := true}) only [go_sem, Int.reduceToNat, Nat.reduceAdd, Nat.reduceLT, Nat.reduceMul, Nat.reducePow, reduceCtorEq, callEnv, c97, *])
theorem r03_more_k {a0 : Int} {r : Bool} (hr : r03_more a0 = some r) {h : AHeap} : callP C (Lim C) 97 [.d (.v (.int .i32 a0))] h = some (PB r, h) := call_of (ds := [.v (.int .i32 a0)]) rfl rfl rfl (r03_more_R hr) h
def b70_0 : ACode := .seq (.reg [] [] [.K 19 (.nxt (.tmp 18) true), .K 20 (.ext (.tmp 19) 0)]) (.seq (.cond (.tmp 20) (some 20) (.skip) (.exit 0)) (.block 1 17181442072 (.seq (.reg [] [] [.T 21 (.ext (.tmp 19) 1), .T 22 (.ext (.tmp 19) 2), .N 3 21, .N 4 22]) (.seq (.reg [] [] [.M 23 3, .T 24 (.bin .eql (.tmp 23) (cI 0)), .M 25 24, .MG 26 25 true 4, .TG 27 25 true (.call 96 [.tmp 26]), .TG 28 25 true (.not (.tmp 27)), .T 29 (.pick (.tmp 25) (.tmp 28) (.const (.bool false))), .M 30 29, .MG 31 30 false 4, .TG 32 30 false (.call 97 [.tmp 31]), .TG 33 30 false (.not (.tmp 32)), .K 34 (.pick (.tmp 30) (.const (.bool true)) (.tmp 33))]) (.cond (.tmp 34) (some 34) (.seq (.reg [] [] [.K 2 (.mv (.const (.bool false)))]) (.ret)) (.skip))))))
def c70 : ACode := .seq (.reg [] [] [.K 2 (.mv (.const (.bool false)))]) (.seq (.seq (.reg [] [] [.M 5 0, .T 6 (.bin .eql (.tmp 5) (.const (.string { data := #[] }))), .M 7 6, .MG 8 7 false 0, .TG 9 7 false (.slen (.tmp 8)), .TG 10 7 false (.bin .gtr (.tmp 9) (cI 32)), .T 11 (.pick (.tmp 7) (.const (.bool true)) (.tmp 10)), .M 12 11, .MG 13 12 false 0, .TG 14 12 false (.call 95 [.tmp 13]), .TG 15 12 false (.not (.tmp 14)), .K 16 (.pick (.tmp 12) (.const (.bool true)) (.tmp 15))]) (.cond (.tmp 16) (some 16) (.seq (.reg [] [] [.K 2 (.mv (.const (.bool false)))]) (.ret)) (.skip))) (.seq (.seq (.reg [] [] [.M 17 0, .K 18 (.rng (.tmp 17))]) (.block 0 17181442072 (.loop b70_0))) (.seq (.reg [] [] [.K 2 (.mv (.const (.bool true)))]) (.ret))))
theorem is70 : IsF C 70 35 17181769757 c70 [.tmp 2] := ⟨⟨Tryd.f70, _, C_P ▸ Tryd.func70, rfl, rfl, rfl, by kernel_rfl, rfl⟩⟩
def r03_Name_S0 (s0 : ByteArray) (t18 : ByteArray) : Nat → Unit → St := fun q18 _ => ⟨[(0, .d (.v (.string s0))), (2, PB false), (18, .it 0)], (.siter t18 q18 :: [])⟩
def r03_Name_X0 (s0 : ByteArray) (t18 : ByteArray) : (Bool ⊕ Nat) → AExit × St → Prop
  | .inl r, q => q.1 = .ret ∧ RetOK C [.tmp 2] q.2 (PB r)
  | .inr q18, q => ∃ d19 : PV, q = (.exit 0, ⟨[(0, .d (.v (.string s0))), (2, PB false), (18, .it 0), (19, d19)], (.siter t18 q18 :: [])⟩)
set_option maxHeartbeats 4000000 in
theorem r03_Name_R0 (s0 : ByteArray) (t18 : ByteArray) : ∀ (s : Nat) (g : Unit) r, r03_Name_l0 s0 t18 s = some r → Sum.elim (fun s' => ∃ g', semA C (Lim C) 17181769757 b70_0 (r03_Name_S0 s0 t18 s g) = some (.normal, r03_Name_S0 s0 t18 s' g')) (fun x => ∃ q, semA C (Lim C) 17181769757 b70_0 (r03_Name_S0 s0 t18 s g) = some q ∧ q.1 ≠ .normal ∧ r03_Name_X0 s0 t18 x q) r := by
  intro s g r hr
  have ⟨q18, hs0⟩ : ∃ y, y = s := ⟨_, rfl⟩
  subst hs0
  simp only [r03_Name_l0] at hr
  rcases Classical.propComplete (q18 < t18.size) with h1 | h1
  simp only [h1, if_true] at hr
  rcases Classical.propComplete ((q18 : Int) = 0) with h2 | h2
  simp only [h2, if_true] at hr
  obtain ⟨x2, h3, hr⟩ := bsome hr
  have h3k := fun h => r03_letter_k (h := h) h3
  try simp only [go_sem] at h3k
  cases h4 : x2
  simp only [h4, Bool.false_eq_true, if_false] at hr
  obtain rfl := Option.some.inj hr
  refine ⟨(.ret, ⟨[(0, .d (.v (.string s0))), (2, PB false), (3, PI (q18 : Int)), (4, .d (.v (.int .i32 ((Utf8.decode t18 q18).1 : Int)))), (18, .it 0), (19, .tp [PB true, PI (q18 : Int), .d (.v (.int .i32 ((Utf8.decode t18 q18).1 : Int)))])], (.siter t18 (q18 + (Utf8.decode t18 q18).2) :: [])⟩), ?_, nofun, rfl, [PB false], rfl, ?_⟩
  rotate_left 2
  simp only [h4, if_true] at hr
  obtain ⟨x3, h5, hr⟩ := bsome hr
  have h5k := fun h => r03_more_k (h := h) h5
  try simp only [go_sem] at h5k
  cases h6 : x3
  simp only [h6, Bool.false_eq_true, if_false] at hr
  obtain rfl := Option.some.inj hr
  refine ⟨(.ret, ⟨[(0, .d (.v (.string s0))), (2, PB false), (3, PI (q18 : Int)), (4, .d (.v (.int .i32 ((Utf8.decode t18 q18).1 : Int)))), (18, .it 0), (19, .tp [PB true, PI (q18 : Int), .d (.v (.int .i32 ((Utf8.decode t18 q18).1 : Int)))])], (.siter t18 (q18 + (Utf8.decode t18 q18).2) :: [])⟩), ?_, nofun, rfl, [PB false], rfl, ?_⟩
  rotate_left 2
  simp only [h6, if_true] at hr
  obtain rfl := Option.some.inj hr
  refine ⟨(), ?_⟩
  rotate_left
  simp only [h2, if_false] at hr
  obtain ⟨x4, h7, hr⟩ := bsome hr
  have h7k := fun h => r03_more_k (h := h) h7
  try simp only [go_sem] at h7k
  cases h8 : x4
  simp only [h8, Bool.false_eq_true, if_false] at hr
  obtain rfl := Option.some.inj hr
  refine ⟨(.ret, ⟨[(0, .d (.v (.string s0))), (2, PB false), (3, PI (q18 : Int)), (4, .d (.v (.int .i32 ((Utf8.decode t18 q18).1 : Int)))), (18, .it 0), (19, .tp [PB true, PI (q18 : Int), .d (.v (.int .i32 ((Utf8.decode t18 q18).1 : Int)))])], (.siter t18 (q18 + (Utf8.decode t18 q18).2) :: [])⟩), ?_, nofun, rfl, [PB false], rfl, ?_⟩
  rotate_left 2
  simp only [h8, if_true] at hr
  obtain rfl := Option.some.inj hr
  refine ⟨(), ?_⟩
  rotate_left
  simp only [h1, if_false] at hr
  obtain rfl := Option.some.inj hr
  refine ⟨(.exit 0, ⟨[(0, .d (.v (.string s0))), (2, PB false), (18, .it 0), (19, (.tp [PB false]))], (.siter t18 q18 :: [])⟩), ?_, nofun, .tp [PB false], rfl⟩
  rotate_left
  all_goals (simp (config := {decide := true}) only [go_sem, Int.reduceToNat, Nat.reduceAdd, Nat.reduceLT, Nat.reduceMul, Nat.reducePow, reduceCtorEq, r03_Name_S0, b70_0, *])
theorem r03_Name_L0 {s0 : ByteArray} {t18 : ByteArray} {s : Nat} {g : Unit} {x} (h : wh (r03_Name_l0 s0 t18) s = some x) : ∃ q, loopLim (semA C (Lim C) 17181769757 b70_0) (r03_Name_S0 s0 t18 s g) = some q ∧ r03_Name_X0 s0 t18 x q := wh_sim (r03_Name_R0 s0 t18) h
set_option maxHeartbeats 4000000 in
theorem r03_Name_R {a0 : ByteArray} {r : Bool} (hr : r03_Name a0 = some r) : ∃ p hp, Lim C 70 [.d (.v (.string a0))] [] = some (p, hp) ∧ rsT hp p = some (PB r) := by
  simp only [r03_Name] at hr
  rcases Classical.propComplete (a0 = ({ data := #[] })) with h1 | h1
  simp only [h1, if_true] at hr
  obtain rfl := Option.some.inj hr
  refine run_ok is70 (Nat.le_of_ble_eq_true rfl) (q := (.ret, ⟨[(0, .d (.v (.string a0))), (2, PB false)], []⟩)) ?_ (.inr rfl) ⟨[PB false], rfl, ?_⟩
  rotate_left 2
  simp only [h1, if_false] at hr
  rcases Classical.propComplete (32 < (a0.size : Int)) with h2 | h2
  simp only [h2, if_true] at hr
  obtain rfl := Option.some.inj hr
  refine run_ok is70 (Nat.le_of_ble_eq_true rfl) (q := (.ret, ⟨[(0, .d (.v (.string a0))), (2, PB false)], []⟩)) ?_ (.inr rfl) ⟨[PB false], rfl, ?_⟩
  rotate_left 2
  simp only [h2, if_false] at hr
  obtain ⟨x1, h3, hr⟩ := bsome hr
  have h3k := fun h => r03_good_k (h := h) h3
  try simp only [go_sem] at h3k
  cases h4 : x1
  simp only [h4, Bool.false_eq_true, if_false] at hr
  obtain rfl := Option.some.inj hr
  refine run_ok is70 (Nat.le_of_ble_eq_true rfl) (q := (.ret, ⟨[(0, .d (.v (.string a0))), (2, PB false)], []⟩)) ?_ (.inr rfl) ⟨[PB false], rfl, ?_⟩
  rotate_left 2
  simp only [h4, if_true] at hr
  obtain ⟨x5, h5, hr⟩ := bsome hr
  obtain ⟨q5, h5L, h5X⟩ := r03_Name_L0 (g := ()) h5
  rcases x5 with x6 | x7
  simp only [r03_Name_X0, r03_Name_S0] at h5X h5L
  obtain ⟨e5, st5⟩ := q5
  obtain ⟨rfl, h5R⟩ := h5X
  try simp only [go_sem, Nat.reduceAdd] at h5L
  obtain rfl := Option.some.inj hr
  refine run_ok is70 (Nat.le_of_ble_eq_true rfl) ?_ (.inr rfl) h5R
  rotate_left
  simp only [r03_Name_X0, r03_Name_S0] at h5X h5L
  obtain ⟨z8, rfl⟩ := h5X
  try simp only [go_sem, Nat.reduceAdd] at h5L
  obtain rfl := Option.some.inj hr
  refine run_ok is70 (Nat.le_of_ble_eq_true rfl) (q := (.ret, ⟨[(0, .d (.v (.string a0))), (2, PB true), (18, .it 0)], (.siter a0 x7 :: [])⟩)) ?_ (.inr rfl) ⟨[PB true], rfl, ?_⟩
  rotate_left 2
  all_goals (simp (config := {decide := true}) only [go_sem, Int.reduceToNat, Nat.reduceAdd, Nat.reduceLT, Nat.reduceMul, Nat.reducePow, reduceCtorEq, callEnv, c70, *])
theorem r03_Name_k {a0 : ByteArray} {r : Bool} (hr : r03_Name a0 = some r) {h : AHeap} : callP C (Lim C) 70 [.d (.v (.string a0))] h = some (PB r, h) := call_of (ds := [.v (.string a0)]) rfl rfl rfl (r03_Name_R hr) h
def c71 : ACode := .seq (.reg [] [] [.K 2 (.mv (.const (.bool false)))]) (.seq (.reg [] [] [.M 3 0, .T 4 (.slen (.tmp 3)), .T 5 (.bin .gtr (.tmp 4) (cI 0)), .M 6 5, .MG 7 6 true 0, .MG 8 6 true 0, .TG 9 6 true (.slen (.tmp 8)), .TG 10 6 true (.bin .sub (.tmp 9) (cI 1)), .TG 11 6 true (.ixS (.tmp 7) (.tmp 10)), .TG 12 6 true (.bin .eql (.tmp 11) (.const (.int .u8 35))), .T 13 (.pick (.tmp 6) (.tmp 12) (.const (.bool false))), .M 14 13, .MG 15 14 true 0, .MG 16 14 true 0, .TG 17 14 true (.slen (.tmp 16)), .TG 18 14 true (.bin .sub (.tmp 17) (cI 1)), .TG 19 14 true (.cutS (.tmp 15) none (some (.tmp 18))), .TG 20 14 true (.call 70 [.tmp 19]), .T 21 (.pick (.tmp 14) (.tmp 20) (.const (.bool false))), .N 2 21]) (.ret))
theorem is71 : IsF C 71 22 5 c71 [.tmp 2] := ⟨⟨Tryd.f71, _, C_P ▸ Tryd.func71, rfl, rfl, rfl, by kernel_rfl, rfl⟩⟩
set_option maxHeartbeats 4000000 in
theorem r03_Marked_R {a0 : ByteArray} {r : Bool} (hr : r03_Marked a0 = some r) : ∃ p hp, Lim C 71 [.d (.v (.string a0))] [] = some (p, hp) ∧ rsT hp p = some (PB r) := by
  simp only [r03_Marked] at hr
  rcases Classical.propComplete (0 < (a0.size : Int)) with h1 | h1
  simp only [h1, if_true] at hr
  obtain ⟨x1, h2, hr⟩ := bsome hr
  rcases Classical.propComplete (x1 = 35) with h3 | h3
  simp only [h3, if_true] at hr
  obtain ⟨x2, h4, hr⟩ := bsome hr
  obtain ⟨x3, h5, hr⟩ := bsome hr
  have h5k := fun h => r03_Name_k (h := h) h5
  try simp only [go_sem] at h5k
  obtain rfl := Option.some.inj hr
  refine run_ok is71 (Nat.le_of_ble_eq_true rfl) (q := (.ret, ⟨[(0, .d (.v (.string a0))), (2, PB x3)], []⟩)) ?_ (.inr rfl) ⟨[PB x3], rfl, ?_⟩
  rotate_left 2
  simp only [h3, if_false] at hr
  obtain rfl := Option.some.inj hr
  refine run_ok is71 (Nat.le_of_ble_eq_true rfl) (q := (.ret, ⟨[(0, .d (.v (.string a0))), (2, PB false)], []⟩)) ?_ (.inr rfl) ⟨[PB false], rfl, ?_⟩
  rotate_left 2
  simp only [h1, if_false] at hr
  obtain rfl := Option.some.inj hr
  refine run_ok is71 (Nat.le_of_ble_eq_true rfl) (q := (.ret, ⟨[(0, .d (.v (.string a0))), (2, PB false)], []⟩)) ?_ (.inr rfl) ⟨[PB false], rfl, ?_⟩
  rotate_left 2
  all_goals (simp (config := {decide := true}) only [go_sem, Int.reduceToNat, Nat.reduceAdd, Nat.reduceLT, Nat.reduceMul, Nat.reducePow, reduceCtorEq, callEnv, c71, *])
theorem r03_Marked_k {a0 : ByteArray} {r : Bool} (hr : r03_Marked a0 = some r) {h : AHeap} : callP C (Lim C) 71 [.d (.v (.string a0))] h = some (PB r, h) := call_of (ds := [.v (.string a0)]) rfl rfl rfl (r03_Marked_R hr) h
def b48_1 : ACode := .seq (.seq (.reg [] [] [.M 44 4, .M 45 3, .K 46 (.bin .lss (.tmp 44) (.tmp 45))]) (.cond (.tmp 46) (some 46) (.skip) (.exit 2))) (.seq (.block 3 576531121047601152 (.seq (.reg [] [] [.M 49 0, .M 50 4, ⟨some (51, false), .ix 2 (.tmp 49) (.tmp 50), none, true, false⟩, .T 52 (.fa 0 (.tmp 51)), ⟨some (53, false), .load none (.tmp 52), none, true, false⟩, .M 54 0, .M 55 3, ⟨some (56, false), .ix 2 (.tmp 54) (.tmp 55), none, true, false⟩, .T 57 (.fa 0 (.tmp 56)), ⟨some (58, false), .load none (.tmp 57), none, true, false⟩, .K 59 (.bin .eql (.tmp 53) (.tmp 58))]) (.cond (.tmp 59) (some 59) (.seq (.reg [] [] [.K 2 (.mv (cI 36))]) (.ret)) (.skip)))) (.reg [] [] [.M 47 4, .T 48 (.bin .add (.tmp 47) (cI 1)), .N 4 48]))
def b48_0 : ACode := .seq (.seq (.reg [] [] [.M 8 3, .M 9 0, .T 10 (.len (.tmp 9)), .K 11 (.bin .lss (.tmp 8) (.tmp 10))]) (.cond (.tmp 11) (some 11) (.skip) (.exit 0))) (.seq (.block 1 576539917677496336 (.seq (.seq (.reg [] [] [.M 14 0, .M 15 3, .T 16 (.ix 2 (.tmp 14) (.tmp 15)), .T 17 (.fa 0 (.tmp 16)), .T 18 (.load none (.tmp 17)), .T 19 (.call 70 [.tmp 18]), .T 20 (.not (.tmp 19)), .M 21 20, .MG 22 21 true 0, .MG 23 21 true 3, .TG 24 21 true (.ix 2 (.tmp 22) (.tmp 23)), .TG 25 21 true (.fa 0 (.tmp 24)), .TG 26 21 true (.load none (.tmp 25)), .TG 27 21 true (.call 71 [.tmp 26]), .TG 28 21 true (.not (.tmp 27)), .K 29 (.pick (.tmp 21) (.tmp 28) (.const (.bool false)))]) (.cond (.tmp 29) (some 29) (.seq (.reg [] [] [.K 2 (.mv (cI 34))]) (.ret)) (.skip))) (.seq (.seq (.reg [] [] [.M 30 0, .M 31 3, .T 32 (.ix 2 (.tmp 30) (.tmp 31)), .T 33 (.fa 1 (.tmp 32)), .T 34 (.load none (.tmp 33)), .T 35 (.bin .lss (.tmp 34) (cI 0)), .M 36 35, .MG 37 36 false 0, .MG 38 36 false 3, .TG 39 36 false (.ix 2 (.tmp 37) (.tmp 38)), .TG 40 36 false (.fa 1 (.tmp 39)), .TG 41 36 false (.load none (.tmp 40)), .TG 42 36 false (.bin .gtr (.tmp 41) (cI 8)), .K 43 (.pick (.tmp 36) (.const (.bool true)) (.tmp 42))]) (.cond (.tmp 43) (some 43) (.seq (.reg [] [] [.K 2 (.mv (cI 35))]) (.ret)) (.skip))) (.seq (.reg [] [] [.K 4 (.mv (cI 0))]) (.block 2 576539917677496336 (.loop b48_1)))))) (.reg [] [] [.M 12 3, .T 13 (.bin .add (.tmp 12) (cI 1)), .N 3 13]))
def c48 : ACode := .seq (.reg [] [] [.K 2 (.mv (cI 0))]) (.seq (.seq (.reg [] [] [.M 5 0, .T 6 (.len (.tmp 5)), .K 7 (.bin .gtr (.tmp 6) (cI 128))]) (.cond (.tmp 7) (some 7) (.seq (.reg [] [] [.K 2 (.mv (cI 37))]) (.ret)) (.skip))) (.seq (.seq (.reg [] [] [.K 3 (.mv (cI 0))]) (.block 0 576539917677496336 (.loop b48_0))) (.seq (.reg [] [] [.K 2 (.mv (cI 0))]) (.ret))))
theorem is48 : IsF C 48 60 576539917677496477 c48 [.tmp 2] := ⟨⟨Tryd.f48, _, C_P ▸ Tryd.func48, rfl, rfl, rfl, by kernel_rfl, rfl⟩⟩
def r03_CheckSig_S1 (s0 : List Symbol) (s3 : Int) : Int → Unit → St := fun s4 _ => ⟨[(0, .d (.rd (s0.map encSymbol))), (2, PI 0), (3, PI s3), (4, PI s4)], []⟩
def r03_CheckSig_X1 (s0 : List Symbol) (s3 : Int) : (Int ⊕ Unit) → AExit × St → Prop
  | .inl r, q => q.1 = .ret ∧ RetOK C [.tmp 2] q.2 (PI r)
  | .inr _, q => ∃ d4 : PV, q = (.exit 2, ⟨[(0, .d (.rd (s0.map encSymbol))), (2, PI 0), (3, PI s3), (4, d4)], []⟩)
set_option maxHeartbeats 4000000 in
theorem r03_CheckSig_R1 (s0 : List Symbol) (s3 : Int) : ∀ (s : Int) (g : Unit) r, r03_CheckSig_l1 s0 s3 s = some r → Sum.elim (fun s' => ∃ g', semA C (Lim C) 576539917677496477 b48_1 (r03_CheckSig_S1 s0 s3 s g) = some (.normal, r03_CheckSig_S1 s0 s3 s' g')) (fun x => ∃ q, semA C (Lim C) 576539917677496477 b48_1 (r03_CheckSig_S1 s0 s3 s g) = some q ∧ q.1 ≠ .normal ∧ r03_CheckSig_X1 s0 s3 x q) r := by
  intro s g r hr
  have ⟨s4, hs0⟩ : ∃ y, y = s := ⟨_, rfl⟩
  subst hs0
  simp only [r03_CheckSig_l1] at hr
  rcases Classical.propComplete (s4 < s3) with h1 | h1
  simp only [h1, if_true] at hr
  obtain ⟨x9, h2, hr⟩ := bsome hr
  obtain ⟨x10, h3, hr⟩ := bsome hr
  rcases Classical.propComplete (x9.Name = x10.Name) with h4 | h4
  simp only [h4, if_true] at hr
  obtain rfl := Option.some.inj hr
  refine ⟨(.ret, ⟨[(0, .d (.rd (s0.map encSymbol))), (2, PI 36), (3, PI s3), (4, PI s4)], []⟩), ?_, nofun, rfl, [PI 36], rfl, ?_⟩
  rotate_left 2
  simp only [h4, if_false] at hr
  obtain rfl := Option.some.inj hr
  refine ⟨(), ?_⟩
  rotate_left
  simp only [h1, if_false] at hr
  obtain rfl := Option.some.inj hr
  refine ⟨(.exit 2, ⟨[(0, .d (.rd (s0.map encSymbol))), (2, PI 0), (3, PI s3), (4, (PI s4))], []⟩), ?_, nofun, PI s4, rfl⟩
  rotate_left
  all_goals (simp (config := {decide := true}) only [go_sem, Int.reduceToNat, Nat.reduceAdd, Nat.reduceLT, Nat.reduceMul, Nat.reducePow, reduceCtorEq, r03_CheckSig_S1, b48_1, *])
theorem r03_CheckSig_L1 {s0 : List Symbol} {s3 : Int} {s : Int} {g : Unit} {x} (h : wh (r03_CheckSig_l1 s0 s3) s = some x) : ∃ q, loopLim (semA C (Lim C) 576539917677496477 b48_1) (r03_CheckSig_S1 s0 s3 s g) = some q ∧ r03_CheckSig_X1 s0 s3 x q := wh_sim (r03_CheckSig_R1 s0 s3) h
def r03_CheckSig_S0 (s0 : List Symbol) : Int → Unit → St := fun s3 _ => ⟨[(0, .d (.rd (s0.map encSymbol))), (2, PI 0), (3, PI s3)], []⟩
def r03_CheckSig_X0 (s0 : List Symbol) : (Int ⊕ Int) → AExit × St → Prop
  | .inl r, q => q.1 = .ret ∧ RetOK C [.tmp 2] q.2 (PI r)
  | .inr s3, q => q = (.exit 0, ⟨[(0, .d (.rd (s0.map encSymbol))), (2, PI 0), (3, PI s3)], []⟩)
set_option maxHeartbeats 4000000 in
theorem r03_CheckSig_R0 (s0 : List Symbol) : ∀ (s : Int) (g : Unit) r, r03_CheckSig_l0 s0 s = some r → Sum.elim (fun s' => ∃ g', semA C (Lim C) 576539917677496477 b48_0 (r03_CheckSig_S0 s0 s g) = some (.normal, r03_CheckSig_S0 s0 s' g')) (fun x => ∃ q, semA C (Lim C) 576539917677496477 b48_0 (r03_CheckSig_S0 s0 s g) = some q ∧ q.1 ≠ .normal ∧ r03_CheckSig_X0 s0 x q) r := by
  intro s g r hr
  have ⟨s3, hs0⟩ : ∃ y, y = s := ⟨_, rfl⟩
  subst hs0
  simp only [r03_CheckSig_l0] at hr
  rcases Classical.propComplete (s3 < (s0.length : Int)) with h1 | h1
  simp only [h1, if_true] at hr
  obtain ⟨x1, h2, hr⟩ := bsome hr
  obtain ⟨x2, h3, hr⟩ := bsome hr
  have h3k := fun h => r03_Name_k (h := h) h3
  try simp only [go_sem] at h3k
  cases h4 : x2
  simp only [h4, Bool.false_eq_true, if_false] at hr
  obtain ⟨x8, h8, hr⟩ := bsome hr
  have h8k := fun h => r03_Marked_k (h := h) h8
  try simp only [go_sem] at h8k
  cases h9 : x8
  simp only [h9, Bool.false_eq_true, if_false] at hr
  obtain rfl := Option.some.inj hr
  refine ⟨(.ret, ⟨[(0, .d (.rd (s0.map encSymbol))), (2, PI 34), (3, PI s3)], []⟩), ?_, nofun, rfl, [PI 34], rfl, ?_⟩
  rotate_left 2
  simp only [h9, if_true] at hr
  rcases Classical.propComplete (x1.Arity < 0) with h10 | h10
  simp only [h10, if_true] at hr
  obtain rfl := Option.some.inj hr
  refine ⟨(.ret, ⟨[(0, .d (.rd (s0.map encSymbol))), (2, PI 35), (3, PI s3)], []⟩), ?_, nofun, rfl, [PI 35], rfl, ?_⟩
  rotate_left 2
  simp only [h10, if_false] at hr
  rcases Classical.propComplete (8 < x1.Arity) with h11 | h11
  simp only [h11, if_true] at hr
  obtain rfl := Option.some.inj hr
  refine ⟨(.ret, ⟨[(0, .d (.rd (s0.map encSymbol))), (2, PI 35), (3, PI s3)], []⟩), ?_, nofun, rfl, [PI 35], rfl, ?_⟩
  rotate_left 2
  simp only [h11, if_false] at hr
  obtain ⟨x11, h12, hr⟩ := bsome hr
  obtain ⟨q12, h12L, h12X⟩ := r03_CheckSig_L1 (g := ()) h12
  rcases x11 with x12 | ⟨⟩
  simp only [r03_CheckSig_X1, r03_CheckSig_S1] at h12X h12L
  obtain ⟨e12, st12⟩ := q12
  obtain ⟨rfl, h12R⟩ := h12X
  try simp only [go_sem, Nat.reduceAdd] at h12L
  obtain rfl := Option.some.inj hr
  refine ⟨(.ret, st12), ?_, nofun, rfl, h12R⟩
  rotate_left
  simp only [r03_CheckSig_X1, r03_CheckSig_S1] at h12X h12L
  obtain ⟨z13, rfl⟩ := h12X
  try simp only [go_sem, Nat.reduceAdd] at h12L
  obtain rfl := Option.some.inj hr
  refine ⟨(), ?_⟩
  rotate_left
  simp only [h4, if_true] at hr
  rcases Classical.propComplete (x1.Arity < 0) with h5 | h5
  simp only [h5, if_true] at hr
  obtain rfl := Option.some.inj hr
  refine ⟨(.ret, ⟨[(0, .d (.rd (s0.map encSymbol))), (2, PI 35), (3, PI s3)], []⟩), ?_, nofun, rfl, [PI 35], rfl, ?_⟩
  rotate_left 2
  simp only [h5, if_false] at hr
  rcases Classical.propComplete (8 < x1.Arity) with h6 | h6
  simp only [h6, if_true] at hr
  obtain rfl := Option.some.inj hr
  refine ⟨(.ret, ⟨[(0, .d (.rd (s0.map encSymbol))), (2, PI 35), (3, PI s3)], []⟩), ?_, nofun, rfl, [PI 35], rfl, ?_⟩
  rotate_left 2
  simp only [h6, if_false] at hr
  obtain ⟨x5, h7, hr⟩ := bsome hr
  obtain ⟨q7, h7L, h7X⟩ := r03_CheckSig_L1 (g := ()) h7
  rcases x5 with x6 | ⟨⟩
  simp only [r03_CheckSig_X1, r03_CheckSig_S1] at h7X h7L
  obtain ⟨e7, st7⟩ := q7
  obtain ⟨rfl, h7R⟩ := h7X
  try simp only [go_sem, Nat.reduceAdd] at h7L
  obtain rfl := Option.some.inj hr
  refine ⟨(.ret, st7), ?_, nofun, rfl, h7R⟩
  rotate_left
  simp only [r03_CheckSig_X1, r03_CheckSig_S1] at h7X h7L
  obtain ⟨z7, rfl⟩ := h7X
  try simp only [go_sem, Nat.reduceAdd] at h7L
  obtain rfl := Option.some.inj hr
  refine ⟨(), ?_⟩
  rotate_left
  simp only [h1, if_false] at hr
  obtain rfl := Option.some.inj hr
  refine ⟨(.exit 0, ⟨[(0, .d (.rd (s0.map encSymbol))), (2, PI 0), (3, PI s3)], []⟩), ?_, nofun, rfl⟩
  rotate_left
  all_goals (simp (config := {decide := true}) only [go_sem, Int.reduceToNat, Nat.reduceAdd, Nat.reduceLT, Nat.reduceMul, Nat.reducePow, reduceCtorEq, r03_CheckSig_S0, b48_0, *])
theorem r03_CheckSig_L0 {s0 : List Symbol} {s : Int} {g : Unit} {x} (h : wh (r03_CheckSig_l0 s0) s = some x) : ∃ q, loopLim (semA C (Lim C) 576539917677496477 b48_0) (r03_CheckSig_S0 s0 s g) = some q ∧ r03_CheckSig_X0 s0 x q := wh_sim (r03_CheckSig_R0 s0) h
set_option maxHeartbeats 4000000 in
theorem r03_CheckSig_R {a0 : List Symbol} {r : Int} (hr : r03_CheckSig a0 = some r) : ∃ p hp, Lim C 48 [.d (.rd (a0.map encSymbol))] [] = some (p, hp) ∧ rsT hp p = some (PI r) := by
  simp only [r03_CheckSig] at hr
  rcases Classical.propComplete (128 < (a0.length : Int)) with h1 | h1
  simp only [h1, if_true] at hr
  obtain rfl := Option.some.inj hr
  refine run_ok is48 (Nat.le_of_ble_eq_true rfl) (q := (.ret, ⟨[(0, .d (.rd (a0.map encSymbol))), (2, PI 37)], []⟩)) ?_ (.inr rfl) ⟨[PI 37], rfl, ?_⟩
  rotate_left 2
  simp only [h1, if_false] at hr
  obtain ⟨x14, h2, hr⟩ := bsome hr
  obtain ⟨q2, h2L, h2X⟩ := r03_CheckSig_L0 (g := ()) h2
  rcases x14 with x15 | x16
  simp only [r03_CheckSig_X0, r03_CheckSig_S0] at h2X h2L
  obtain ⟨e2, st2⟩ := q2
  obtain ⟨rfl, h2R⟩ := h2X
  try simp only [go_sem, Nat.reduceAdd] at h2L
  obtain rfl := Option.some.inj hr
  refine run_ok is48 (Nat.le_of_ble_eq_true rfl) ?_ (.inr rfl) h2R
  rotate_left
  simp only [r03_CheckSig_X0, r03_CheckSig_S0] at h2X h2L
  subst h2X
  try simp only [go_sem, Nat.reduceAdd] at h2L
  obtain rfl := Option.some.inj hr
  refine run_ok is48 (Nat.le_of_ble_eq_true rfl) (q := (.ret, ⟨[(0, .d (.rd (a0.map encSymbol))), (2, PI 0), (3, PI x16)], []⟩)) ?_ (.inr rfl) ⟨[PI 0], rfl, ?_⟩
  rotate_left 2
  all_goals (simp (config := {decide := true}) only [go_sem, Int.reduceToNat, Nat.reduceAdd, Nat.reduceLT, Nat.reduceMul, Nat.reducePow, reduceCtorEq, callEnv, c48, *])
theorem r03_CheckSig_k {a0 : List Symbol} {r : Int} (hr : r03_CheckSig a0 = some r) {h : AHeap} : callP C (Lim C) 48 [.d (.rd (a0.map encSymbol))] h = some (PI r, h) := call_of (ds := [.rd (a0.map encSymbol)]) rfl rfl rfl (r03_CheckSig_R hr) h
def b49_0 : ACode := .seq (.seq (.reg [] [] [.M 7 5, .K 8 (.bin .gtr (.tmp 7) (cI 0))]) (.cond (.tmp 8) (some 8) (.skip) (.exit 0))) (.seq (.block 1 18014433137672448 (.seq (.seq (.reg [] [] [.M 11 6, .M 12 1, .T 13 (.len (.tmp 12)), .K 14 (.bin .eql (.tmp 11) (.tmp 13))]) (.cond (.tmp 14) (some 14) (.seq (.reg [] [] [.K 4 (.mv (cI 31))]) (.ret)) (.skip))) (.seq (.seq (.reg [] [] [.M 15 1, .M 16 6, .T 17 (.ix 1 (.tmp 15) (.tmp 16)), .T 18 (.load none (.tmp 17)), .M 19 0, .T 20 (.len (.tmp 19)), .T 21 (.bin .geq (.tmp 18) (.tmp 20)), .M 22 21, .MG 23 22 false 1, .MG 24 22 false 6, .TG 25 22 false (.ix 1 (.tmp 23) (.tmp 24)), .TG 26 22 false (.load none (.tmp 25)), .TG 27 22 false (.bin .lss (.tmp 26) (cI (-1048576))), .K 28 (.pick (.tmp 22) (.const (.bool true)) (.tmp 27))]) (.cond (.tmp 28) (some 28) (.seq (.reg [] [] [.K 4 (.mv (cI 30))]) (.ret)) (.skip))) (.seq (.reg [] [] [.M 29 5, .T 30 (.bin .sub (.tmp 29) (cI 1)), .N 5 30]) (.seq (.seq (.reg [] [] [.M 31 1, .M 32 6, .T 33 (.ix 1 (.tmp 31) (.tmp 32)), .T 34 (.load none (.tmp 33)), .K 35 (.bin .geq (.tmp 34) (cI 0))]) (.cond (.tmp 35) (some 35) (.reg [] [] [.M 36 5, .M 37 0, .M 38 1, .M 39 6, .T 40 (.ix 1 (.tmp 38) (.tmp 39)), .T 41 (.load none (.tmp 40)), .T 42 (.ix 2 (.tmp 37) (.tmp 41)), .T 43 (.fa 1 (.tmp 42)), .T 44 (.load none (.tmp 43)), .T 45 (.bin .add (.tmp 36) (.tmp 44)), .N 5 45]) (.skip))) (.seq (.reg [] [] [.M 46 5, .T 47 (.bin .eql (.tmp 46) (cI 0)), .M 48 47, .MG 49 48 true 6, .TG 50 48 true (.bin .add (.tmp 49) (cI 1)), .MG 51 48 true 1, .TG 52 48 true (.len (.tmp 51)), .TG 53 48 true (.bin .lss (.tmp 50) (.tmp 52)), .K 54 (.pick (.tmp 48) (.tmp 53) (.const (.bool false)))]) (.cond (.tmp 54) (some 54) (.seq (.reg [] [] [.K 4 (.mv (cI 32))]) (.ret)) (.skip)))))))) (.reg [] [] [.M 9 6, .T 10 (.bin .add (.tmp 9) (cI 1)), .N 6 10]))
def c49 : ACode := .seq (.reg [] [] [.K 4 (.mv (cI 0))]) (.seq (.reg [] [] [.K 5 (.mv (cI 1))]) (.seq (.seq (.reg [] [] [.K 6 (.mv (cI 0))]) (.block 0 18014433137672448 (.loop b49_0))) (.seq (.reg [] [] [.K 4 (.mv (cI 0))]) (.ret))))
theorem is49 : IsF C 49 55 18014433137672563 c49 [.tmp 4] := ⟨⟨Tryd.f49, _, C_P ▸ Tryd.func49, rfl, rfl, rfl, by kernel_rfl, rfl⟩⟩
def r03_Term_S0 (s0 : List Symbol) (s1 : List Int) : Int × Int → Unit → St := fun (s5, s6) _ => ⟨[(0, .d (.rd (s0.map encSymbol))), (1, .d (.rd (s1.map intD))), (4, PI 0), (5, PI s5), (6, PI s6)], []⟩
def r03_Term_X0 (s0 : List Symbol) (s1 : List Int) : (Int ⊕ (Int × Int)) → AExit × St → Prop
  | .inl r, q => q.1 = .ret ∧ RetOK C [.tmp 4] q.2 (PI r)
  | .inr (s5, s6), q => q = (.exit 0, ⟨[(0, .d (.rd (s0.map encSymbol))), (1, .d (.rd (s1.map intD))), (4, PI 0), (5, PI s5), (6, PI s6)], []⟩)
set_option maxHeartbeats 4000000 in
theorem r03_Term_R0 (s0 : List Symbol) (s1 : List Int) : ∀ (s : Int × Int) (g : Unit) r, r03_Term_l0 s0 s1 s = some r → Sum.elim (fun s' => ∃ g', semA C (Lim C) 18014433137672563 b49_0 (r03_Term_S0 s0 s1 s g) = some (.normal, r03_Term_S0 s0 s1 s' g')) (fun x => ∃ q, semA C (Lim C) 18014433137672563 b49_0 (r03_Term_S0 s0 s1 s g) = some q ∧ q.1 ≠ .normal ∧ r03_Term_X0 s0 s1 x q) r := by
  intro s g r hr
  obtain ⟨s5, s6⟩ := s
  simp only [r03_Term_l0] at hr
  rcases Classical.propComplete (0 < s5) with h1 | h1
  simp only [h1, if_true] at hr
  rcases Classical.propComplete (s6 = (s1.length : Int)) with h2 | h2
  simp only [h2, if_true] at hr
  obtain rfl := Option.some.inj hr
  refine ⟨(.ret, ⟨[(0, .d (.rd (s0.map encSymbol))), (1, .d (.rd (s1.map intD))), (4, PI 31), (5, PI s5), (6, PI s6)], []⟩), ?_, nofun, rfl, [PI 31], rfl, ?_⟩
  rotate_left 2
  simp only [h2, if_false] at hr
  obtain ⟨x1, h3, hr⟩ := bsome hr
  rcases Classical.propComplete ((s0.length : Int) ≤ x1) with h4 | h4
  simp only [h4, if_true] at hr
  obtain rfl := Option.some.inj hr
  refine ⟨(.ret, ⟨[(0, .d (.rd (s0.map encSymbol))), (1, .d (.rd (s1.map intD))), (4, PI 30), (5, PI s5), (6, PI s6)], []⟩), ?_, nofun, rfl, [PI 30], rfl, ?_⟩
  rotate_left 2
  simp only [h4, if_false] at hr
  rcases Classical.propComplete (x1 < (-1048576)) with h5 | h5
  simp only [h5, if_true] at hr
  obtain rfl := Option.some.inj hr
  refine ⟨(.ret, ⟨[(0, .d (.rd (s0.map encSymbol))), (1, .d (.rd (s1.map intD))), (4, PI 30), (5, PI s5), (6, PI s6)], []⟩), ?_, nofun, rfl, [PI 30], rfl, ?_⟩
  rotate_left 2
  simp only [h5, if_false] at hr
  rcases Classical.propComplete (0 ≤ x1) with h6 | h6
  simp only [h6, if_true] at hr
  obtain ⟨x2, h7, hr⟩ := bsome hr
  rcases Classical.propComplete ((w64 ((w64 (s5 - 1)) + x2.Arity)) = 0) with h8 | h8
  simp only [h8, if_true] at hr
  rcases Classical.propComplete ((w64 (s6 + 1)) < (s1.length : Int)) with h9 | h9
  simp only [h9, if_true] at hr
  obtain rfl := Option.some.inj hr
  refine ⟨(.ret, ⟨[(0, .d (.rd (s0.map encSymbol))), (1, .d (.rd (s1.map intD))), (4, PI 32), (5, PI (w64 ((w64 (s5 - 1)) + x2.Arity))), (6, PI s6)], []⟩), ?_, nofun, rfl, [PI 32], rfl, ?_⟩
  rotate_left 2
  simp only [h9, if_false] at hr
  obtain rfl := Option.some.inj hr
  refine ⟨(), ?_⟩
  rotate_left
  simp only [h8, if_false] at hr
  obtain rfl := Option.some.inj hr
  refine ⟨(), ?_⟩
  rotate_left
  simp only [h6, if_false] at hr
  rcases Classical.propComplete ((w64 (s5 - 1)) = 0) with h10 | h10
  simp only [h10, if_true] at hr
  rcases Classical.propComplete ((w64 (s6 + 1)) < (s1.length : Int)) with h11 | h11
  simp only [h11, if_true] at hr
  obtain rfl := Option.some.inj hr
  refine ⟨(.ret, ⟨[(0, .d (.rd (s0.map encSymbol))), (1, .d (.rd (s1.map intD))), (4, PI 32), (5, PI (w64 (s5 - 1))), (6, PI s6)], []⟩), ?_, nofun, rfl, [PI 32], rfl, ?_⟩
  rotate_left 2
  simp only [h11, if_false] at hr
  obtain rfl := Option.some.inj hr
  refine ⟨(), ?_⟩
  rotate_left
  simp only [h10, if_false] at hr
  obtain rfl := Option.some.inj hr
  refine ⟨(), ?_⟩
  rotate_left
  simp only [h1, if_false] at hr
  obtain rfl := Option.some.inj hr
  refine ⟨(.exit 0, ⟨[(0, .d (.rd (s0.map encSymbol))), (1, .d (.rd (s1.map intD))), (4, PI 0), (5, PI s5), (6, PI s6)], []⟩), ?_, nofun, rfl⟩
  rotate_left
  all_goals (simp (config := {decide := true}) only [go_sem, Int.reduceToNat, Nat.reduceAdd, Nat.reduceLT, Nat.reduceMul, Nat.reducePow, reduceCtorEq, r03_Term_S0, b49_0, *])
theorem r03_Term_L0 {s0 : List Symbol} {s1 : List Int} {s : Int × Int} {g : Unit} {x} (h : wh (r03_Term_l0 s0 s1) s = some x) : ∃ q, loopLim (semA C (Lim C) 18014433137672563 b49_0) (r03_Term_S0 s0 s1 s g) = some q ∧ r03_Term_X0 s0 s1 x q := wh_sim (r03_Term_R0 s0 s1) h
set_option maxHeartbeats 4000000 in
theorem r03_Term_R {a0 : List Symbol} {a1 : List Int} {r : Int} (hr : r03_Term a0 a1 = some r) : ∃ p hp, Lim C 49 [.d (.rd (a0.map encSymbol)), .d (.rd (a1.map intD))] [] = some (p, hp) ∧ rsT hp p = some (PI r) := by
  simp only [r03_Term] at hr
  obtain ⟨x3, h1, hr⟩ := bsome hr
  obtain ⟨q1, h1L, h1X⟩ := r03_Term_L0 (g := ()) h1
  rcases x3 with x4 | ⟨x5, x6⟩
  simp only [r03_Term_X0, r03_Term_S0] at h1X h1L
  obtain ⟨e1, st1⟩ := q1
  obtain ⟨rfl, h1R⟩ := h1X
  try simp only [go_sem, Nat.reduceAdd] at h1L
  obtain rfl := Option.some.inj hr
  refine run_ok is49 (Nat.le_of_ble_eq_true rfl) ?_ (.inr rfl) h1R
  rotate_left
  simp only [r03_Term_X0, r03_Term_S0] at h1X h1L
  subst h1X
  try simp only [go_sem, Nat.reduceAdd] at h1L
  obtain rfl := Option.some.inj hr
  refine run_ok is49 (Nat.le_of_ble_eq_true rfl) (q := (.ret, ⟨[(0, .d (.rd (a0.map encSymbol))), (1, .d (.rd (a1.map intD))), (4, PI 0), (5, PI x5), (6, PI x6)], []⟩)) ?_ (.inr rfl) ⟨[PI 0], rfl, ?_⟩
  rotate_left 2
  all_goals (simp (config := {decide := true}) only [go_sem, Int.reduceToNat, Nat.reduceAdd, Nat.reduceLT, Nat.reduceMul, Nat.reducePow, reduceCtorEq, callEnv, c49, *])
theorem r03_Term_k {a0 : List Symbol} {a1 : List Int} {r : Int} (hr : r03_Term a0 a1 = some r) {h : AHeap} : callP C (Lim C) 49 [.d (.rd (a0.map encSymbol)), .d (.rd (a1.map intD))] h = some (PI r, h) := call_of (ds := [.rd (a0.map encSymbol), .rd (a1.map intD)]) rfl rfl rfl (r03_Term_R hr) h
def c21 : ACode := .seq (.reg [] [] [.K 4 (.mv (cI 0))]) (.seq (.reg [] [] [.M 6 0, .T 7 (.call 48 [.tmp 6]), .N 5 7]) (.seq (.seq (.reg [] [] [.M 8 5, .K 9 (.bin .neq (.tmp 8) (cI 0))]) (.cond (.tmp 9) (some 9) (.seq (.reg [] [] [.M 10 5, .N 4 10]) (.ret)) (.skip))) (.seq (.reg [] [] [.M 11 0, .M 12 1, .T 13 (.call 49 [.tmp 11, .tmp 12]), .N 4 13]) (.ret))))
theorem is21 : IsF C 21 14 563 c21 [.tmp 4] := ⟨⟨Tryd.f21, _, C_P ▸ Tryd.func21, rfl, rfl, rfl, by kernel_rfl, rfl⟩⟩
set_option maxHeartbeats 4000000 in
theorem r03_Check_R {a0 : List Symbol} {a1 : List Int} {r : Int} (hr : r03_Check a0 a1 = some r) : ∃ p hp, Lim C 21 [.d (.rd (a0.map encSymbol)), .d (.rd (a1.map intD))] [] = some (p, hp) ∧ rsT hp p = some (PI r) := by
  simp only [r03_Check] at hr
  obtain ⟨x1, h1, hr⟩ := bsome hr
  have h1k := fun h => r03_CheckSig_k (h := h) h1
  try simp only [go_sem] at h1k
  rcases Classical.propComplete (x1 = 0) with h2 | h2
  simp only [h2, if_true] at hr
  obtain ⟨x2, h3, hr⟩ := bsome hr
  have h3k := fun h => r03_Term_k (h := h) h3
  try simp only [go_sem] at h3k
  obtain rfl := Option.some.inj hr
  refine run_ok is21 (Nat.le_of_ble_eq_true rfl) (q := (.ret, ⟨[(0, .d (.rd (a0.map encSymbol))), (1, .d (.rd (a1.map intD))), (4, PI x2), (5, PI x1)], []⟩)) ?_ (.inr rfl) ⟨[PI x2], rfl, ?_⟩
  rotate_left 2
  simp only [h2, if_false] at hr
  obtain rfl := Option.some.inj hr
  refine run_ok is21 (Nat.le_of_ble_eq_true rfl) (q := (.ret, ⟨[(0, .d (.rd (a0.map encSymbol))), (1, .d (.rd (a1.map intD))), (4, PI x1), (5, PI x1)], []⟩)) ?_ (.inr rfl) ⟨[PI x1], rfl, ?_⟩
  rotate_left 2
  all_goals (simp (config := {decide := true}) only [go_sem, Int.reduceToNat, Nat.reduceAdd, Nat.reduceLT, Nat.reduceMul, Nat.reducePow, reduceCtorEq, callEnv, c21, *])
theorem r03_Check_k {a0 : List Symbol} {a1 : List Int} {r : Int} (hr : r03_Check a0 a1 = some r) {h : AHeap} : callP C (Lim C) 21 [.d (.rd (a0.map encSymbol)), .d (.rd (a1.map intD))] h = some (PI r, h) := call_of (ds := [.rd (a0.map encSymbol), .rd (a1.map intD)]) rfl rfl rfl (r03_Check_R hr) h
def b31_0 : ACode := .seq (.seq (.reg [] [] [.M 12 6, .M 13 1, .T 14 (.len (.tmp 13)), .K 15 (.bin .lss (.tmp 12) (.tmp 14))]) (.cond (.tmp 15) (some 15) (.skip) (.exit 0))) (.seq (.block 1 72198333673799680 (.seq (.seq (.reg [] [] [.M 18 1, .M 19 6, .T 20 (.ix 2 (.tmp 18) (.tmp 19)), .T 21 (.fa 0 (.tmp 20)), .T 22 (.load none (.tmp 21)), .T 23 (.bin .lss (.tmp 22) (cI 0)), .M 24 23, .MG 25 24 false 1, .MG 26 24 false 6, .TG 27 24 false (.ix 2 (.tmp 25) (.tmp 26)), .TG 28 24 false (.fa 0 (.tmp 27)), .TG 29 24 false (.load none (.tmp 28)), .TG 30 24 false (.bin .geq (.tmp 29) (cI 1048576)), .K 31 (.pick (.tmp 24) (.const (.bool true)) (.tmp 30))]) (.cond (.tmp 31) (some 31) (.seq (.reg [] [] [.K 4 (.mv (cI 40))]) (.ret)) (.skip))) (.seq (.seq (.reg [] [] [.M 32 6, .T 33 (.bin .gtr (.tmp 32) (cI 0)), .M 34 33, .MG 35 34 true 1, .MG 36 34 true 6, ⟨some (37, false), .ix 2 (.tmp 35) (.tmp 36), some (34, true), true, false⟩, .TG 38 34 true (.fa 0 (.tmp 37)), ⟨some (39, false), .load none (.tmp 38), some (34, true), true, false⟩, .MG 40 34 true 1, .MG 41 34 true 6, .TG 42 34 true (.bin .sub (.tmp 41) (cI 1)), ⟨some (43, false), .ix 2 (.tmp 40) (.tmp 42), some (34, true), true, false⟩, .TG 44 34 true (.fa 0 (.tmp 43)), ⟨some (45, false), .load none (.tmp 44), some (34, true), true, false⟩, .TG 46 34 true (.bin .leq (.tmp 39) (.tmp 45)), .K 47 (.pick (.tmp 34) (.tmp 46) (.const (.bool false)))]) (.cond (.tmp 47) (some 47) (.seq (.reg [] [] [.K 4 (.mv (cI 41))]) (.ret)) (.skip))) (.seq (.reg [] [] [.M 48 0, .M 49 1, .M 50 6, .T 51 (.ix 2 (.tmp 49) (.tmp 50)), .T 52 (.fa 1 (.tmp 51)), .T 53 (.load none (.tmp 52)), .T 54 (.call 21 [.tmp 48, .tmp 53]), .N 5 54]) (.seq (.reg [] [] [.M 55 5, .K 56 (.bin .neq (.tmp 55) (cI 0))]) (.cond (.tmp 56) (some 56) (.seq (.reg [] [] [.M 57 5, .N 4 57]) (.ret)) (.skip))))))) (.reg [] [] [.M 16 6, .T 17 (.bin .add (.tmp 16) (cI 1)), .N 6 17]))
def c31 : ACode := .seq (.reg [] [] [.K 4 (.mv (cI 0))]) (.seq (.reg [] [] [.M 7 0, .T 8 (.call 48 [.tmp 7]), .N 5 8]) (.seq (.seq (.reg [] [] [.M 9 5, .K 10 (.bin .neq (.tmp 9) (cI 0))]) (.cond (.tmp 10) (some 10) (.seq (.reg [] [] [.M 11 5, .N 4 11]) (.ret)) (.skip))) (.seq (.seq (.reg [] [] [.K 6 (.mv (cI 0))]) (.block 0 72198333673799680 (.loop b31_0))) (.seq (.reg [] [] [.K 4 (.mv (cI 0))]) (.ret)))))
theorem is31 : IsF C 31 58 72198333673800819 c31 [.tmp 4] := ⟨⟨Tryd.f31, _, C_P ▸ Tryd.func31, rfl, rfl, rfl, by kernel_rfl, rfl⟩⟩
def r04_Check_S0 (s0 : List Symbol) (s1 : List Bind) : Int × Int → Unit → St := fun (s5, s6) _ => ⟨[(0, .d (.rd (s0.map encSymbol))), (1, .d (.rd (s1.map encBind))), (4, PI 0), (5, PI s5), (6, PI s6)], []⟩
def r04_Check_X0 (s0 : List Symbol) (s1 : List Bind) : (Int ⊕ (Int × Int)) → AExit × St → Prop
  | .inl r, q => q.1 = .ret ∧ RetOK C [.tmp 4] q.2 (PI r)
  | .inr (s5, s6), q => q = (.exit 0, ⟨[(0, .d (.rd (s0.map encSymbol))), (1, .d (.rd (s1.map encBind))), (4, PI 0), (5, PI s5), (6, PI s6)], []⟩)
set_option maxHeartbeats 4000000 in
theorem r04_Check_R0 (s0 : List Symbol) (s1 : List Bind) : ∀ (s : Int × Int) (g : Unit) r, r04_Check_l0 s0 s1 s = some r → Sum.elim (fun s' => ∃ g', semA C (Lim C) 72198333673800819 b31_0 (r04_Check_S0 s0 s1 s g) = some (.normal, r04_Check_S0 s0 s1 s' g')) (fun x => ∃ q, semA C (Lim C) 72198333673800819 b31_0 (r04_Check_S0 s0 s1 s g) = some q ∧ q.1 ≠ .normal ∧ r04_Check_X0 s0 s1 x q) r := by
  intro s g r hr
  obtain ⟨s5, s6⟩ := s
  simp only [r04_Check_l0] at hr
  rcases Classical.propComplete (s6 < (s1.length : Int)) with h1 | h1
  simp only [h1, if_true] at hr
  obtain ⟨x2, h2, hr⟩ := bsome hr
  rcases Classical.propComplete (x2.Var < 0) with h3 | h3
  simp only [h3, if_true] at hr
  obtain rfl := Option.some.inj hr
  refine ⟨(.ret, ⟨[(0, .d (.rd (s0.map encSymbol))), (1, .d (.rd (s1.map encBind))), (4, PI 40), (5, PI s5), (6, PI s6)], []⟩), ?_, nofun, rfl, [PI 40], rfl, ?_⟩
  rotate_left 2
  simp only [h3, if_false] at hr
  rcases Classical.propComplete (1048576 ≤ x2.Var) with h4 | h4
  simp only [h4, if_true] at hr
  obtain rfl := Option.some.inj hr
  refine ⟨(.ret, ⟨[(0, .d (.rd (s0.map encSymbol))), (1, .d (.rd (s1.map encBind))), (4, PI 40), (5, PI s5), (6, PI s6)], []⟩), ?_, nofun, rfl, [PI 40], rfl, ?_⟩
  rotate_left 2
  simp only [h4, if_false] at hr
  rcases Classical.propComplete (0 < s6) with h5 | h5
  simp only [h5, if_true] at hr
  obtain ⟨x3, h6, hr⟩ := bsome hr
  rcases Classical.propComplete (x2.Var ≤ x3.Var) with h7 | h7
  simp only [h7, if_true] at hr
  obtain rfl := Option.some.inj hr
  refine ⟨(.ret, ⟨[(0, .d (.rd (s0.map encSymbol))), (1, .d (.rd (s1.map encBind))), (4, PI 41), (5, PI s5), (6, PI s6)], []⟩), ?_, nofun, rfl, [PI 41], rfl, ?_⟩
  rotate_left 2
  simp only [h7, if_false] at hr
  obtain ⟨x4, h8, hr⟩ := bsome hr
  have h8k := fun h => r03_Check_k (h := h) h8
  try simp only [go_sem] at h8k
  rcases Classical.propComplete (x4 = 0) with h9 | h9
  simp only [h9, if_true] at hr
  obtain rfl := Option.some.inj hr
  refine ⟨(), ?_⟩
  rotate_left
  simp only [h9, if_false] at hr
  obtain rfl := Option.some.inj hr
  refine ⟨(.ret, ⟨[(0, .d (.rd (s0.map encSymbol))), (1, .d (.rd (s1.map encBind))), (4, PI x4), (5, PI x4), (6, PI s6)], []⟩), ?_, nofun, rfl, [PI x4], rfl, ?_⟩
  rotate_left 2
  simp only [h5, if_false] at hr
  obtain ⟨x5, h10, hr⟩ := bsome hr
  have h10k := fun h => r03_Check_k (h := h) h10
  try simp only [go_sem] at h10k
  rcases Classical.propComplete (x5 = 0) with h11 | h11
  simp only [h11, if_true] at hr
  obtain rfl := Option.some.inj hr
  refine ⟨(), ?_⟩
  rotate_left
  simp only [h11, if_false] at hr
  obtain rfl := Option.some.inj hr
  refine ⟨(.ret, ⟨[(0, .d (.rd (s0.map encSymbol))), (1, .d (.rd (s1.map encBind))), (4, PI x5), (5, PI x5), (6, PI s6)], []⟩), ?_, nofun, rfl, [PI x5], rfl, ?_⟩
  rotate_left 2
  simp only [h1, if_false] at hr
  obtain rfl := Option.some.inj hr
  refine ⟨(.exit 0, ⟨[(0, .d (.rd (s0.map encSymbol))), (1, .d (.rd (s1.map encBind))), (4, PI 0), (5, PI s5), (6, PI s6)], []⟩), ?_, nofun, rfl⟩
  rotate_left
  all_goals (simp (config := {decide := true}) only [go_sem, Int.reduceToNat, Nat.reduceAdd, Nat.reduceLT, Nat.reduceMul, Nat.reducePow, reduceCtorEq, r04_Check_S0, b31_0, *])
theorem r04_Check_L0 {s0 : List Symbol} {s1 : List Bind} {s : Int × Int} {g : Unit} {x} (h : wh (r04_Check_l0 s0 s1) s = some x) : ∃ q, loopLim (semA C (Lim C) 72198333673800819 b31_0) (r04_Check_S0 s0 s1 s g) = some q ∧ r04_Check_X0 s0 s1 x q := wh_sim (r04_Check_R0 s0 s1) h
set_option maxHeartbeats 4000000 in
theorem r04_Check_R {a0 : List Symbol} {a1 : List Bind} {r : Int} (hr : r04_Check a0 a1 = some r) : ∃ p hp, Lim C 31 [.d (.rd (a0.map encSymbol)), .d (.rd (a1.map encBind))] [] = some (p, hp) ∧ rsT hp p = some (PI r) := by
  simp only [r04_Check] at hr
  obtain ⟨x1, h1, hr⟩ := bsome hr
  have h1k := fun h => r03_CheckSig_k (h := h) h1
  try simp only [go_sem] at h1k
  rcases Classical.propComplete (x1 = 0) with h2 | h2
  simp only [h2, if_true] at hr
  obtain ⟨x6, h3, hr⟩ := bsome hr
  obtain ⟨q3, h3L, h3X⟩ := r04_Check_L0 (g := ()) h3
  rcases x6 with x7 | ⟨x8, x9⟩
  simp only [r04_Check_X0, r04_Check_S0] at h3X h3L
  obtain ⟨e3, st3⟩ := q3
  obtain ⟨rfl, h3R⟩ := h3X
  try simp only [go_sem, Nat.reduceAdd] at h3L
  obtain rfl := Option.some.inj hr
  refine run_ok is31 (Nat.le_of_ble_eq_true rfl) ?_ (.inr rfl) h3R
  rotate_left
  simp only [r04_Check_X0, r04_Check_S0] at h3X h3L
  subst h3X
  try simp only [go_sem, Nat.reduceAdd] at h3L
  obtain rfl := Option.some.inj hr
  refine run_ok is31 (Nat.le_of_ble_eq_true rfl) (q := (.ret, ⟨[(0, .d (.rd (a0.map encSymbol))), (1, .d (.rd (a1.map encBind))), (4, PI 0), (5, PI x8), (6, PI x9)], []⟩)) ?_ (.inr rfl) ⟨[PI 0], rfl, ?_⟩
  rotate_left 2
  simp only [h2, if_false] at hr
  obtain rfl := Option.some.inj hr
  refine run_ok is31 (Nat.le_of_ble_eq_true rfl) (q := (.ret, ⟨[(0, .d (.rd (a0.map encSymbol))), (1, .d (.rd (a1.map encBind))), (4, PI x1), (5, PI x1)], []⟩)) ?_ (.inr rfl) ⟨[PI x1], rfl, ?_⟩
  rotate_left 2
  all_goals (simp (config := {decide := true}) only [go_sem, Int.reduceToNat, Nat.reduceAdd, Nat.reduceLT, Nat.reduceMul, Nat.reducePow, reduceCtorEq, callEnv, c31, *])
theorem r04_Check_k {a0 : List Symbol} {a1 : List Bind} {r : Int} (hr : r04_Check a0 a1 = some r) {h : AHeap} : callP C (Lim C) 31 [.d (.rd (a0.map encSymbol)), .d (.rd (a1.map encBind))] h = some (PI r, h) := call_of (ds := [.rd (a0.map encSymbol), .rd (a1.map encBind)]) rfl rfl rfl (r04_Check_R hr) h
def b82_0 : ACode := .seq (.seq (.reg [] [] [.M 7 6, .M 8 0, .T 9 (.len (.tmp 8)), .K 10 (.bin .lss (.tmp 7) (.tmp 9))]) (.cond (.tmp 10) (some 10) (.skip) (.exit 0))) (.seq (.block 1 525312 (.seq (.reg [] [] [.M 13 0, .M 14 6, .T 15 (.ix 2 (.tmp 13) (.tmp 14)), .T 16 (.fa 0 (.tmp 15)), .T 17 (.load none (.tmp 16)), .M 18 1, .K 19 (.bin .eql (.tmp 17) (.tmp 18))]) (.cond (.tmp 19) (some 19) (.seq (.reg [] [] [.M 20 0, .M 21 6, .T 22 (.ix 2 (.tmp 20) (.tmp 21)), .T 23 (.fa 1 (.tmp 22)), .T 24 (.load none (.tmp 23)), .N 4 24, .K 5 (.mv (.const (.bool true)))]) (.ret)) (.skip)))) (.reg [] [] [.M 11 6, .T 12 (.bin .add (.tmp 11) (cI 1)), .N 6 12]))
def c82 : ACode := .seq (.reg [] [(4, 0)] [.K 4 (.mv (.const (.slice none 0 0))), .K 5 (.mv (.const (.bool false)))]) (.seq (.seq (.reg [] [] [.K 6 (.mv (cI 0))]) (.block 0 525312 (.loop b82_0))) (.seq (.reg [] [(4, 0)] [.K 4 (.mv (.const (.slice none 0 0))), .K 5 (.mv (.const (.bool false)))]) (.ret)))
theorem is82 : IsF C 82 25 525427 c82 [.tmp 4, .tmp 5] := ⟨⟨Tryd.f82, _, C_P ▸ Tryd.func82, rfl, rfl, rfl, by kernel_rfl, rfl⟩⟩
def r04_bound_S0 (s0 : List Bind) (s1 : Int) (s4 : List Int) : Int → Unit → St := fun s6 _ => ⟨[(0, .d (.rd (s0.map encBind))), (1, PI s1), (4, .d (.rd (s4.map intD))), (5, PB false), (6, PI s6)], []⟩
def r04_bound_X0 (s0 : List Bind) (s1 : Int) (s4 : List Int) : (((List Int) × Bool) ⊕ Int) → AExit × St → Prop
  | .inl r, q => q.1 = .ret ∧ RetOK C [.tmp 4, .tmp 5] q.2 (.tp [.d (.rd (r.1.map intD)), PB r.2])
  | .inr s6, q => q = (.exit 0, ⟨[(0, .d (.rd (s0.map encBind))), (1, PI s1), (4, .d (.rd (s4.map intD))), (5, PB false), (6, PI s6)], []⟩)
set_option maxHeartbeats 4000000 in
theorem r04_bound_R0 (s0 : List Bind) (s1 : Int) (s4 : List Int) : ∀ (s : Int) (g : Unit) r, r04_bound_l0 s0 s1 s4 s = some r → Sum.elim (fun s' => ∃ g', semA C (Lim C) 525427 b82_0 (r04_bound_S0 s0 s1 s4 s g) = some (.normal, r04_bound_S0 s0 s1 s4 s' g')) (fun x => ∃ q, semA C (Lim C) 525427 b82_0 (r04_bound_S0 s0 s1 s4 s g) = some q ∧ q.1 ≠ .normal ∧ r04_bound_X0 s0 s1 s4 x q) r := by
  intro s g r hr
  have ⟨s6, hs0⟩ : ∃ y, y = s := ⟨_, rfl⟩
  subst hs0
  simp only [r04_bound_l0] at hr
  rcases Classical.propComplete (s6 < (s0.length : Int)) with h1 | h1
  simp only [h1, if_true] at hr
  obtain ⟨x1, h2, hr⟩ := bsome hr
  rcases Classical.propComplete (x1.Var = s1) with h3 | h3
  simp only [h3, if_true] at hr
  obtain rfl := Option.some.inj hr
  refine ⟨(.ret, ⟨[(0, .d (.rd (s0.map encBind))), (1, PI s1), (4, .d (.rd (x1.T.map intD))), (5, PB true), (6, PI s6)], []⟩), ?_, nofun, rfl, [.d (.rd (x1.T.map intD)), PB true], rfl, ?_⟩
  rotate_left 2
  simp only [h3, if_false] at hr
  obtain rfl := Option.some.inj hr
  refine ⟨(), ?_⟩
  rotate_left
  simp only [h1, if_false] at hr
  obtain rfl := Option.some.inj hr
  refine ⟨(.exit 0, ⟨[(0, .d (.rd (s0.map encBind))), (1, PI s1), (4, .d (.rd (s4.map intD))), (5, PB false), (6, PI s6)], []⟩), ?_, nofun, rfl⟩
  rotate_left
  all_goals (simp (config := {decide := true}) only [go_sem, Int.reduceToNat, Nat.reduceAdd, Nat.reduceLT, Nat.reduceMul, Nat.reducePow, reduceCtorEq, r04_bound_S0, b82_0, *])
theorem r04_bound_L0 {s0 : List Bind} {s1 : Int} {s4 : List Int} {s : Int} {g : Unit} {x} (h : wh (r04_bound_l0 s0 s1 s4) s = some x) : ∃ q, loopLim (semA C (Lim C) 525427 b82_0) (r04_bound_S0 s0 s1 s4 s g) = some q ∧ r04_bound_X0 s0 s1 s4 x q := wh_sim (r04_bound_R0 s0 s1 s4) h
set_option maxHeartbeats 4000000 in
theorem r04_bound_R {a0 : List Bind} {a1 : Int} {r : (List Int) × Bool} (hr : r04_bound a0 a1 = some r) : ∃ p hp, Lim C 82 [.d (.rd (a0.map encBind)), PI a1] [] = some (p, hp) ∧ rsT hp p = some (.tp [.d (.rd (r.1.map intD)), PB r.2]) := by
  simp only [r04_bound] at hr
  obtain ⟨x2, h1, hr⟩ := bsome hr
  obtain ⟨q1, h1L, h1X⟩ := r04_bound_L0 (g := ()) h1
  rcases x2 with x3 | x4
  simp only [r04_bound_X0, r04_bound_S0] at h1X h1L
  obtain ⟨e1, st1⟩ := q1
  obtain ⟨rfl, h1R⟩ := h1X
  try simp only [go_sem, Nat.reduceAdd] at h1L
  obtain rfl := Option.some.inj hr
  refine run_ok is82 (Nat.le_of_ble_eq_true rfl) ?_ (.inr rfl) h1R
  rotate_left
  simp only [r04_bound_X0, r04_bound_S0] at h1X h1L
  subst h1X
  try simp only [go_sem, Nat.reduceAdd] at h1L
  obtain rfl := Option.some.inj hr
  refine run_ok is82 (Nat.le_of_ble_eq_true rfl) (q := (.ret, ⟨[(0, .d (.rd (a0.map encBind))), (1, PI a1), (4, .d (.rd (([] : List Int).map intD))), (5, PB false), (6, PI x4)], []⟩)) ?_ (.inr rfl) ⟨[.d (.rd (([] : List Int).map intD)), PB false], rfl, ?_⟩
  rotate_left 2
  all_goals (simp (config := {decide := true}) only [go_sem, Int.reduceToNat, Nat.reduceAdd, Nat.reduceLT, Nat.reduceMul, Nat.reducePow, reduceCtorEq, callEnv, c82, *])
theorem r04_bound_k {a0 : List Bind} {a1 : Int} {r : (List Int) × Bool} (hr : r04_bound a0 a1 = some r) {h : AHeap} : callP C (Lim C) 82 [.d (.rd (a0.map encBind)), PI a1] h = some (.tp [.d (.rd (r.1.map intD)), PB r.2], h) := call_of (ds := [.rd (a0.map encBind), .v (.int .i64 a1)]) rfl rfl rfl (r04_bound_R hr) h
def b59_0 : ACode := .seq (.seq (.reg [] [] [.M 14 9, .M 15 1, .T 16 (.len (.tmp 15)), .K 17 (.bin .lss (.tmp 14) (.tmp 16))]) (.cond (.tmp 17) (some 17) (.skip) (.exit 0))) (.seq (.block 1 282575025347584 (.seq (.reg [] [] [.M 20 1, .M 21 9, .M 22 9, .T 23 (.bin .add (.tmp 22) (cI 1)), .T 24 (.cut 1 (.tmp 20) (some (.tmp 21)) (some (.tmp 23))), .N 10 24]) (.seq (.seq (.reg [] [] [.M 25 1, .M 26 9, .T 27 (.ix 1 (.tmp 25) (.tmp 26)), .T 28 (.load none (.tmp 27)), .K 29 (.bin .lss (.tmp 28) (cI 0))]) (.cond (.tmp 29) (some 29) (.seq (.reg [] [] [.M 31 0, .M 32 1, .M 33 9, .T 34 (.ix 1 (.tmp 32) (.tmp 33)), .T 35 (.load none (.tmp 34)), .T 36 (.bin .sub (cI (-1)) (.tmp 35)), .T 37 (.call 82 [.tmp 31, .tmp 36]), .M 30 37, .T 38 (.ext (.tmp 30) 0), .T 39 (.ext (.tmp 30) 1), .N 11 38, .N 12 39]) (.seq (.reg [] [] [.N 40 12]) (.cond (.tmp 40) (some 40) (.reg [] [] [.M 41 11, .N 10 41]) (.skip)))) (.skip))) (.seq (.seq (.reg [] [] [.M 42 10, .T 43 (.len (.tmp 42)), .M 44 2, .M 45 8, .T 46 (.len (.tmp 45)), .T 47 (.bin .sub (.tmp 44) (.tmp 46)), .K 48 (.bin .gtr (.tmp 43) (.tmp 47))]) (.cond (.tmp 48) (some 48) (.seq (.reg [] [(6, 0)] [.K 6 (.mv (.const (.slice none 0 0))), .K 7 (.mv (.const (.bool false)))]) (.ret)) (.skip))) (.reg [] [] [.M 49 8, .M 50 10, .T 51 (.app 1 8 (.tmp 49) (.tmp 50)), .N 8 51]))))) (.reg [] [] [.M 18 9, .T 19 (.bin .add (.tmp 18) (cI 1)), .N 9 19]))
def c59 : ACode := .seq (.reg [] [(6, 0)] [.K 6 (.mv (.const (.slice none 0 0))), .K 7 (.mv (.const (.bool false)))]) (.seq (.reg [] [(8, 1)] [.T 13 (.lit 1 []), .N 8 13]) (.seq (.seq (.reg [] [] [.K 9 (.mv (cI 0))]) (.block 0 282575025347584 (.loop b59_0))) (.seq (.reg [] [(6, 0)] [.M 52 8, .N 6 52, .K 7 (.mv (.const (.bool true)))]) (.ret))))
theorem is59 : IsF C 59 53 282575025348551 c59 [.tmp 6, .tmp 7] := ⟨⟨Tryd.f59, _, C_P ▸ Tryd.func59, rfl, rfl, rfl, by kernel_rfl, rfl⟩⟩
def r04_Laid_S0 (s0 : List Bind) (s1 : List Int) (s2 : Int) (s6 : List Int) : Int × (List Int) → Nat → St := fun (s9, o8) v8 => ⟨[(0, .d (.rd (s0.map encBind))), (1, .d (.rd (s1.map intD))), (2, PI s2), (6, .d (.rd (s6.map intD))), (7, PB false), (8, .ref 0 v8 0 o8.length), (9, PI s9)], (.row false v8 1 (rowP intD o8) :: [])⟩
def r04_Laid_X0 (s0 : List Bind) (s1 : List Int) (s2 : Int) (s6 : List Int) : (((List Int) × Bool) ⊕ (Int × (List Int))) → AExit × St → Prop
  | .inl r, q => q.1 = .ret ∧ RetOK C [.tmp 6, .tmp 7] q.2 (.tp [.d (.rd (r.1.map intD)), PB r.2])
  | .inr (s9, o8), q => ∃ v8 : Nat, q = (.exit 0, ⟨[(0, .d (.rd (s0.map encBind))), (1, .d (.rd (s1.map intD))), (2, PI s2), (6, .d (.rd (s6.map intD))), (7, PB false), (8, .ref 0 v8 0 o8.length), (9, PI s9)], (.row false v8 1 (rowP intD o8) :: [])⟩)
set_option maxHeartbeats 4000000 in
theorem r04_Laid_R0 (s0 : List Bind) (s1 : List Int) (s2 : Int) (s6 : List Int) : ∀ (s : Int × (List Int)) (g : Nat) r, r04_Laid_l0 s0 s1 s2 s6 s = some r → Sum.elim (fun s' => ∃ g', semA C (Lim C) 282575025348551 b59_0 (r04_Laid_S0 s0 s1 s2 s6 s g) = some (.normal, r04_Laid_S0 s0 s1 s2 s6 s' g')) (fun x => ∃ q, semA C (Lim C) 282575025348551 b59_0 (r04_Laid_S0 s0 s1 s2 s6 s g) = some q ∧ q.1 ≠ .normal ∧ r04_Laid_X0 s0 s1 s2 s6 x q) r := by
  intro s g r hr
  obtain ⟨s9, o8⟩ := s
  have ⟨v8, hg0⟩ : ∃ y, y = g := ⟨_, rfl⟩
  subst hg0
  simp only [r04_Laid_l0] at hr
  rcases Classical.propComplete (s9 < (s1.length : Int)) with h1 | h1
  simp only [h1, if_true] at hr
  obtain ⟨x1, h2, hr⟩ := bsome hr
  obtain ⟨x2, h3, hr⟩ := bsome hr
  rcases Classical.propComplete (x2 < 0) with h4 | h4
  simp only [h4, if_true] at hr
  obtain ⟨x3, h5, hr⟩ := bsome hr
  have h5k := fun h => r04_bound_k (h := h) h5
  try simp only [go_sem] at h5k
  cases h6 : x3.2
  simp only [h6, Bool.false_eq_true, if_false] at hr
  rcases Classical.propComplete ((w64 (s2 - (o8.length : Int))) < (x1.length : Int)) with h9 | h9
  simp only [h9, if_true] at hr
  obtain rfl := Option.some.inj hr
  refine ⟨(.ret, ⟨[(0, .d (.rd (s0.map encBind))), (1, .d (.rd (s1.map intD))), (2, PI s2), (6, .d (.rd (([] : List Int).map intD))), (7, PB false), (8, .ref 0 v8 0 o8.length), (9, PI s9), (10, .d (.rd (x1.map intD))), (11, .d (.rd (x3.1.map intD))), (12, PB x3.2)], (.row false v8 1 (rowP intD o8) :: [])⟩), ?_, nofun, rfl, [.d (.rd (([] : List Int).map intD)), PB false], rfl, ?_⟩
  rotate_left 2
  simp only [h9, if_false] at hr
  obtain ⟨h10, hr⟩ := gsome hr
  obtain rfl := Option.some.inj hr
  refine ⟨(v8 + 1), ?_⟩
  rotate_left
  simp only [h6, if_true] at hr
  rcases Classical.propComplete ((w64 (s2 - (o8.length : Int))) < (x3.1.length : Int)) with h7 | h7
  simp only [h7, if_true] at hr
  obtain rfl := Option.some.inj hr
  refine ⟨(.ret, ⟨[(0, .d (.rd (s0.map encBind))), (1, .d (.rd (s1.map intD))), (2, PI s2), (6, .d (.rd (([] : List Int).map intD))), (7, PB false), (8, .ref 0 v8 0 o8.length), (9, PI s9), (10, .d (.rd (x3.1.map intD))), (11, .d (.rd (x3.1.map intD))), (12, PB x3.2)], (.row false v8 1 (rowP intD o8) :: [])⟩), ?_, nofun, rfl, [.d (.rd (([] : List Int).map intD)), PB false], rfl, ?_⟩
  rotate_left 2
  simp only [h7, if_false] at hr
  obtain ⟨h8, hr⟩ := gsome hr
  obtain rfl := Option.some.inj hr
  refine ⟨(v8 + 1), ?_⟩
  rotate_left
  simp only [h4, if_false] at hr
  rcases Classical.propComplete ((w64 (s2 - (o8.length : Int))) < (x1.length : Int)) with h11 | h11
  simp only [h11, if_true] at hr
  obtain rfl := Option.some.inj hr
  refine ⟨(.ret, ⟨[(0, .d (.rd (s0.map encBind))), (1, .d (.rd (s1.map intD))), (2, PI s2), (6, .d (.rd (([] : List Int).map intD))), (7, PB false), (8, .ref 0 v8 0 o8.length), (9, PI s9), (10, .d (.rd (x1.map intD)))], (.row false v8 1 (rowP intD o8) :: [])⟩), ?_, nofun, rfl, [.d (.rd (([] : List Int).map intD)), PB false], rfl, ?_⟩
  rotate_left 2
  simp only [h11, if_false] at hr
  obtain ⟨h12, hr⟩ := gsome hr
  obtain rfl := Option.some.inj hr
  refine ⟨(v8 + 1), ?_⟩
  rotate_left
  simp only [h1, if_false] at hr
  obtain rfl := Option.some.inj hr
  refine ⟨(.exit 0, ⟨[(0, .d (.rd (s0.map encBind))), (1, .d (.rd (s1.map intD))), (2, PI s2), (6, .d (.rd (s6.map intD))), (7, PB false), (8, .ref 0 v8 0 o8.length), (9, PI s9)], (.row false v8 1 (rowP intD o8) :: [])⟩), ?_, nofun, v8, rfl⟩
  rotate_left
  all_goals (simp (config := {decide := true}) only [go_sem, Int.reduceToNat, Nat.reduceAdd, Nat.reduceLT, Nat.reduceMul, Nat.reducePow, reduceCtorEq, r04_Laid_S0, b59_0, *])
theorem r04_Laid_L0 {s0 : List Bind} {s1 : List Int} {s2 : Int} {s6 : List Int} {s : Int × (List Int)} {g : Nat} {x} (h : wh (r04_Laid_l0 s0 s1 s2 s6) s = some x) : ∃ q, loopLim (semA C (Lim C) 282575025348551 b59_0) (r04_Laid_S0 s0 s1 s2 s6 s g) = some q ∧ r04_Laid_X0 s0 s1 s2 s6 x q := wh_sim (r04_Laid_R0 s0 s1 s2 s6) h
set_option maxHeartbeats 4000000 in
theorem r04_Laid_R {a0 : List Bind} {a1 : List Int} {a2 : Int} {r : (List Int) × Bool} (hr : r04_Laid a0 a1 a2 = some r) : ∃ p hp, Lim C 59 [.d (.rd (a0.map encBind)), .d (.rd (a1.map intD)), PI a2] [] = some (p, hp) ∧ rsT hp p = some (.tp [.d (.rd (r.1.map intD)), PB r.2]) := by
  simp only [r04_Laid] at hr
  obtain ⟨x4, h1, hr⟩ := bsome hr
  obtain ⟨q1, h1L, h1X⟩ := r04_Laid_L0 (g := 0) h1
  rcases x4 with x5 | ⟨x6, x7⟩
  simp only [r04_Laid_X0, r04_Laid_S0] at h1X h1L
  obtain ⟨e1, st1⟩ := q1
  obtain ⟨rfl, h1R⟩ := h1X
  try simp only [go_sem, Nat.reduceAdd] at h1L
  obtain rfl := Option.some.inj hr
  refine run_ok is59 (Nat.le_of_ble_eq_true rfl) ?_ (.inr rfl) h1R
  rotate_left
  simp only [r04_Laid_X0, r04_Laid_S0] at h1X h1L
  obtain ⟨z8, rfl⟩ := h1X
  try simp only [go_sem, Nat.reduceAdd] at h1L
  obtain rfl := Option.some.inj hr
  refine run_ok is59 (Nat.le_of_ble_eq_true rfl) (q := (.ret, ⟨[(0, .d (.rd (a0.map encBind))), (1, .d (.rd (a1.map intD))), (2, PI a2), (6, .d (.rd (x7.map intD))), (7, PB true), (8, .ref 0 z8 0 x7.length), (9, PI x6)], (.row true z8 1 (rowP intD x7) :: [])⟩)) ?_ (.inr rfl) ⟨[.d (.rd (x7.map intD)), PB true], rfl, ?_⟩
  rotate_left 2
  all_goals (simp (config := {decide := true}) only [go_sem, Int.reduceToNat, Nat.reduceAdd, Nat.reduceLT, Nat.reduceMul, Nat.reducePow, reduceCtorEq, callEnv, c59, *])
theorem r04_Laid_k {a0 : List Bind} {a1 : List Int} {a2 : Int} {r : (List Int) × Bool} (hr : r04_Laid a0 a1 a2 = some r) {h : AHeap} : callP C (Lim C) 59 [.d (.rd (a0.map encBind)), .d (.rd (a1.map intD)), PI a2] h = some (.tp [.d (.rd (r.1.map intD)), PB r.2], h) := call_of (ds := [.rd (a0.map encBind), .rd (a1.map intD), .v (.int .i64 a2)]) rfl rfl rfl (r04_Laid_R hr) h
def c32 : ACode := .seq (.reg [] [(6, 0)] [.K 6 (.mv (.const (.slice none 0 0))), .K 7 (.mv (cI 0))]) (.seq (.reg [] [] [.M 11 0, .M 12 1, .T 13 (.call 31 [.tmp 11, .tmp 12]), .N 8 13]) (.seq (.seq (.reg [] [] [.M 14 8, .K 15 (.bin .neq (.tmp 14) (cI 0))]) (.cond (.tmp 15) (some 15) (.seq (.reg [] [(6, 0)] [.M 16 8, .K 6 (.mv (.const (.slice none 0 0))), .N 7 16]) (.ret)) (.skip))) (.seq (.reg [] [] [.M 17 0, .M 18 2, .T 19 (.call 21 [.tmp 17, .tmp 18]), .N 8 19]) (.seq (.seq (.reg [] [] [.M 20 8, .K 21 (.bin .neq (.tmp 20) (cI 0))]) (.cond (.tmp 21) (some 21) (.seq (.reg [] [(6, 0)] [.M 22 8, .K 6 (.mv (.const (.slice none 0 0))), .N 7 22]) (.ret)) (.skip))) (.seq (.reg [] [] [.M 24 1, .M 25 2, .T 26 (.call 59 [.tmp 24, .tmp 25, .const (.int .i64 512)]), .M 23 26, .T 27 (.ext (.tmp 23) 0), .T 28 (.ext (.tmp 23) 1), .N 9 27, .N 10 28]) (.seq (.seq (.reg [] [] [.M 29 10, .K 30 (.not (.tmp 29))]) (.cond (.tmp 30) (some 30) (.seq (.reg [] [(6, 0)] [.K 6 (.mv (.const (.slice none 0 0))), .K 7 (.mv (cI 2))]) (.ret)) (.skip))) (.seq (.reg [] [] [.M 31 9, .N 6 31, .K 7 (.mv (cI 0))]) (.ret))))))))
theorem is32 : IsF C 32 32 1075873735 c32 [.tmp 6, .tmp 7] := ⟨⟨Tryd.f32, _, C_P ▸ Tryd.func32, rfl, rfl, rfl, by kernel_rfl, rfl⟩⟩
set_option maxHeartbeats 4000000 in
theorem r04_Apply_R {a0 : List Symbol} {a1 : List Bind} {a2 : List Int} {r : (List Int) × Int} (hr : r04_Apply a0 a1 a2 = some r) : ∃ p hp, Lim C 32 [.d (.rd (a0.map encSymbol)), .d (.rd (a1.map encBind)), .d (.rd (a2.map intD))] [] = some (p, hp) ∧ rsT hp p = some (.tp [.d (.rd (r.1.map intD)), PI r.2]) := by
  simp only [r04_Apply] at hr
  obtain ⟨x1, h1, hr⟩ := bsome hr
  have h1k := fun h => r04_Check_k (h := h) h1
  try simp only [go_sem] at h1k
  rcases Classical.propComplete (x1 = 0) with h2 | h2
  simp only [h2, if_true] at hr
  obtain ⟨x2, h3, hr⟩ := bsome hr
  have h3k := fun h => r03_Check_k (h := h) h3
  try simp only [go_sem] at h3k
  rcases Classical.propComplete (x2 = 0) with h4 | h4
  simp only [h4, if_true] at hr
  obtain ⟨x3, h5, hr⟩ := bsome hr
  have h5k := fun h => r04_Laid_k (h := h) h5
  try simp only [go_sem] at h5k
  cases h6 : x3.2
  simp only [h6, Bool.false_eq_true, if_false] at hr
  obtain rfl := Option.some.inj hr
  refine run_ok is32 (Nat.le_of_ble_eq_true rfl) (q := (.ret, ⟨[(0, .d (.rd (a0.map encSymbol))), (1, .d (.rd (a1.map encBind))), (2, .d (.rd (a2.map intD))), (6, .d (.rd (([] : List Int).map intD))), (7, PI 2), (8, PI x2), (9, .d (.rd (x3.1.map intD))), (10, PB x3.2)], []⟩)) ?_ (.inr rfl) ⟨[.d (.rd (([] : List Int).map intD)), PI 2], rfl, ?_⟩
  rotate_left 2
  simp only [h6, if_true] at hr
  obtain rfl := Option.some.inj hr
  refine run_ok is32 (Nat.le_of_ble_eq_true rfl) (q := (.ret, ⟨[(0, .d (.rd (a0.map encSymbol))), (1, .d (.rd (a1.map encBind))), (2, .d (.rd (a2.map intD))), (6, .d (.rd (x3.1.map intD))), (7, PI 0), (8, PI x2), (9, .d (.rd (x3.1.map intD))), (10, PB x3.2)], []⟩)) ?_ (.inr rfl) ⟨[.d (.rd (x3.1.map intD)), PI 0], rfl, ?_⟩
  rotate_left 2
  simp only [h4, if_false] at hr
  obtain rfl := Option.some.inj hr
  refine run_ok is32 (Nat.le_of_ble_eq_true rfl) (q := (.ret, ⟨[(0, .d (.rd (a0.map encSymbol))), (1, .d (.rd (a1.map encBind))), (2, .d (.rd (a2.map intD))), (6, .d (.rd (([] : List Int).map intD))), (7, PI x2), (8, PI x2)], []⟩)) ?_ (.inr rfl) ⟨[.d (.rd (([] : List Int).map intD)), PI x2], rfl, ?_⟩
  rotate_left 2
  simp only [h2, if_false] at hr
  obtain rfl := Option.some.inj hr
  refine run_ok is32 (Nat.le_of_ble_eq_true rfl) (q := (.ret, ⟨[(0, .d (.rd (a0.map encSymbol))), (1, .d (.rd (a1.map encBind))), (2, .d (.rd (a2.map intD))), (6, .d (.rd (([] : List Int).map intD))), (7, PI x1), (8, PI x1)], []⟩)) ?_ (.inr rfl) ⟨[.d (.rd (([] : List Int).map intD)), PI x1], rfl, ?_⟩
  rotate_left 2
  all_goals (simp (config := {decide := true}) only [go_sem, Int.reduceToNat, Nat.reduceAdd, Nat.reduceLT, Nat.reduceMul, Nat.reducePow, reduceCtorEq, callEnv, c32, *])
theorem r04_Apply_k {a0 : List Symbol} {a1 : List Bind} {a2 : List Int} {r : (List Int) × Int} (hr : r04_Apply a0 a1 a2 = some r) {h : AHeap} : callP C (Lim C) 32 [.d (.rd (a0.map encSymbol)), .d (.rd (a1.map encBind)), .d (.rd (a2.map intD))] h = some (.tp [.d (.rd (r.1.map intD)), PI r.2], h) := call_of (ds := [.rd (a0.map encSymbol), .rd (a1.map encBind), .rd (a2.map intD)]) rfl rfl rfl (r04_Apply_R hr) h
def b60_0 : ACode := .seq (.reg [] [] [.K 17 (.bin .lss (.tmp 16) (.tmp 15))]) (.seq (.cond (.tmp 17) (some 17) (.skip) (.exit 0)) (.seq (.block 1 562951029391808 (.seq (.reg [] [] [.M 18 16, .T 19 (.ix 2 (.tmp 14) (.tmp 16)), .T 20 (.load (some 2) (.tmp 19)), .K 7 (.alloc [.d (.v (.int .i64 0)), .im true []] 2), .N 6 18, ⟨none, .store 2 (.tmp 7) (.tmp 20), none, false, false⟩]) (.seq (.block 2 1075970112 (.seq (.reg [] [] [.T 22 (.fa 0 (.tmp 7)), .T 23 (.load none (.tmp 22)), .T 24 (.bin .lss (.tmp 23) (cI 0)), .M 25 24, .TG 26 25 false (.fa 0 (.tmp 7)), .TG 27 25 false (.load none (.tmp 26)), .TG 28 25 false (.bin .geq (.tmp 27) (cI 1048576)), .T 29 (.pick (.tmp 25) (.const (.bool true)) (.tmp 28)), .N 21 29]) (.cond (.tmp 21) (some 21) (.seq (.reg [] [] [.K 4 (.mv (cI 40))]) (.ret)) (.seq (.reg [] [] [.M 31 6, .T 32 (.bin .gtr (.tmp 31) (cI 0)), .M 33 32, .TG 34 33 true (.fa 0 (.tmp 7)), ⟨some (35, false), .load none (.tmp 34), some (33, true), true, false⟩, .MG 36 33 true 1, .MG 37 33 true 6, .TG 38 33 true (.bin .sub (.tmp 37) (cI 1)), ⟨some (39, false), .ix 2 (.tmp 36) (.tmp 38), some (33, true), true, false⟩, .TG 40 33 true (.fa 0 (.tmp 39)), ⟨some (41, false), .load none (.tmp 40), some (33, true), true, false⟩, .TG 42 33 true (.bin .leq (.tmp 35) (.tmp 41)), .T 43 (.pick (.tmp 33) (.tmp 42) (.const (.bool false))), .N 30 43]) (.cond (.tmp 30) (some 30) (.seq (.reg [] [] [.K 4 (.mv (cI 41))]) (.ret)) (.skip)))))) (.seq (.reg [] [] [.M 44 0, .T 45 (.fa 1 (.tmp 7)), .T 46 (.load none (.tmp 45)), .T 47 (.call 37 [.tmp 44, .tmp 46]), .N 8 47]) (.seq (.reg [] [] [.M 48 8, .K 49 (.bin .neq (.tmp 48) (cI 0))]) (.cond (.tmp 49) (some 49) (.seq (.reg [] [] [.M 50 8, .N 4 50]) (.ret)) (.skip))))))) (.reg [] [] [.T 51 (.bin .add (.tmp 16) (cI 1)), .N 16 51])))
def c60 : ACode := .seq (.reg [] [] [.K 4 (.mv (cI 0))]) (.seq (.seq (.reg [] [] [.M 9 0, .T 10 (.call 83 [.tmp 9]), .N 5 10]) (.seq (.reg [] [] [.M 11 5, .K 12 (.bin .neq (.tmp 11) (cI 0))]) (.cond (.tmp 12) (some 12) (.seq (.reg [] [] [.M 13 5, .N 4 13]) (.ret)) (.skip)))) (.seq (.seq (.reg [] [] [.N 14 1, .K 15 (.len (.tmp 14)), .K 16 (.mv (cI 0))]) (.block 0 562951029391808 (.loop b60_0))) (.seq (.reg [] [] [.K 4 (.mv (cI 0))]) (.ret))))
theorem is60 : IsF C 60 52 562951029510643 c60 [.tmp 4] := ⟨⟨Tryd.f60, _, C_P ▸ Tryd.func60, rfl, rfl, rfl, by kernel_rfl, rfl⟩⟩
def subst_Check_S0 (s0 : List Symbol) (s1 : List Bind) (s5 : Int) (s14 : List Bind) (s15 : Int) : Int → AHeap → St := fun s16 gt => ⟨[(0, .d (.rd (s0.map encSymbol))), (1, .d (.rd (s1.map encBind))), (4, PI 0), (5, PI s5), (14, .d (.rd (s14.map encBind))), (15, PI s15), (16, PI s16)], gt⟩
def subst_Check_X0 (s0 : List Symbol) (s1 : List Bind) (s5 : Int) (s14 : List Bind) (s15 : Int) : (Int ⊕ Int) → AExit × St → Prop
  | .inl r, q => q.1 = .ret ∧ RetOK C [.tmp 4] q.2 (PI r)
  | .inr s16, q => ∃ h1 : AHeap, q = (.exit 0, ⟨[(0, .d (.rd (s0.map encSymbol))), (1, .d (.rd (s1.map encBind))), (4, PI 0), (5, PI s5), (14, .d (.rd (s14.map encBind))), (15, PI s15), (16, PI s16)], h1⟩)
set_option maxHeartbeats 4000000 in
theorem subst_Check_R0 (s0 : List Symbol) (s1 : List Bind) (s5 : Int) (s14 : List Bind) (s15 : Int) : ∀ (s : Int) (g : AHeap) r, subst_Check_l0 s0 s1 s5 s14 s15 s = some r → Sum.elim (fun s' => ∃ g', semA C (Lim C) 562951029510643 b60_0 (subst_Check_S0 s0 s1 s5 s14 s15 s g) = some (.normal, subst_Check_S0 s0 s1 s5 s14 s15 s' g')) (fun x => ∃ q, semA C (Lim C) 562951029510643 b60_0 (subst_Check_S0 s0 s1 s5 s14 s15 s g) = some q ∧ q.1 ≠ .normal ∧ subst_Check_X0 s0 s1 s5 s14 s15 x q) r := by
  intro s g r hr
  have ⟨s16, hs0⟩ : ∃ y, y = s := ⟨_, rfl⟩
  subst hs0
  have ⟨gt, hg0⟩ : ∃ y, y = g := ⟨_, rfl⟩
  subst hg0
  simp only [subst_Check_l0] at hr
  rcases Classical.propComplete (s16 < s15) with h1 | h1
  simp only [h1, if_true] at hr
  obtain ⟨x2, h2, hr⟩ := bsome hr
  rcases Classical.propComplete (x2.Var < 0) with h3 | h3
  simp only [h3, if_true] at hr
  obtain rfl := Option.some.inj hr
  refine ⟨(.ret, ⟨[(0, .d (.rd (s0.map encSymbol))), (1, .d (.rd (s1.map encBind))), (4, PI 40), (5, PI s5), (6, PI s16), (7, .ptr gt.length 0 0 0), (14, .d (.rd (s14.map encBind))), (15, PI s15), (16, PI s16)], (gt ++ (.row false 0 2 [[PI x2.Var, .d (.rd (x2.T.map intD))]] :: []))⟩), ?_, nofun, rfl, [PI 40], rfl, ?_⟩
  rotate_left 2
  simp only [h3, if_false] at hr
  rcases Classical.propComplete (1048576 ≤ x2.Var) with h4 | h4
  simp only [h4, if_true] at hr
  obtain rfl := Option.some.inj hr
  refine ⟨(.ret, ⟨[(0, .d (.rd (s0.map encSymbol))), (1, .d (.rd (s1.map encBind))), (4, PI 40), (5, PI s5), (6, PI s16), (7, .ptr gt.length 0 0 0), (14, .d (.rd (s14.map encBind))), (15, PI s15), (16, PI s16)], (gt ++ (.row false 0 2 [[PI x2.Var, .d (.rd (x2.T.map intD))]] :: []))⟩), ?_, nofun, rfl, [PI 40], rfl, ?_⟩
  rotate_left 2
  simp only [h4, if_false] at hr
  rcases Classical.propComplete (0 < s16) with h5 | h5
  simp only [h5, if_true] at hr
  obtain ⟨x3, h6, hr⟩ := bsome hr
  rcases Classical.propComplete (x2.Var ≤ x3.Var) with h7 | h7
  simp only [h7, if_true] at hr
  obtain rfl := Option.some.inj hr
  refine ⟨(.ret, ⟨[(0, .d (.rd (s0.map encSymbol))), (1, .d (.rd (s1.map encBind))), (4, PI 41), (5, PI s5), (6, PI s16), (7, .ptr gt.length 0 0 0), (14, .d (.rd (s14.map encBind))), (15, PI s15), (16, PI s16)], (gt ++ (.row false 0 2 [[PI x2.Var, .d (.rd (x2.T.map intD))]] :: []))⟩), ?_, nofun, rfl, [PI 41], rfl, ?_⟩
  rotate_left 2
  simp only [h7, if_false] at hr
  obtain ⟨x4, h8, hr⟩ := bsome hr
  have h8k := fun h => term_Check_k (h := h) h8
  try simp only [go_sem] at h8k
  rcases Classical.propComplete (x4 = 0) with h9 | h9
  simp only [h9, if_true] at hr
  obtain rfl := Option.some.inj hr
  refine ⟨(gt ++ (.row false 0 2 [[PI x2.Var, .d (.rd (x2.T.map intD))]] :: [])), ?_⟩
  rotate_left
  simp only [h9, if_false] at hr
  obtain rfl := Option.some.inj hr
  refine ⟨(.ret, ⟨[(0, .d (.rd (s0.map encSymbol))), (1, .d (.rd (s1.map encBind))), (4, PI x4), (5, PI s5), (7, .ptr gt.length 0 0 0), (8, PI x4), (14, .d (.rd (s14.map encBind))), (15, PI s15), (16, PI s16)], (gt ++ (.row false 0 2 [[PI x2.Var, .d (.rd (x2.T.map intD))]] :: []))⟩), ?_, nofun, rfl, [PI x4], rfl, ?_⟩
  rotate_left 2
  simp only [h5, if_false] at hr
  obtain ⟨x5, h10, hr⟩ := bsome hr
  have h10k := fun h => term_Check_k (h := h) h10
  try simp only [go_sem] at h10k
  rcases Classical.propComplete (x5 = 0) with h11 | h11
  simp only [h11, if_true] at hr
  obtain rfl := Option.some.inj hr
  refine ⟨(gt ++ (.row false 0 2 [[PI x2.Var, .d (.rd (x2.T.map intD))]] :: [])), ?_⟩
  rotate_left
  simp only [h11, if_false] at hr
  obtain rfl := Option.some.inj hr
  refine ⟨(.ret, ⟨[(0, .d (.rd (s0.map encSymbol))), (1, .d (.rd (s1.map encBind))), (4, PI x5), (5, PI s5), (7, .ptr gt.length 0 0 0), (8, PI x5), (14, .d (.rd (s14.map encBind))), (15, PI s15), (16, PI s16)], (gt ++ (.row false 0 2 [[PI x2.Var, .d (.rd (x2.T.map intD))]] :: []))⟩), ?_, nofun, rfl, [PI x5], rfl, ?_⟩
  rotate_left 2
  simp only [h1, if_false] at hr
  obtain rfl := Option.some.inj hr
  refine ⟨(.exit 0, ⟨[(0, .d (.rd (s0.map encSymbol))), (1, .d (.rd (s1.map encBind))), (4, PI 0), (5, PI s5), (14, .d (.rd (s14.map encBind))), (15, PI s15), (16, PI s16)], gt⟩), ?_, nofun, gt, rfl⟩
  rotate_left
  all_goals (simp (config := {decide := true}) only [go_sem, Int.reduceToNat, Nat.reduceAdd, Nat.reduceLT, Nat.reduceMul, Nat.reducePow, reduceCtorEq, subst_Check_S0, b60_0, *])
theorem subst_Check_L0 {s0 : List Symbol} {s1 : List Bind} {s5 : Int} {s14 : List Bind} {s15 : Int} {s : Int} {g : AHeap} {x} (h : wh (subst_Check_l0 s0 s1 s5 s14 s15) s = some x) : ∃ q, loopLim (semA C (Lim C) 562951029510643 b60_0) (subst_Check_S0 s0 s1 s5 s14 s15 s g) = some q ∧ subst_Check_X0 s0 s1 s5 s14 s15 x q := wh_sim (subst_Check_R0 s0 s1 s5 s14 s15) h
set_option maxHeartbeats 4000000 in
theorem subst_Check_R {a0 : List Symbol} {a1 : List Bind} {r : Int} (hr : subst_Check a0 a1 = some r) : ∃ p hp, Lim C 60 [.d (.rd (a0.map encSymbol)), .d (.rd (a1.map encBind))] [] = some (p, hp) ∧ rsT hp p = some (PI r) := by
  simp only [subst_Check] at hr
  obtain ⟨x1, h1, hr⟩ := bsome hr
  have h1k := fun h => term_CheckSig_k (h := h) h1
  try simp only [go_sem] at h1k
  rcases Classical.propComplete (x1 = 0) with h2 | h2
  simp only [h2, if_true] at hr
  obtain ⟨x6, h3, hr⟩ := bsome hr
  obtain ⟨q3, h3L, h3X⟩ := subst_Check_L0 (g := []) h3
  rcases x6 with x7 | x8
  simp only [subst_Check_X0, subst_Check_S0] at h3X h3L
  obtain ⟨e3, st3⟩ := q3
  obtain ⟨rfl, h3R⟩ := h3X
  try simp only [go_sem, Nat.reduceAdd] at h3L
  obtain rfl := Option.some.inj hr
  refine run_ok is60 (Nat.le_of_ble_eq_true rfl) ?_ (.inr rfl) h3R
  rotate_left
  simp only [subst_Check_X0, subst_Check_S0] at h3X h3L
  obtain ⟨z9, rfl⟩ := h3X
  try simp only [go_sem, Nat.reduceAdd] at h3L
  obtain rfl := Option.some.inj hr
  refine run_ok is60 (Nat.le_of_ble_eq_true rfl) (q := (.ret, ⟨[(0, .d (.rd (a0.map encSymbol))), (1, .d (.rd (a1.map encBind))), (4, PI 0), (5, PI x1), (14, .d (.rd (a1.map encBind))), (15, PI (a1.length : Int)), (16, PI x8)], z9⟩)) ?_ (.inr rfl) ⟨[PI 0], rfl, ?_⟩
  rotate_left 2
  simp only [h2, if_false] at hr
  obtain rfl := Option.some.inj hr
  refine run_ok is60 (Nat.le_of_ble_eq_true rfl) (q := (.ret, ⟨[(0, .d (.rd (a0.map encSymbol))), (1, .d (.rd (a1.map encBind))), (4, PI x1), (5, PI x1)], []⟩)) ?_ (.inr rfl) ⟨[PI x1], rfl, ?_⟩
  rotate_left 2
  all_goals (simp (config := {decide := true}) only [go_sem, Int.reduceToNat, Nat.reduceAdd, Nat.reduceLT, Nat.reduceMul, Nat.reducePow, reduceCtorEq, callEnv, c60, *])
theorem subst_Check_k {a0 : List Symbol} {a1 : List Bind} {r : Int} (hr : subst_Check a0 a1 = some r) {h : AHeap} : callP C (Lim C) 60 [.d (.rd (a0.map encSymbol)), .d (.rd (a1.map encBind))] h = some (PI r, h) := call_of (ds := [.rd (a0.map encSymbol), .rd (a1.map encBind)]) rfl rfl rfl (subst_Check_R hr) h
def c62 : ACode := .seq (.reg [] [(3, 0)] [.K 3 (.mv (.const (.slice none 0 0)))]) (.seq (.seq (.reg [] [] [.T 7 (.load none (.tmp 1)), .M 8 0, .T 9 (.look (Go.TypeDesc.int .i64) (.ag [.d (.v (.int .i64 0)), .im true []]) (.tmp 7) (.tmp 8) true), .M 6 9, .T 10 (.ext (.tmp 6) 0), .T 11 (.ext (.tmp 6) 1), .K 4 (.alloc [.d (.v (.int .i64 0)), .im true []] 2), ⟨none, .store 2 (.tmp 4) (.tmp 10), none, false, false⟩, .N 5 11]) (.seq (.reg [] [] [.N 12 5]) (.cond (.tmp 12) (some 12) (.seq (.reg [] [] [.T 13 (.fa 1 (.tmp 4)), .T 14 (.load none (.tmp 13)), .N 3 14]) (.ret)) (.skip)))) (.seq (.reg [] [(3, 0)] [.M 15 0, .T 16 (.lit 1 [(0, .tmp 15)]), .N 3 16]) (.ret)))
theorem is62 : IsF C 62 17 4155 c62 [.tmp 3] := ⟨⟨Tryd.f62, _, C_P ▸ Tryd.func62, rfl, rfl, rfl, by kernel_rfl, rfl⟩⟩
set_option maxHeartbeats 4000000 in
theorem subst_Apply_c1_R {s0 : Int} {m1_0 : List (Int × Bind)} {g1 : AHeap} {g2 : AHeap} {g3 : AHeap} {r : (List Int)} (hr : subst_Apply_c1 s0 m1_0 = some r) : ∃ hz : AHeap, Lim C 62 [PI s0, .ptr (g1.length + g2.length + 1) 0 0 0] (g1 ++ (.map (mapP keyI encBind m1_0) :: (g2 ++ (.row false 0 1 [[.mp g1.length]] :: g3)))) = some (resOf [.d (.rd (r.map intD))], (g1 ++ (.map (mapP keyI encBind m1_0) :: (g2 ++ (.row false 0 1 [[.mp g1.length]] :: (g3 ++ hz)))))) := by
  simp only [subst_Apply_c1] at hr
  rcases h1 : mget m1_0 s0 with _ | x1
  simp only [h1] at hr
  obtain rfl := Option.some.inj hr
  refine ⟨(.row false 0 2 [[PI 0, .im true []]] :: []), Lim_A is62 (Nat.le_of_ble_eq_true rfl) (e := .ret) (env := [(0, PI s0), (1, .ptr (g1.length + g2.length + 1) 0 0 0), (3, .d (.rd (([s0] : List Int).map intD))), (4, .ptr (g1.length + g2.length + g3.length + 2) 0 0 0), (5, PB false)]) (h' := (g1 ++ (.map (mapP keyI encBind m1_0) :: (g2 ++ (.row false 0 1 [[.mp g1.length]] :: (g3 ++ (.row false 0 2 [[PI 0, .im true []]] :: []))))))) (vs := [.d (.rd (([s0] : List Int).map intD))]) ?_ (.inr rfl) rfl⟩
  rotate_left
  simp only [h1] at hr
  obtain rfl := Option.some.inj hr
  refine ⟨(.row false 0 2 [[PI x1.Var, .d (.rd (x1.T.map intD))]] :: []), Lim_A is62 (Nat.le_of_ble_eq_true rfl) (e := .ret) (env := [(0, PI s0), (1, .ptr (g1.length + g2.length + 1) 0 0 0), (3, .d (.rd (x1.T.map intD))), (4, .ptr (g1.length + g2.length + g3.length + 2) 0 0 0), (5, PB true)]) (h' := (g1 ++ (.map (mapP keyI encBind m1_0) :: (g2 ++ (.row false 0 1 [[.mp g1.length]] :: (g3 ++ (.row false 0 2 [[PI x1.Var, .d (.rd (x1.T.map intD))]] :: []))))))) (vs := [.d (.rd (x1.T.map intD))]) ?_ (.inr rfl) rfl⟩
  rotate_left
  all_goals (simp (config := {decide := true}) only [go_sem, Int.reduceToNat, Nat.reduceAdd, Nat.reduceLT, Nat.reduceMul, Nat.reducePow, reduceCtorEq, callEnv, c62, *])
theorem subst_Apply_c1_k {s0 : Int} {m1_0 : List (Int × Bind)} {g1 : AHeap} {g2 : AHeap} {g3 : AHeap} {r : (List Int)} (hr : subst_Apply_c1 s0 m1_0 = some r) : ∃ hz : AHeap, callP C (Lim C) 62 [PI s0, .ptr (g1.length + g2.length + 1) 0 0 0] (g1 ++ (.map (mapP keyI encBind m1_0) :: (g2 ++ (.row false 0 1 [[.mp g1.length]] :: g3)))) = some (resOf [.d (.rd (r.map intD))], (g1 ++ (.map (mapP keyI encBind m1_0) :: (g2 ++ (.row false 0 1 [[.mp g1.length]] :: (g3 ++ hz)))))) := by
  obtain ⟨hz, h1⟩ := subst_Apply_c1_R hr (g1 := g1) (g2 := g2) (g3 := g3)
  exact ⟨hz, call_live rfl rfl rfl h1⟩
def b61_0 : ACode := .seq (.reg [] [] [.K 13 (.bin .lss (.tmp 12) (.tmp 11))]) (.seq (.cond (.tmp 13) (some 13) (.skip) (.exit 0)) (.seq (.block 1 268968704 (.seq (.reg [] [] [.T 14 (.ix 1 (.tmp 10) (.tmp 12)), .T 15 (.load none (.tmp 14)), .N 8 15]) (.seq (.reg [] [(9, 0)] [.M 16 8, .T 17 (.lit 1 [(0, .tmp 16)]), .N 9 17]) (.seq (.seq (.reg [] [] [.M 18 8, .K 19 (.bin .lss (.tmp 18) (cI 0))]) (.cond (.tmp 19) (some 19) (.reg [] [] [.M 20 1, .M 21 8, .T 22 (.callV (.tmp 20) [.tmp 21]), .N 9 22]) (.skip))) (.seq (.seq (.reg [] [] [.M 23 9, .T 24 (.len (.tmp 23)), .M 25 6, .T 26 (.len (.tmp 25)), .T 27 (.bin .sub (cI 512) (.tmp 26)), .K 28 (.bin .gtr (.tmp 24) (.tmp 27))]) (.cond (.tmp 28) (some 28) (.seq (.reg [] [(4, 0)] [.K 4 (.mv (.const (.slice none 0 0))), .K 5 (.mv (cI 2))]) (.ret)) (.skip))) (.reg [] [] [.M 29 6, .M 30 9, .T 31 (.app 1 8 (.tmp 29) (.tmp 30)), .N 6 31])))))) (.reg [] [] [.T 32 (.bin .add (.tmp 12) (cI 1)), .N 12 32])))
def c61 : ACode := .seq (.reg [] [(4, 0)] [.K 4 (.mv (.const (.slice none 0 0))), .K 5 (.mv (cI 0))]) (.seq (.reg [] [(6, 1)] [.K 6 (.mv (.const (.slice none 0 0)))]) (.seq (.seq (.reg [] [] [.N 10 0, .K 11 (.len (.tmp 10)), .K 12 (.mv (cI 0))]) (.block 0 268968704 (.loop b61_0))) (.seq (.reg [] [(4, 0)] [.M 33 6, .N 4 33, .K 5 (.mv (cI 0))]) (.ret))))
theorem is61 : IsF C 61 34 268975987 c61 [.tmp 4, .tmp 5] := ⟨⟨Tryd.f61, _, C_P ▸ Tryd.func61, rfl, rfl, rfl, by kernel_rfl, rfl⟩⟩
def subst_laid_on_subst_Apply_c1_S0 (s0 : List Int) (s4 : List Int) (s10 : List Int) (s11 : Int) (m1_0_0 : List (Int × Bind)) (g1 : AHeap) (g2 : AHeap) (g3 : AHeap) : Int × (List Int) → Nat × AHeap → St := fun (s12, o6) (v6, gt) => ⟨[(0, .d (.rd (s0.map intD))), (1, .fn 62 [.ptr (g1.length + g2.length + 1) 0 0 0]), (4, .d (.rd (s4.map intD))), (5, PI 0), (6, .ref (g1.length + g2.length + g3.length + 2) v6 0 o6.length), (10, .d (.rd (s10.map intD))), (11, PI s11), (12, PI s12)], (g1 ++ (.map (mapP keyI encBind m1_0_0) :: (g2 ++ (.row false 0 1 [[.mp g1.length]] :: (g3 ++ (.row false v6 1 (rowP intD o6) :: gt))))))⟩
def subst_laid_on_subst_Apply_c1_X0 (s0 : List Int) (s4 : List Int) (s10 : List Int) (s11 : Int) (m1_0_0 : List (Int × Bind)) (g1 : AHeap) (g2 : AHeap) (g3 : AHeap) : (((List Int) × Int) ⊕ (Int × (List Int))) → AExit × St → Prop
  | .inl r, q => q.1 = .ret ∧ ∃ hz : AHeap, mapO (resP C.P q.2) [.tmp 4, .tmp 5] = some [.d (.rd (r.1.map intD)), PI r.2] ∧ q.2.h = (g1 ++ (.map (mapP keyI encBind m1_0_0) :: (g2 ++ (.row false 0 1 [[.mp g1.length]] :: (g3 ++ hz)))))
  | .inr (s12, o6), q => ∃ v6 : Nat, ∃ h1 : AHeap, q = (.exit 0, ⟨[(0, .d (.rd (s0.map intD))), (1, .fn 62 [.ptr (g1.length + g2.length + 1) 0 0 0]), (4, .d (.rd (s4.map intD))), (5, PI 0), (6, .ref (g1.length + g2.length + g3.length + 2) v6 0 o6.length), (10, .d (.rd (s10.map intD))), (11, PI s11), (12, PI s12)], (g1 ++ (.map (mapP keyI encBind m1_0_0) :: (g2 ++ (.row false 0 1 [[.mp g1.length]] :: (g3 ++ (.row false v6 1 (rowP intD o6) :: h1))))))⟩)
set_option maxHeartbeats 4000000 in
theorem subst_laid_on_subst_Apply_c1_R0 (s0 : List Int) (s4 : List Int) (s10 : List Int) (s11 : Int) (m1_0_0 : List (Int × Bind)) (g1 : AHeap) (g2 : AHeap) (g3 : AHeap) : ∀ (s : Int × (List Int)) (g : Nat × AHeap) r, subst_laid_on_subst_Apply_c1_l0 s0 s4 s10 s11 m1_0_0 s = some r → Sum.elim (fun s' => ∃ g', semA C (Lim C) 268975987 b61_0 (subst_laid_on_subst_Apply_c1_S0 s0 s4 s10 s11 m1_0_0 g1 g2 g3 s g) = some (.normal, subst_laid_on_subst_Apply_c1_S0 s0 s4 s10 s11 m1_0_0 g1 g2 g3 s' g')) (fun x => ∃ q, semA C (Lim C) 268975987 b61_0 (subst_laid_on_subst_Apply_c1_S0 s0 s4 s10 s11 m1_0_0 g1 g2 g3 s g) = some q ∧ q.1 ≠ .normal ∧ subst_laid_on_subst_Apply_c1_X0 s0 s4 s10 s11 m1_0_0 g1 g2 g3 x q) r := by
  intro s g r hr
  obtain ⟨s12, o6⟩ := s
  obtain ⟨v6, gt⟩ := g
  simp only [subst_laid_on_subst_Apply_c1_l0] at hr
  rcases Classical.propComplete (s12 < s11) with h1 | h1
  simp only [h1, if_true] at hr
  obtain ⟨x1, h2, hr⟩ := bsome hr
  rcases Classical.propComplete (x1 < 0) with h3 | h3
  simp only [h3, if_true] at hr
  obtain ⟨x2, h4, hr⟩ := bsome hr
  obtain ⟨z3, h4k⟩ := subst_Apply_c1_k (g1 := g1) (g2 := g2) (g3 := (g3 ++ (.row false v6 1 (rowP intD o6) :: gt))) h4
  try simp only [go_sem, Nat.reduceAdd] at h4k
  rcases Classical.propComplete ((w64 (512 - (o6.length : Int))) < (x2.length : Int)) with h5 | h5
  simp only [h5, if_true] at hr
  obtain rfl := Option.some.inj hr
  refine ⟨(.ret, ⟨[(0, .d (.rd (s0.map intD))), (1, .fn 62 [.ptr (g1.length + g2.length + 1) 0 0 0]), (4, .d (.rd (([] : List Int).map intD))), (5, PI 2), (6, .ref (g1.length + g2.length + g3.length + 2) v6 0 o6.length), (8, PI x1), (9, .d (.rd (x2.map intD))), (10, .d (.rd (s10.map intD))), (11, PI s11), (12, PI s12)], (g1 ++ (.map (mapP keyI encBind m1_0_0) :: (g2 ++ (.row false 0 1 [[.mp g1.length]] :: (g3 ++ (.row false v6 1 (rowP intD o6) :: (gt ++ z3)))))))⟩), ?_, nofun, rfl, (.row false v6 1 (rowP intD o6) :: (gt ++ z3)), rfl, rfl⟩
  rotate_left
  simp only [h5, if_false] at hr
  obtain ⟨h6, hr⟩ := gsome hr
  obtain rfl := Option.some.inj hr
  refine ⟨((v6 + 1), (gt ++ z3)), ?_⟩
  rotate_left
  simp only [h3, if_false] at hr
  rcases Classical.propComplete ((w64 (512 - (o6.length : Int))) < 1) with h7 | h7
  simp only [h7, if_true] at hr
  obtain rfl := Option.some.inj hr
  refine ⟨(.ret, ⟨[(0, .d (.rd (s0.map intD))), (1, .fn 62 [.ptr (g1.length + g2.length + 1) 0 0 0]), (4, .d (.rd (([] : List Int).map intD))), (5, PI 2), (6, .ref (g1.length + g2.length + g3.length + 2) v6 0 o6.length), (8, PI x1), (9, .d (.rd (([x1] : List Int).map intD))), (10, .d (.rd (s10.map intD))), (11, PI s11), (12, PI s12)], (g1 ++ (.map (mapP keyI encBind m1_0_0) :: (g2 ++ (.row false 0 1 [[.mp g1.length]] :: (g3 ++ (.row false v6 1 (rowP intD o6) :: gt))))))⟩), ?_, nofun, rfl, (.row false v6 1 (rowP intD o6) :: gt), rfl, rfl⟩
  rotate_left
  simp only [h7, if_false] at hr
  obtain ⟨h8, hr⟩ := gsome hr
  obtain rfl := Option.some.inj hr
  refine ⟨((v6 + 1), gt), ?_⟩
  rotate_left
  simp only [h1, if_false] at hr
  obtain rfl := Option.some.inj hr
  refine ⟨(.exit 0, ⟨[(0, .d (.rd (s0.map intD))), (1, .fn 62 [.ptr (g1.length + g2.length + 1) 0 0 0]), (4, .d (.rd (s4.map intD))), (5, PI 0), (6, .ref (g1.length + g2.length + g3.length + 2) v6 0 o6.length), (10, .d (.rd (s10.map intD))), (11, PI s11), (12, PI s12)], (g1 ++ (.map (mapP keyI encBind m1_0_0) :: (g2 ++ (.row false 0 1 [[.mp g1.length]] :: (g3 ++ (.row false v6 1 (rowP intD o6) :: gt))))))⟩), ?_, nofun, v6, gt, rfl⟩
  rotate_left
  all_goals (simp (config := {decide := true}) only [go_sem, Int.reduceToNat, Nat.reduceAdd, Nat.reduceLT, Nat.reduceMul, Nat.reducePow, reduceCtorEq, subst_laid_on_subst_Apply_c1_S0, b61_0, *])
theorem subst_laid_on_subst_Apply_c1_L0 {s0 : List Int} {s4 : List Int} {s10 : List Int} {s11 : Int} {m1_0_0 : List (Int × Bind)} {g1 : AHeap} {g2 : AHeap} {g3 : AHeap} {s : Int × (List Int)} {g : Nat × AHeap} {x} (h : wh (subst_laid_on_subst_Apply_c1_l0 s0 s4 s10 s11 m1_0_0) s = some x) : ∃ q, loopLim (semA C (Lim C) 268975987 b61_0) (subst_laid_on_subst_Apply_c1_S0 s0 s4 s10 s11 m1_0_0 g1 g2 g3 s g) = some q ∧ subst_laid_on_subst_Apply_c1_X0 s0 s4 s10 s11 m1_0_0 g1 g2 g3 x q := wh_sim (subst_laid_on_subst_Apply_c1_R0 s0 s4 s10 s11 m1_0_0 g1 g2 g3) h
set_option maxHeartbeats 4000000 in
theorem subst_laid_on_subst_Apply_c1_R {s0 : List Int} {m1_0_0 : List (Int × Bind)} {g1 : AHeap} {g2 : AHeap} {g3 : AHeap} {r : (List Int) × Int} (hr : subst_laid_on_subst_Apply_c1 s0 m1_0_0 = some r) : ∃ hz : AHeap, Lim C 61 [.d (.rd (s0.map intD)), .fn 62 [.ptr (g1.length + g2.length + 1) 0 0 0]] (g1 ++ (.map (mapP keyI encBind m1_0_0) :: (g2 ++ (.row false 0 1 [[.mp g1.length]] :: g3)))) = some (resOf [.d (.rd (r.1.map intD)), PI r.2], (g1 ++ (.map (mapP keyI encBind m1_0_0) :: (g2 ++ (.row false 0 1 [[.mp g1.length]] :: (g3 ++ hz)))))) := by
  simp only [subst_laid_on_subst_Apply_c1] at hr
  obtain ⟨x4, h1, hr⟩ := bsome hr
  obtain ⟨q1, h1L, h1X⟩ := subst_laid_on_subst_Apply_c1_L0 (g1 := g1) (g2 := g2) (g3 := g3) (g := (0, [])) h1
  rcases x4 with x5 | ⟨x6, x7⟩
  simp only [subst_laid_on_subst_Apply_c1_X0, subst_laid_on_subst_Apply_c1_S0] at h1X h1L
  obtain ⟨e1, st1⟩ := q1
  obtain ⟨rfl, h1R⟩ := h1X
  obtain ⟨env1, hp1⟩ := st1
  obtain ⟨y4, h1v, h1h⟩ := h1R
  replace h1h : hp1 = _ := h1h
  subst h1h
  try simp only [go_sem, Nat.reduceAdd] at h1L
  obtain rfl := Option.some.inj hr
  refine ⟨y4, Lim_A is61 (Nat.le_of_ble_eq_true rfl) (e := .ret) (env := env1) ?_ (.inr rfl) h1v⟩
  rotate_left
  simp only [subst_laid_on_subst_Apply_c1_X0, subst_laid_on_subst_Apply_c1_S0] at h1X h1L
  obtain ⟨z8, z9, rfl⟩ := h1X
  try simp only [go_sem, Nat.reduceAdd] at h1L
  obtain rfl := Option.some.inj hr
  refine ⟨(.row true z8 1 (rowP intD x7) :: z9), Lim_A is61 (Nat.le_of_ble_eq_true rfl) (e := .ret) (env := [(0, .d (.rd (s0.map intD))), (1, .fn 62 [.ptr (g1.length + g2.length + 1) 0 0 0]), (4, .d (.rd (x7.map intD))), (5, PI 0), (6, .ref (g1.length + g2.length + g3.length + 2) z8 0 x7.length), (10, .d (.rd (s0.map intD))), (11, PI (s0.length : Int)), (12, PI x6)]) (h' := (g1 ++ (.map (mapP keyI encBind m1_0_0) :: (g2 ++ (.row false 0 1 [[.mp g1.length]] :: (g3 ++ (.row true z8 1 (rowP intD x7) :: z9))))))) (vs := [.d (.rd (x7.map intD)), PI 0]) ?_ (.inr rfl) rfl⟩
  rotate_left
  all_goals (simp (config := {decide := true}) only [go_sem, Int.reduceToNat, Nat.reduceAdd, Nat.reduceLT, Nat.reduceMul, Nat.reducePow, reduceCtorEq, callEnv, c61, *])
theorem subst_laid_on_subst_Apply_c1_k {s0 : List Int} {m1_0_0 : List (Int × Bind)} {g1 : AHeap} {g2 : AHeap} {g3 : AHeap} {r : (List Int) × Int} (hr : subst_laid_on_subst_Apply_c1 s0 m1_0_0 = some r) : ∃ hz : AHeap, callP C (Lim C) 61 [.d (.rd (s0.map intD)), .fn 62 [.ptr (g1.length + g2.length + 1) 0 0 0]] (g1 ++ (.map (mapP keyI encBind m1_0_0) :: (g2 ++ (.row false 0 1 [[.mp g1.length]] :: g3)))) = some (resOf [.d (.rd (r.1.map intD)), PI r.2], (g1 ++ (.map (mapP keyI encBind m1_0_0) :: (g2 ++ (.row false 0 1 [[.mp g1.length]] :: (g3 ++ hz)))))) := by
  obtain ⟨hz, h1⟩ := subst_laid_on_subst_Apply_c1_R hr (g1 := g1) (g2 := g2) (g3 := g3)
  exact ⟨hz, call_live rfl rfl rfl h1⟩
def b33_0 : ACode := .seq (.reg [] [] [.K 31 (.bin .lss (.tmp 30) (.tmp 29))]) (.seq (.cond (.tmp 31) (some 31) (.skip) (.exit 0)) (.seq (.block 1 2147487744 (.seq (.reg [] [] [.T 32 (.ix 2 (.tmp 28) (.tmp 30)), .T 33 (.load (some 2) (.tmp 32)), .K 12 (.alloc [.d (.v (.int .i64 0)), .im true []] 2), ⟨none, .store 2 (.tmp 12) (.tmp 33), none, false, false⟩]) (.reg [] [] [.T 34 (.load none (.tmp 10)), .T 35 (.fa 0 (.tmp 12)), .T 36 (.load none (.tmp 35)), .T 37 (.bin .sub (cI (-1)) (.tmp 36)), .T 38 (.load (some 2) (.tmp 12)), ⟨none, .mput (Go.TypeDesc.int .i64) (.tmp 34) (.tmp 37) (.tmp 38), none, false, false⟩]))) (.reg [] [] [.T 39 (.bin .add (.tmp 30) (cI 1)), .N 30 39])))
def c33 : ACode := .seq (.reg [] [(6, 0)] [.K 6 (.mv (.const (.slice none 0 0))), .K 7 (.mv (cI 0))]) (.seq (.seq (.reg [] [] [.M 13 0, .M 14 1, .T 15 (.call 60 [.tmp 13, .tmp 14]), .N 8 15]) (.seq (.reg [] [] [.M 16 8, .K 17 (.bin .neq (.tmp 16) (cI 0))]) (.cond (.tmp 17) (some 17) (.seq (.reg [] [(6, 0)] [.M 18 8, .K 6 (.mv (.const (.slice none 0 0))), .N 7 18]) (.ret)) (.skip)))) (.seq (.seq (.reg [] [] [.M 19 0, .M 20 2, .T 21 (.call 37 [.tmp 19, .tmp 20]), .N 9 21]) (.seq (.reg [] [] [.M 22 9, .K 23 (.bin .neq (.tmp 22) (cI 0))]) (.cond (.tmp 23) (some 23) (.seq (.reg [] [(6, 0)] [.M 24 9, .K 6 (.mv (.const (.slice none 0 0))), .N 7 24]) (.ret)) (.skip)))) (.seq (.reg [] [] [.M 25 1, .T 26 (.len (.tmp 25)), .T 27 (.mkMapN (.tmp 26)), .K 10 (.alloc [.d (.v (.map none))] 1), ⟨none, .store 1 (.tmp 10) (.tmp 27), none, false, false⟩]) (.seq (.seq (.reg [] [] [.N 28 1, .K 29 (.len (.tmp 28)), .K 30 (.mv (cI 0))]) (.block 0 2147487744 (.loop b33_0))) (.seq (.reg [] [] [.M 40 2, .T 41 (.mkF 62 [.tmp 10]), .T 42 (.call 61 [.tmp 40, .tmp 41]), .T 43 (.ext (.tmp 42) 0), .T 44 (.ext (.tmp 42) 1), .N 6 43, .N 7 44]) (.ret))))))
theorem is33 : IsF C 33 45 4035057607 c33 [.tmp 6, .tmp 7] := ⟨⟨Tryd.f33, _, C_P ▸ Tryd.func33, rfl, rfl, rfl, by kernel_rfl, rfl⟩⟩
def subst_Apply_S0 (s0 : List Symbol) (s1 : List Bind) (s2 : List Int) (s6 : List Int) (s8 : Int) (s9 : Int) (s28 : List Bind) (s29 : Int) : Int × (List (Int × Bind)) → AHeap → St := fun (s30, m10_0) gt => ⟨[(0, .d (.rd (s0.map encSymbol))), (1, .d (.rd (s1.map encBind))), (2, .d (.rd (s2.map intD))), (6, .d (.rd (s6.map intD))), (7, PI 0), (8, PI s8), (9, PI s9), (10, .ptr 1 0 0 0), (28, .d (.rd (s28.map encBind))), (29, PI s29), (30, PI s30)], (.map (mapP keyI encBind m10_0) :: (.row false 0 1 [[.mp 0]] :: gt))⟩
def subst_Apply_X0 (s0 : List Symbol) (s1 : List Bind) (s2 : List Int) (s6 : List Int) (s8 : Int) (s9 : Int) (s28 : List Bind) (s29 : Int) : (Int × (List (Int × Bind))) → AExit × St → Prop := fun (s30, m10_0) q => ∃ h1 : AHeap, q = (.exit 0, ⟨[(0, .d (.rd (s0.map encSymbol))), (1, .d (.rd (s1.map encBind))), (2, .d (.rd (s2.map intD))), (6, .d (.rd (s6.map intD))), (7, PI 0), (8, PI s8), (9, PI s9), (10, .ptr 1 0 0 0), (28, .d (.rd (s28.map encBind))), (29, PI s29), (30, PI s30)], (.map (mapP keyI encBind m10_0) :: (.row false 0 1 [[.mp 0]] :: h1))⟩)
set_option maxHeartbeats 4000000 in
theorem subst_Apply_R0 (s0 : List Symbol) (s1 : List Bind) (s2 : List Int) (s6 : List Int) (s8 : Int) (s9 : Int) (s28 : List Bind) (s29 : Int) : ∀ (s : Int × (List (Int × Bind))) (g : AHeap) r, subst_Apply_l0 s0 s1 s2 s6 s8 s9 s28 s29 s = some r → Sum.elim (fun s' => ∃ g', semA C (Lim C) 4035057607 b33_0 (subst_Apply_S0 s0 s1 s2 s6 s8 s9 s28 s29 s g) = some (.normal, subst_Apply_S0 s0 s1 s2 s6 s8 s9 s28 s29 s' g')) (fun x => ∃ q, semA C (Lim C) 4035057607 b33_0 (subst_Apply_S0 s0 s1 s2 s6 s8 s9 s28 s29 s g) = some q ∧ q.1 ≠ .normal ∧ subst_Apply_X0 s0 s1 s2 s6 s8 s9 s28 s29 x q) r := by
  intro s g r hr
  obtain ⟨s30, m10_0⟩ := s
  have ⟨gt, hg0⟩ : ∃ y, y = g := ⟨_, rfl⟩
  subst hg0
  simp only [subst_Apply_l0] at hr
  rcases Classical.propComplete (s30 < s29) with h1 | h1
  simp only [h1, if_true] at hr
  obtain ⟨x3, h2, hr⟩ := bsome hr
  obtain rfl := Option.some.inj hr
  refine ⟨(gt ++ (.row false 0 2 [[PI x3.Var, .d (.rd (x3.T.map intD))]] :: [])), ?_⟩
  rotate_left
  simp only [h1, if_false] at hr
  obtain rfl := Option.some.inj hr
  refine ⟨(.exit 0, ⟨[(0, .d (.rd (s0.map encSymbol))), (1, .d (.rd (s1.map encBind))), (2, .d (.rd (s2.map intD))), (6, .d (.rd (s6.map intD))), (7, PI 0), (8, PI s8), (9, PI s9), (10, .ptr 1 0 0 0), (28, .d (.rd (s28.map encBind))), (29, PI s29), (30, PI s30)], (.map (mapP keyI encBind m10_0) :: (.row false 0 1 [[.mp 0]] :: gt))⟩), ?_, nofun, gt, rfl⟩
  rotate_left
  all_goals (simp (config := {decide := true}) only [go_sem, Int.reduceToNat, Nat.reduceAdd, Nat.reduceLT, Nat.reduceMul, Nat.reducePow, reduceCtorEq, subst_Apply_S0, b33_0, *])
theorem subst_Apply_L0 {s0 : List Symbol} {s1 : List Bind} {s2 : List Int} {s6 : List Int} {s8 : Int} {s9 : Int} {s28 : List Bind} {s29 : Int} {s : Int × (List (Int × Bind))} {g : AHeap} {x} (h : wh (subst_Apply_l0 s0 s1 s2 s6 s8 s9 s28 s29) s = some x) : ∃ q, loopLim (semA C (Lim C) 4035057607 b33_0) (subst_Apply_S0 s0 s1 s2 s6 s8 s9 s28 s29 s g) = some q ∧ subst_Apply_X0 s0 s1 s2 s6 s8 s9 s28 s29 x q := wh_sim (subst_Apply_R0 s0 s1 s2 s6 s8 s9 s28 s29) h
set_option maxHeartbeats 4000000 in
theorem subst_Apply_R {a0 : List Symbol} {a1 : List Bind} {a2 : List Int} {r : (List Int) × Int} (hr : subst_Apply a0 a1 a2 = some r) : ∃ p hp, Lim C 33 [.d (.rd (a0.map encSymbol)), .d (.rd (a1.map encBind)), .d (.rd (a2.map intD))] [] = some (p, hp) ∧ rsT hp p = some (.tp [.d (.rd (r.1.map intD)), PI r.2]) := by
  simp only [subst_Apply] at hr
  obtain ⟨x1, h1, hr⟩ := bsome hr
  have h1k := fun h => subst_Check_k (h := h) h1
  try simp only [go_sem] at h1k
  rcases Classical.propComplete (x1 = 0) with h2 | h2
  simp only [h2, if_true] at hr
  obtain ⟨x2, h3, hr⟩ := bsome hr
  have h3k := fun h => term_Check_k (h := h) h3
  try simp only [go_sem] at h3k
  rcases Classical.propComplete (x2 = 0) with h4 | h4
  simp only [h4, if_true] at hr
  obtain ⟨x4, h5, hr⟩ := bsome hr
  obtain ⟨q5, h5L, h5X⟩ := subst_Apply_L0 (g := []) h5
  obtain ⟨x5, x6⟩ := x4
  simp only [subst_Apply_X0, subst_Apply_S0] at h5X h5L
  obtain ⟨z7, rfl⟩ := h5X
  try simp only [go_sem, Nat.reduceAdd] at h5L
  obtain ⟨x8, h6, hr⟩ := bsome hr
  obtain ⟨z9, h6k⟩ := subst_laid_on_subst_Apply_c1_k (g1 := []) (g2 := []) (g3 := z7) h6
  try simp only [go_sem, Nat.reduceAdd] at h6k
  obtain rfl := Option.some.inj hr
  refine run_ok is33 (Nat.le_of_ble_eq_true rfl) (q := (.ret, ⟨[(0, .d (.rd (a0.map encSymbol))), (1, .d (.rd (a1.map encBind))), (2, .d (.rd (a2.map intD))), (6, .d (.rd (x8.1.map intD))), (7, PI x8.2), (8, PI x1), (9, PI x2), (10, .ptr 1 0 0 0), (28, .d (.rd (a1.map encBind))), (29, PI (a1.length : Int)), (30, PI x5)], (.map (mapP keyI encBind x6) :: (.row false 0 1 [[.mp 0]] :: (z7 ++ z9)))⟩)) ?_ (.inr rfl) ⟨[.d (.rd (x8.1.map intD)), PI x8.2], rfl, ?_⟩
  rotate_left 2
  simp only [h4, if_false] at hr
  obtain rfl := Option.some.inj hr
  refine run_ok is33 (Nat.le_of_ble_eq_true rfl) (q := (.ret, ⟨[(0, .d (.rd (a0.map encSymbol))), (1, .d (.rd (a1.map encBind))), (2, .d (.rd (a2.map intD))), (6, .d (.rd (([] : List Int).map intD))), (7, PI x2), (8, PI x1), (9, PI x2)], []⟩)) ?_ (.inr rfl) ⟨[.d (.rd (([] : List Int).map intD)), PI x2], rfl, ?_⟩
  rotate_left 2
  simp only [h2, if_false] at hr
  obtain rfl := Option.some.inj hr
  refine run_ok is33 (Nat.le_of_ble_eq_true rfl) (q := (.ret, ⟨[(0, .d (.rd (a0.map encSymbol))), (1, .d (.rd (a1.map encBind))), (2, .d (.rd (a2.map intD))), (6, .d (.rd (([] : List Int).map intD))), (7, PI x1), (8, PI x1)], []⟩)) ?_ (.inr rfl) ⟨[.d (.rd (([] : List Int).map intD)), PI x1], rfl, ?_⟩
  rotate_left 2
  all_goals (simp (config := {decide := true}) only [go_sem, Int.reduceToNat, Nat.reduceAdd, Nat.reduceLT, Nat.reduceMul, Nat.reducePow, reduceCtorEq, callEnv, c33, *])
theorem subst_Apply_k {a0 : List Symbol} {a1 : List Bind} {a2 : List Int} {r : (List Int) × Int} (hr : subst_Apply a0 a1 a2 = some r) {h : AHeap} : callP C (Lim C) 33 [.d (.rd (a0.map encSymbol)), .d (.rd (a1.map encBind)), .d (.rd (a2.map intD))] h = some (.tp [.d (.rd (r.1.map intD)), PI r.2], h) := call_of (ds := [.rd (a0.map encSymbol), .rd (a1.map encBind), .rd (a2.map intD)]) rfl rfl rfl (subst_Apply_R hr) h
end Ld

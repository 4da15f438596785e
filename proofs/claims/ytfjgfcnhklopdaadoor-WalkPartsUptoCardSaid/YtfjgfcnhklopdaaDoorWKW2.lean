import Derived.Test.YtfjgfcnhklopdaaDoorWKW1
import Derived.Test.YtfjgfcnhklopdaaDoorWKW4
set_option maxHeartbeats 4000000
set_option linter.unusedVariables false
set_option linter.unusedSimpArgs false
namespace Ld
open Go Go.Proofs Go.Abs
set_option maxRecDepth 8000
def qpC9 : ACode := .seq (.reg [] [] [.K 24 (.bin .lss (.tmp 23) (.tmp 22))]) (.seq (.cond (.tmp 24) (some 24) (.skip) (.exit 0)) (.seq (.block 1 16777216 (.reg [] [] [.T 25 (.load none (.tmp 3)), .M 26 7, .T 27 (.callV (.tmp 25) [.tmp 26]), .N 7 27])) (.reg [] [] [.T 28 (.bin .add (.tmp 23) (cI 1)), .N 23 28])))
def c78 : ACode := .seq (.reg [] [] [.K 6 (.mv (cI 0))]) (.seq (.reg [] [] [.M 8 0, .T 9 (.bin .add (.tmp 8) (cI 1)), .N 7 9]) (.seq (.seq (.reg [] [] [.T 10 (.load none (.tmp 1)), .M 11 0, .T 12 (.ix 1 (.tmp 10) (.tmp 11)), .T 13 (.load none (.tmp 12)), .K 14 (.bin .geq (.tmp 13) (cI 0))]) (.cond (.tmp 14) (some 14) (.seq (.reg [] [] [⟨some (15, false), .load none (.tmp 2), none, true, false⟩, ⟨some (16, false), .load none (.tmp 1), none, true, false⟩, .M 17 0, ⟨some (18, false), .ix 1 (.tmp 16) (.tmp 17), none, true, false⟩, ⟨some (19, false), .load none (.tmp 18), none, true, false⟩, ⟨some (20, false), .ix 2 (.tmp 15) (.tmp 19), none, true, false⟩, .T 21 (.fa 1 (.tmp 20)), ⟨some (22, true), .load none (.tmp 21), none, true, false⟩, .K 23 (.mv (cI 0))]) (.block 0 16777216 (.loop qpC9))) (.skip))) (.seq (.reg [] [] [.T 29 (.load none (.tmp 4)), .M 30 0, .M 31 7, .T 32 (.ix 1 (.tmp 29) (.tmp 30)), ⟨none, .store 1 (.tmp 32) (.tmp 31), none, false, false⟩]) (.seq (.reg [] [] [.M 33 7, .N 6 33]) (.ret)))))
theorem is78 : IsF C 78 34 29376735 c78 [.tmp 6] := ⟨⟨Tryd.f78, _, C_P ▸ Tryd.func78, rfl, rfl, rfl, by kernel_rfl, rfl⟩⟩
def qeH9 (s0 : Int) (s22 : Int) (g1 : AHeap) (g2 : AHeap) (g3 : AHeap) (v3_0_3_0 : Nat) (n3_0_3_0 : Nat) (g4 : AHeap) (g5 : AHeap) (g6 : AHeap) : Int × Int × (List Symbol) × (List Int) × (List Int) → AHeap → St := fun (s7, s23, b2_0, b1_0, o3_0_3_0) gt => ⟨[(0, PI s0), (1, .ptr (g1.length + g2.length + 1) 0 0 0), (2, .ptr g1.length 0 0 0), (3, .ptr (g1.length + g2.length + g3.length + g4.length + g5.length + 4) 0 0 0), (4, .ptr (g1.length + g2.length + g3.length + g4.length + 3) 0 0 0), (6, PI 0), (7, PI s7), (22, PI s22), (23, PI s23)], (g1 ++ (.row false 0 1 [[.d (.rd (b2_0.map qb9))]] :: (g2 ++ (.row false 0 1 [[.d (.rd (b1_0.map intD))]] :: (g3 ++ (.row false v3_0_3_0 1 (rowP intD o3_0_3_0) :: (g4 ++ (.row false 0 1 [[.ref (g1.length + g2.length + g3.length + 2) v3_0_3_0 0 n3_0_3_0]] :: (g5 ++ (.row false 0 1 [[.fn 78 [.ptr (g1.length + g2.length + 1) 0 0 0, .ptr g1.length 0 0 0, .ptr (g1.length + g2.length + g3.length + g4.length + g5.length + 4) 0 0 0, .ptr (g1.length + g2.length + g3.length + g4.length + 3) 0 0 0]]] :: (g6 ++ gt)))))))))))⟩
def qir9 (s0 : Int) (s22 : Int) (g1 : AHeap) (g2 : AHeap) (g3 : AHeap) (v3_0_3_0 : Nat) (n3_0_3_0 : Nat) (g4 : AHeap) (g5 : AHeap) (g6 : AHeap) : Int × Int × (List Symbol) × (List Int) × (List Int) → Prop := fun (s7, s23, b2_0, b1_0, o3_0_3_0) => o3_0_3_0.length = n3_0_3_0
def qlv9 (s0 : Int) (s22 : Int) (g1 : AHeap) (g2 : AHeap) (g3 : AHeap) (v3_0_3_0 : Nat) (n3_0_3_0 : Nat) (g4 : AHeap) (g5 : AHeap) (g6 : AHeap) : (Int × Int × (List Symbol) × (List Int) × (List Int)) → AExit × St → Prop := fun (s7, s23, b2_0, b1_0, o3_0_3_0) q => ∃ g, q = (.exit 0, qeH9 s0 s22 g1 g2 g3 v3_0_3_0 n3_0_3_0 g4 g5 g6 (s7, s23, b2_0, b1_0, o3_0_3_0) g) ∧ o3_0_3_0.length = n3_0_3_0
set_option maxHeartbeats 60000000 in
theorem qlP9 {rec : Int × (List Symbol) × (List Int) × (List Int) → Option (Int × (List Symbol) × (List Int) × (List Int))} (hrec : ∀ {s0 : Int} {b2_0 : List Symbol} {b1_0 : List Int} {o3_0_3_0 : List Int} {g1 : AHeap} {g2 : AHeap} {g3 : AHeap} {v3_0_3_0 : Nat} {n3_0_3_0 : Nat} {g4 : AHeap} {g5 : AHeap} {g6 : AHeap} (hln3_0_3_0 : o3_0_3_0.length = n3_0_3_0) {r : Int × (List Symbol) × (List Int) × (List Int)} (_ : rec (s0, b2_0, b1_0, o3_0_3_0) = some r), ∃ hz : AHeap, callP C (Lim C) 78 [PI s0, .ptr (g1.length + g2.length + 1) 0 0 0, .ptr g1.length 0 0 0, .ptr (g1.length + g2.length + g3.length + g4.length + g5.length + 4) 0 0 0, .ptr (g1.length + g2.length + g3.length + g4.length + 3) 0 0 0] (g1 ++ (.row false 0 1 [[.d (.rd (b2_0.map qb9))]] :: (g2 ++ (.row false 0 1 [[.d (.rd (b1_0.map intD))]] :: (g3 ++ (.row false v3_0_3_0 1 (rowP intD o3_0_3_0) :: (g4 ++ (.row false 0 1 [[.ref (g1.length + g2.length + g3.length + 2) v3_0_3_0 0 n3_0_3_0]] :: (g5 ++ (.row false 0 1 [[.fn 78 [.ptr (g1.length + g2.length + 1) 0 0 0, .ptr g1.length 0 0 0, .ptr (g1.length + g2.length + g3.length + g4.length + g5.length + 4) 0 0 0, .ptr (g1.length + g2.length + g3.length + g4.length + 3) 0 0 0]]] :: g6)))))))))) = some (resOf [PI r.1], (g1 ++ (.row false 0 1 [[.d (.rd (r.2.1.map qb9))]] :: (g2 ++ (.row false 0 1 [[.d (.rd (r.2.2.1.map intD))]] :: (g3 ++ (.row false v3_0_3_0 1 (rowP intD r.2.2.2) :: (g4 ++ (.row false 0 1 [[.ref (g1.length + g2.length + g3.length + 2) v3_0_3_0 0 n3_0_3_0]] :: (g5 ++ (.row false 0 1 [[.fn 78 [.ptr (g1.length + g2.length + 1) 0 0 0, .ptr g1.length 0 0 0, .ptr (g1.length + g2.length + g3.length + g4.length + g5.length + 4) 0 0 0, .ptr (g1.length + g2.length + g3.length + g4.length + 3) 0 0 0]]] :: (g6 ++ hz)))))))))))) ∧ r.2.2.2.length = n3_0_3_0) {s0 : Int} {s22 : Int} {g1 : AHeap} {g2 : AHeap} {g3 : AHeap} {v3_0_3_0 : Nat} {n3_0_3_0 : Nat} {g4 : AHeap} {g5 : AHeap} {g6 : AHeap} : SimI C 29376735 qpC9 (qir9 s0 s22 g1 g2 g3 v3_0_3_0 n3_0_3_0 g4 g5 g6) (qcb9 rec s0 s22) (qeH9 s0 s22 g1 g2 g3 v3_0_3_0 n3_0_3_0 g4 g5 g6) (qlv9 s0 s22 g1 g2 g3 v3_0_3_0 n3_0_3_0 g4 g5 g6) := by
  intro s g r hI hr
  obtain ⟨s7, s23, b2_0, b1_0, o3_0_3_0⟩ := s
  have ⟨gt, hg0⟩ : ∃ y, y = g := ⟨_, rfl⟩
  subst hg0
  simp only [qir9] at hI
  have hI0 := hI
  simp only [qcb9] at hr
  rcases iteP hr with ⟨h1, hr⟩ | ⟨h1, hr⟩
  obtain ⟨x3, h2, hr⟩ := bsome hr
  obtain ⟨z4, h2k, h2l0⟩ := hrec (g1 := g1) (g2 := g2) (g3 := g3) (v3_0_3_0 := v3_0_3_0) (n3_0_3_0 := n3_0_3_0) (g4 := g4) (g5 := g5) (g6 := (g6 ++ gt)) (show o3_0_3_0.length = n3_0_3_0 by first | assumption | (simp only [llA, lrA]; first | done | assumption | omega) | omega) h2
  try simp only [go_sem] at h2k
  obtain rfl := oiA hr
  refine ⟨⟨(gt ++ z4), ?_⟩, (show x3.2.2.2.length = n3_0_3_0 by first | assumption | (simp only [llA, lrA]; first | done | assumption | omega) | omega)⟩
  rotate_left
  obtain rfl := oiA hr
  refine xe_of ⟨gt, rfl, (show o3_0_3_0.length = n3_0_3_0 by first | assumption | (simp only [llA, lrA]; first | done | assumption | omega) | omega)⟩ ?_
  rotate_left
  all_goals (simp +decide only [go_sem, qeH9, qpC9, *])
set_option maxHeartbeats 60000000 in
theorem qlB9 {rec : Int × (List Symbol) × (List Int) × (List Int) → Option (Int × (List Symbol) × (List Int) × (List Int))} (hrec : ∀ {s0 : Int} {b2_0 : List Symbol} {b1_0 : List Int} {o3_0_3_0 : List Int} {g1 : AHeap} {g2 : AHeap} {g3 : AHeap} {v3_0_3_0 : Nat} {n3_0_3_0 : Nat} {g4 : AHeap} {g5 : AHeap} {g6 : AHeap} (hln3_0_3_0 : o3_0_3_0.length = n3_0_3_0) {r : Int × (List Symbol) × (List Int) × (List Int)} (_ : rec (s0, b2_0, b1_0, o3_0_3_0) = some r), ∃ hz : AHeap, callP C (Lim C) 78 [PI s0, .ptr (g1.length + g2.length + 1) 0 0 0, .ptr g1.length 0 0 0, .ptr (g1.length + g2.length + g3.length + g4.length + g5.length + 4) 0 0 0, .ptr (g1.length + g2.length + g3.length + g4.length + 3) 0 0 0] (g1 ++ (.row false 0 1 [[.d (.rd (b2_0.map qb9))]] :: (g2 ++ (.row false 0 1 [[.d (.rd (b1_0.map intD))]] :: (g3 ++ (.row false v3_0_3_0 1 (rowP intD o3_0_3_0) :: (g4 ++ (.row false 0 1 [[.ref (g1.length + g2.length + g3.length + 2) v3_0_3_0 0 n3_0_3_0]] :: (g5 ++ (.row false 0 1 [[.fn 78 [.ptr (g1.length + g2.length + 1) 0 0 0, .ptr g1.length 0 0 0, .ptr (g1.length + g2.length + g3.length + g4.length + g5.length + 4) 0 0 0, .ptr (g1.length + g2.length + g3.length + g4.length + 3) 0 0 0]]] :: g6)))))))))) = some (resOf [PI r.1], (g1 ++ (.row false 0 1 [[.d (.rd (r.2.1.map qb9))]] :: (g2 ++ (.row false 0 1 [[.d (.rd (r.2.2.1.map intD))]] :: (g3 ++ (.row false v3_0_3_0 1 (rowP intD r.2.2.2) :: (g4 ++ (.row false 0 1 [[.ref (g1.length + g2.length + g3.length + 2) v3_0_3_0 0 n3_0_3_0]] :: (g5 ++ (.row false 0 1 [[.fn 78 [.ptr (g1.length + g2.length + 1) 0 0 0, .ptr g1.length 0 0 0, .ptr (g1.length + g2.length + g3.length + g4.length + g5.length + 4) 0 0 0, .ptr (g1.length + g2.length + g3.length + g4.length + 3) 0 0 0]]] :: (g6 ++ hz)))))))))))) ∧ r.2.2.2.length = n3_0_3_0) {s0 : Int} {b2_0 : List Symbol} {b1_0 : List Int} {o3_0_3_0 : List Int} {g1 : AHeap} {g2 : AHeap} {g3 : AHeap} {v3_0_3_0 : Nat} {n3_0_3_0 : Nat} {g4 : AHeap} {g5 : AHeap} {g6 : AHeap} (hln3_0_3_0 : o3_0_3_0.length = n3_0_3_0) {r : Int × (List Symbol) × (List Int) × (List Int)} (hr : qbG9 rec s0 b2_0 b1_0 o3_0_3_0 = some r) : ∃ hz : AHeap, Lim C 78 [PI s0, .ptr (g1.length + g2.length + 1) 0 0 0, .ptr g1.length 0 0 0, .ptr (g1.length + g2.length + g3.length + g4.length + g5.length + 4) 0 0 0, .ptr (g1.length + g2.length + g3.length + g4.length + 3) 0 0 0] (g1 ++ (.row false 0 1 [[.d (.rd (b2_0.map qb9))]] :: (g2 ++ (.row false 0 1 [[.d (.rd (b1_0.map intD))]] :: (g3 ++ (.row false v3_0_3_0 1 (rowP intD o3_0_3_0) :: (g4 ++ (.row false 0 1 [[.ref (g1.length + g2.length + g3.length + 2) v3_0_3_0 0 n3_0_3_0]] :: (g5 ++ (.row false 0 1 [[.fn 78 [.ptr (g1.length + g2.length + 1) 0 0 0, .ptr g1.length 0 0 0, .ptr (g1.length + g2.length + g3.length + g4.length + g5.length + 4) 0 0 0, .ptr (g1.length + g2.length + g3.length + g4.length + 3) 0 0 0]]] :: g6)))))))))) = some (resOf [PI r.1], (g1 ++ (.row false 0 1 [[.d (.rd (r.2.1.map qb9))]] :: (g2 ++ (.row false 0 1 [[.d (.rd (r.2.2.1.map intD))]] :: (g3 ++ (.row false v3_0_3_0 1 (rowP intD r.2.2.2) :: (g4 ++ (.row false 0 1 [[.ref (g1.length + g2.length + g3.length + 2) v3_0_3_0 0 n3_0_3_0]] :: (g5 ++ (.row false 0 1 [[.fn 78 [.ptr (g1.length + g2.length + 1) 0 0 0, .ptr g1.length 0 0 0, .ptr (g1.length + g2.length + g3.length + g4.length + g5.length + 4) 0 0 0, .ptr (g1.length + g2.length + g3.length + g4.length + 3) 0 0 0]]] :: (g6 ++ hz)))))))))))) ∧ r.2.2.2.length = n3_0_3_0 := by
  simp only [qbG9] at hr
  obtain ⟨x1, h1, hr⟩ := bsome hr
  rcases iteP hr with ⟨h2, hr⟩ | ⟨h2, hr⟩
  obtain ⟨x2, h3, hr⟩ := bsome hr
  obtain ⟨x5, h4, hr⟩ := bsome hr
  obtain ⟨q4, h4L, h4X⟩ := (qlP9 hrec (g1 := g1) (g2 := g2) (g3 := g3) (v3_0_3_0 := v3_0_3_0) (n3_0_3_0 := n3_0_3_0) (g4 := g4) (g5 := g5) (g6 := g6)).L (g := []) h4 (show o3_0_3_0.length = n3_0_3_0 by first | assumption | (simp only [llA, lrA]; first | done | assumption | omega) | omega)
  obtain ⟨x6, x7, x8, x9, x10⟩ := x5
  try dsimp only at hr
  obtain ⟨z11, rfl, h4l0⟩ := h4X
  simp only [qeH9, go_sem] at h4L
  try simp only [hln3_0_3_0] at h4L
  obtain ⟨x12, h5, hr⟩ := bsome hr
  have h5a := eq_true (qa9 h5).1
  have h5b : (s0 < (n3_0_3_0 : Int)) = True := eq_true (by have hb : s0 < (x10.length : Int) := (qa9 h5).2.1; omega)
  have h5c := (qa9 h5).2.2
  obtain rfl := oiA hr
  refine ⟨z11, run_L is78 (nbA rfl) ?_, (show (x10.set (s0).toNat x6).length = n3_0_3_0 by first | assumption | (simp only [llA, lrA]; first | done | assumption | omega) | omega)⟩
  rotate_left
  obtain ⟨x13, h6, hr⟩ := bsome hr
  have h6a := eq_true (qa9 h6).1
  have h6b : (s0 < (n3_0_3_0 : Int)) = True := eq_true (by have hb : s0 < (o3_0_3_0.length : Int) := (qa9 h6).2.1; omega)
  have h6c := (qa9 h6).2.2
  obtain rfl := oiA hr
  refine ⟨[], run_L is78 (nbA rfl) ?_, (show (o3_0_3_0.set (s0).toNat (w64 (s0 + 1))).length = n3_0_3_0 by first | assumption | (simp only [llA, lrA]; first | done | assumption | omega) | omega)⟩
  rotate_left
  all_goals (simp +decide only [go_sem, c78, *])
theorem qmZ9 {s0 : Int} {b2_0 : List Symbol} {b1_0 : List Int} {o3_0_3_0 : List Int} {g1 : AHeap} {g2 : AHeap} {g3 : AHeap} {v3_0_3_0 : Nat} {n3_0_3_0 : Nat} {g4 : AHeap} {g5 : AHeap} {g6 : AHeap} (hln3_0_3_0 : o3_0_3_0.length = n3_0_3_0) {r : Int × (List Symbol) × (List Int) × (List Int)} (hr : qih9 s0 b2_0 b1_0 o3_0_3_0 = some r) : ∃ hz : AHeap, Lim C 78 [PI s0, .ptr (g1.length + g2.length + 1) 0 0 0, .ptr g1.length 0 0 0, .ptr (g1.length + g2.length + g3.length + g4.length + g5.length + 4) 0 0 0, .ptr (g1.length + g2.length + g3.length + g4.length + 3) 0 0 0] (g1 ++ (.row false 0 1 [[.d (.rd (b2_0.map qb9))]] :: (g2 ++ (.row false 0 1 [[.d (.rd (b1_0.map intD))]] :: (g3 ++ (.row false v3_0_3_0 1 (rowP intD o3_0_3_0) :: (g4 ++ (.row false 0 1 [[.ref (g1.length + g2.length + g3.length + 2) v3_0_3_0 0 n3_0_3_0]] :: (g5 ++ (.row false 0 1 [[.fn 78 [.ptr (g1.length + g2.length + 1) 0 0 0, .ptr g1.length 0 0 0, .ptr (g1.length + g2.length + g3.length + g4.length + g5.length + 4) 0 0 0, .ptr (g1.length + g2.length + g3.length + g4.length + 3) 0 0 0]]] :: g6)))))))))) = some (resOf [PI r.1], (g1 ++ (.row false 0 1 [[.d (.rd (r.2.1.map qb9))]] :: (g2 ++ (.row false 0 1 [[.d (.rd (r.2.2.1.map intD))]] :: (g3 ++ (.row false v3_0_3_0 1 (rowP intD r.2.2.2) :: (g4 ++ (.row false 0 1 [[.ref (g1.length + g2.length + g3.length + 2) v3_0_3_0 0 n3_0_3_0]] :: (g5 ++ (.row false 0 1 [[.fn 78 [.ptr (g1.length + g2.length + 1) 0 0 0, .ptr g1.length 0 0 0, .ptr (g1.length + g2.length + g3.length + g4.length + g5.length + 4) 0 0 0, .ptr (g1.length + g2.length + g3.length + g4.length + 3) 0 0 0]]] :: (g6 ++ hz)))))))))))) ∧ r.2.2.2.length = n3_0_3_0 := by
  obtain ⟨n, hn⟩ := qjM9 hr
  clear hr
  induction n generalizing s0 b2_0 b1_0 o3_0_3_0 g1 g2 g3 v3_0_3_0 n3_0_3_0 g4 g5 g6 r with
  | zero => cases hn
  | succ n ih =>
    refine qlB9 (rec := fixN _ n) (fun {s0} {b2_0} {b1_0} {o3_0_3_0} {g1} {g2} {g3} {v3_0_3_0} {n3_0_3_0} {g4} {g5} {g6} hln3_0_3_0 {r} hr => ?_) hln3_0_3_0 (g1 := g1) (g2 := g2) (g3 := g3) (v3_0_3_0 := v3_0_3_0) (n3_0_3_0 := n3_0_3_0) (g4 := g4) (g5 := g5) (g6 := g6) hn
    obtain ⟨hz, h1, f0⟩ := ih hln3_0_3_0 (g1 := g1) (g2 := g2) (g3 := g3) (v3_0_3_0 := v3_0_3_0) (n3_0_3_0 := n3_0_3_0) (g4 := g4) (g5 := g5) (g6 := g6) hr
    exact ⟨hz, qh9 rfl rfl rfl h1, f0⟩
def c43 : ACode := .seq (.reg [] [(4, 0)] [.K 2 (.box (.tmp 0)), .K 3 (.box (.tmp 1)), .K 4 (.mv (.const (.slice none 0 0)))]) (.seq (.reg [] [] [.T 7 (.load none (.tmp 3)), .T 8 (.len (.tmp 7)), .T 9 (.mkSl [.d (.v (.int .i64 0))] 1 8 (.tmp 8) (.tmp 8)), .K 5 (.alloc [.im true []] 1), ⟨none, .store 1 (.tmp 5) (.tmp 9), none, false, false⟩]) (.seq (.reg [] [] [.K 6 (.alloc [.d (.v .nilFunc)] 1)]) (.seq (.reg [] [] [.T 10 (.mkF 78 [.tmp 3, .tmp 2, .tmp 6, .tmp 5]), ⟨none, .store 1 (.tmp 6) (.tmp 10), none, false, false⟩]) (.seq (.reg [] [] [.T 11 (.load none (.tmp 6)), .T 12 (.callV (.tmp 11) [.const (.int .i64 0)])]) (.seq (.reg [] [(4, 0)] [.T 13 (.load none (.tmp 5)), .N 4 13]) (.ret))))))
theorem is43 : IsF C 43 14 127 c43 [.tmp 4] := ⟨⟨Tryd.f43, _, C_P ▸ Tryd.func43, rfl, rfl, rfl, by kernel_rfl, rfl⟩⟩
set_option maxHeartbeats 60000000 in
theorem qkN9 {a0 : List Symbol} {a1 : List Int} {r : (List Int)} (hr : qgi9 a0 a1 = some r) : Res C 43 [.rd (a0.map qb9), .rd (a1.map intD)] (.d (.rd (r.map intD))) := by
  simp only [qgi9] at hr
  obtain ⟨h1, hr⟩ := gsome hr
  obtain ⟨h2, hr⟩ := gsome hr
  obtain ⟨x1, h3, hr⟩ := bsome hr
  obtain ⟨z2, h3k, h3l0⟩ := qmZ9 (g1 := []) (g2 := []) (g3 := []) (v3_0_3_0 := 0) (n3_0_3_0 := (List.replicate ((a1.length : Int)).toNat 0).length) (g4 := []) (g5 := []) (g6 := []) rfl h3
  replace h3k := qh9 rfl rfl rfl h3k
  try simp only [go_sem] at h3k
  obtain rfl := oiA hr
  refine run_V is43 (nbA rfl) ?_
  rotate_left
  all_goals (simp +decide only [go_sem, c43, *])
def qpO9 : ACode := .seq (.reg [] [] [.K 14 (.bin .lss (.tmp 13) (.tmp 12))]) (.seq (.cond (.tmp 14) (some 14) (.skip) (.exit 0)) (.seq (.block 1 16793632 (.seq (.reg [] [] [.M 15 13, .N 5 15]) (.seq (.reg [] [] [.M 16 0, .M 17 5, ⟨some (18, false), .ix 1 (.tmp 16) (.tmp 17), none, true, false⟩, ⟨some (19, false), .load none (.tmp 18), none, true, false⟩, .M 20 1, .M 21 5, ⟨some (22, false), .ix 1 (.tmp 20) (.tmp 21), none, true, false⟩, ⟨some (23, false), .load none (.tmp 22), none, true, false⟩, .K 24 (.bin .neq (.tmp 19) (.tmp 23))]) (.cond (.tmp 24) (some 24) (.seq (.reg [] [] [.K 4 (.mv (.const (.bool false)))]) (.ret)) (.skip))))) (.reg [] [] [.T 25 (.bin .add (.tmp 13) (cI 1)), .N 13 25])))
def c82 : ACode := .seq (.reg [] [] [.K 4 (.mv (.const (.bool false)))]) (.seq (.seq (.reg [] [] [.M 6 0, .T 7 (.len (.tmp 6)), .M 8 1, .T 9 (.len (.tmp 8)), .K 10 (.bin .neq (.tmp 7) (.tmp 9))]) (.cond (.tmp 10) (some 10) (.seq (.reg [] [] [.K 4 (.mv (.const (.bool false)))]) (.ret)) (.skip))) (.seq (.seq (.reg [] [] [.M 11 0, .K 12 (.len (.tmp 11)), .K 13 (.mv (cI 0))]) (.block 0 16793632 (.loop qpO9))) (.seq (.reg [] [] [.K 4 (.mv (.const (.bool true)))]) (.ret))))
theorem is82 : IsF C 82 26 16806963 c82 [.tmp 4] := ⟨⟨Tryd.f82, _, C_P ▸ Tryd.func82, rfl, rfl, rfl, by kernel_rfl, rfl⟩⟩
def qbI9 (s0 : List Int) (s1 : List Int) (s12 : Int) : Int → Unit → St := fun s13 _ => ⟨[(0, .d (.rd (s0.map intD))), (1, .d (.rd (s1.map intD))), (4, PB false), (12, PI s12), (13, PI s13)], []⟩
def qhL9 (s0 : List Int) (s1 : List Int) (s12 : Int) : (Bool ⊕ Int) → AExit × St → Prop
  | .inl r, q => XV C [.tmp 4] (PB r) q
  | .inr s13, q => ∃ g, q = (.exit 0, qbI9 s0 s1 s12 s13 g)
set_option maxHeartbeats 60000000 in
theorem qhH9 {s0 : List Int} {s1 : List Int} {s12 : Int} : Sim C 16806963 qpO9 (qcB9 s0 s1 s12) (qbI9 s0 s1 s12) (qhL9 s0 s1 s12) := by
  intro s g r hr
  have ⟨s13, hs0⟩ : ∃ y, y = s := ⟨_, rfl⟩
  subst hs0
  simp only [qcB9] at hr
  rcases iteP hr with ⟨h1, hr⟩ | ⟨h1, hr⟩
  obtain ⟨x1, h2, x2, h3, hr⟩ := bs2 hr
  rcases iteP hr with ⟨h4, hr⟩ | ⟨h4, hr⟩
  obtain rfl := oiA hr
  refine ⟨(), ?_⟩
  rotate_left
  obtain rfl := oiA hr
  refine xv_of ?_
  rotate_left
  obtain rfl := oiA hr
  refine xe_of ⟨(), rfl⟩ ?_
  rotate_left
  all_goals (simp +decide only [go_sem, qbI9, qpO9, *])
set_option maxHeartbeats 60000000 in
theorem qie9 {a0 : List Int} {a1 : List Int} {r : Bool} (hr : qbF9 a0 a1 = some r) : Res C 82 [.rd (a0.map intD), .rd (a1.map intD)] (PB r) := by
  simp only [qbF9] at hr
  rcases iteP hr with ⟨h1, hr⟩ | ⟨h1, hr⟩
  obtain ⟨x3, h2, hr⟩ := bsome hr
  obtain ⟨q2, h2L, h2X⟩ := qhH9.L (g := ()) h2
  rcases x3 with x4 | x5
  try dsimp only at hr
  obtain ⟨st2, rfl, h2R⟩ := h2X
  simp only [qbI9, go_sem] at h2L
  obtain rfl := oiA hr
  refine run_V is82 (nbA rfl) ?_
  rotate_left
  try dsimp only at hr
  obtain ⟨⟨⟩, rfl⟩ := h2X
  simp only [qbI9, go_sem] at h2L
  obtain rfl := oiA hr
  refine run_V is82 (nbA rfl) ?_
  rotate_left
  obtain rfl := oiA hr
  refine run_V is82 (nbA rfl) ?_
  rotate_left
  all_goals (simp +decide only [go_sem, c82, *])
def qqo9 : ACode := .seq (.reg [] [] [.K 33 (.bin .lss (.tmp 32) (.tmp 31))]) (.seq (.cond (.tmp 33) (some 33) (.skip) (.exit 0)) (.seq (.block 1 604467521783612674930688 (.seq (.reg [] [] [.T 34 (.ix 1 (.tmp 30) (.tmp 32)), .T 35 (.load none (.tmp 34)), .N 11 35]) (.seq (.reg [] [] [.M 36 11, .T 37 (.call 80 [.tmp 36]), .N 12 37]) (.seq (.seq (.reg [] [] [.M 39 12, .T 40 (.asr 128 (some (.d (.v (.int .i64 0)))) (.tmp 39) true), .M 38 40, .T 41 (.ext (.tmp 38) 0), .T 42 (.ext (.tmp 38) 1), .N 13 41, .N 14 42]) (.seq (.reg [] [] [.N 43 14]) (.cond (.tmp 43) (some 43) (.seq (.seq (.reg [] [] [.M 44 2, .T 45 (.ix 1 (.tmp 44) (cI 0)), .T 46 (.load none (.tmp 45)), .M 47 13, .K 48 (.bin .neq (.tmp 46) (.tmp 47))]) (.cond (.tmp 48) (some 48) (.seq (.reg [] [(6, 0)] [.K 6 (.mv (.const (.slice none 0 0))), .K 7 (.mv (.const (.bool false)))]) (.ret)) (.skip))) (.seq (.reg [] [] [.M 49 2, .T 50 (.cut 1 (.tmp 49) (some (cI 1)) none), .N 2 50]) (.exit 1))) (.skip)))) (.seq (.reg [] [] [.M 51 12, .T 52 (.asr 130 (some (.d (.v (.int .i64 0)))) (.tmp 51) false), .N 15 52]) (.seq (.reg [] [] [.M 53 0, .M 54 2, .T 55 (.call 81 [.tmp 53, .tmp 54]), .N 16 55]) (.seq (.reg [] [(17, 0)] [.M 57 8, .M 58 15, .T 59 (.look (Go.TypeDesc.int .i64) (.im true []) (.tmp 57) (.tmp 58) true), .M 56 59, .T 60 (.ext (.tmp 56) 0), .T 61 (.ext (.tmp 56) 1), .N 17 60, .N 18 61]) (.seq (.block 2 604467521783612674865152 (.seq (.reg [] [] [.M 63 18, .T 64 (.not (.tmp 63)), .N 62 64]) (.cond (.tmp 62) (some 62) (.seq (.reg [] [] [.M 65 8, .M 66 15, .M 67 2, .M 68 16, .T 69 (.cut 1 (.tmp 67) none (some (.tmp 68))), ⟨none, .mput (Go.TypeDesc.int .i64) (.tmp 65) (.tmp 66) (.tmp 69), none, false, false⟩]) (.reg [] [] [.M 70 9, .M 71 15, .M 72 2, .M 73 16, .T 74 (.cut 1 (.tmp 72) none (some (.tmp 73))), ⟨some (75, false), .call 58 [.tmp 74], none, false, true⟩, .T 76 (.build [(0, 1), (1, 1)] [.d (.v (.int .i64 0)), .im true []] [(0, .tmp 71), (1, .tmp 75)]), .T 77 (.lit 2 [(0, .tmp 76)]), .T 78 (.app 2 32 (.tmp 70) (.tmp 77)), .N 9 78])) (.seq (.reg [] [] [.M 80 17, .M 81 2, .M 82 16, .T 83 (.cut 1 (.tmp 81) none (some (.tmp 82))), .T 84 (.call 82 [.tmp 80, .tmp 83]), .T 85 (.not (.tmp 84)), .N 79 85]) (.cond (.tmp 79) (some 79) (.seq (.reg [] [(6, 0)] [.K 6 (.mv (.const (.slice none 0 0))), .K 7 (.mv (.const (.bool false)))]) (.ret)) (.skip)))))) (.reg [] [] [.M 86 2, .M 87 16, .T 88 (.cut 1 (.tmp 86) (some (.tmp 87)) none), .N 2 88]))))))))) (.reg [] [] [.T 89 (.bin .add (.tmp 32) (cI 1)), .N 32 89])))
def c49 : ACode := .seq (.reg [] [(6, 0)] [.K 6 (.mv (.const (.slice none 0 0))), .K 7 (.mv (.const (.bool false)))]) (.seq (.seq (.reg [] [] [.M 19 0, .M 20 1, .T 21 (.call 62 [.tmp 19, .tmp 20]), .T 22 (.bin .neq (.tmp 21) (cI 0)), .M 23 22, .MG 24 23 false 0, .MG 25 23 false 2, .TG 26 23 false (.call 62 [.tmp 24, .tmp 25]), .TG 27 23 false (.bin .neq (.tmp 26) (cI 0)), .K 28 (.pick (.tmp 23) (.const (.bool true)) (.tmp 27))]) (.cond (.tmp 28) (some 28) (.seq (.reg [] [(6, 0)] [.K 6 (.mv (.const (.slice none 0 0))), .K 7 (.mv (.const (.bool false)))]) (.ret)) (.skip))) (.seq (.reg [] [] [.T 29 (.mkMap), .N 8 29]) (.seq (.reg [] [(9, 2)] [.K 9 (.mv (.const (.slice none 0 0)))]) (.seq (.seq (.reg [] [] [.N 30 1, .K 31 (.len (.tmp 30)), .K 32 (.mv (cI 0))]) (.block 0 604467521783612674930688 (.loop qqo9))) (.seq (.reg [] [] [.M 90 9, .T 91 (.call 83 [.tmp 90, .func 84])]) (.seq (.reg [] [(6, 0)] [.M 92 9, .N 6 92, .K 7 (.mv (.const (.bool true)))]) (.ret)))))))
theorem is49 : IsF C 49 93 604467521783620459559879 c49 [.tmp 6, .tmp 7] := ⟨⟨Tryd.f49, _, C_P ▸ Tryd.func49, rfl, rfl, rfl, by kernel_rfl, rfl⟩⟩
def qdZ9 (s0 : List Symbol) (s1 : List Int) (s6 : List Bind) (s30 : List Int) (s31 : Int) : (List Int) × Int × (List (Int × (List Int))) × (List Bind) → Nat × AHeap → St := fun (s2, s32, m8, o9) (v9, gt) => ⟨[(0, .d (.rd (s0.map qb9))), (1, .d (.rd (s1.map intD))), (2, .d (.rd (s2.map intD))), (6, .d (.rd (s6.map qc9))), (7, PB false), (8, .mp 0), (9, .ref 1 v9 0 o9.length), (30, .d (.rd (s30.map intD))), (31, PI s31), (32, PI s32)], (.map (mapP keyI (lsD intD) m8) :: (.row false v9 2 (rowP qc9 o9) :: gt))⟩
def qmz9 (s0 : List Symbol) (s1 : List Int) (s6 : List Bind) (s30 : List Int) (s31 : Int) : (((List Bind) × Bool) ⊕ ((List Int) × Int × (List (Int × (List Int))) × (List Bind))) → AExit × St → Prop
  | .inl r, q => XV C [.tmp 6, .tmp 7] (.tp [.d (.rd (r.1.map qc9)), PB r.2]) q
  | .inr (s2, s32, m8, o9), q => ∃ g, q = (.exit 0, qdZ9 s0 s1 s6 s30 s31 (s2, s32, m8, o9) g)
set_option maxHeartbeats 60000000 in
theorem qmS9 {s0 : List Symbol} {s1 : List Int} {s6 : List Bind} {s30 : List Int} {s31 : Int} : Sim C 604467521783620459559879 qqo9 (qbd9 s0 s1 s6 s30 s31) (qdZ9 s0 s1 s6 s30 s31) (qmz9 s0 s1 s6 s30 s31) := by
  intro s g r hr
  obtain ⟨s2, s32, m8, o9⟩ := s
  obtain ⟨v9, gt⟩ := g
  simp only [qbd9] at hr
  rcases iteP hr with ⟨h1, hr⟩ | ⟨h1, hr⟩
  obtain ⟨x3, h2, x4, h3, hr⟩ := bs2 hr
  have h3k := (qpc9 h3).k rfl rfl rfl
  try simp only [go_sem] at h3k
  obtain ⟨h4, hr⟩ := gsome hr
  rcases h5 : asI 128 .i64 x4 with _ | x5
  simp only [h5] at hr
  obtain ⟨x8, h6, x9, h7, hr⟩ := bs2 hr
  have h7k := (qoa9 h7).k rfl rfl rfl
  try simp only [go_sem] at h7k
  rcases h8 : mget m8 x8 with _ | x10
  simp only [h8] at hr
  obtain ⟨x14, h9, hr⟩ := bsome hr
  obtain ⟨h10, hr⟩ := gsome hr
  obtain ⟨h11, hr⟩ := gsome hr
  obtain ⟨x15, h12, hr⟩ := bsome hr
  obtain rfl := oiA hr
  refine ⟨((v9 + 1), (gt ++ (.row true 0 1 (rowP intD x14) :: []))), ?_⟩
  rotate_left
  simp only [h8] at hr
  obtain ⟨x11, h13, x12, h14, hr⟩ := bs2 hr
  have h14k := (qie9 h14).k rfl rfl rfl
  try simp only [go_sem] at h14k
  rcases iteB hr with ⟨h15, hr⟩ | ⟨h15, hr⟩
  obtain ⟨x13, h16, hr⟩ := bsome hr
  obtain rfl := oiA hr
  refine ⟨(v9, gt), ?_⟩
  rotate_left
  obtain rfl := oiA hr
  refine xv_of ?_
  rotate_left
  simp only [h5] at hr
  obtain ⟨x6, h17, hr⟩ := bsome hr
  rcases iteP hr with ⟨h18, hr⟩ | ⟨h18, hr⟩
  obtain ⟨x7, h19, hr⟩ := bsome hr
  obtain rfl := oiA hr
  refine ⟨(v9, gt), ?_⟩
  rotate_left
  obtain rfl := oiA hr
  refine xv_of ?_
  rotate_left
  obtain rfl := oiA hr
  refine xe_of ⟨(v9, gt), rfl⟩ ?_
  rotate_left
  all_goals (simp +decide only [go_sem, qdZ9, qqo9, *])
set_option maxHeartbeats 60000000 in
theorem qjI9 {a0 : List Symbol} {a1 : List Int} {a2 : List Int} {r : (List Bind) × Bool} (hr : qeE9 a0 a1 a2 = some r) : Res C 49 [.rd (a0.map qb9), .rd (a1.map intD), .rd (a2.map intD)] (.tp [.d (.rd (r.1.map qc9)), PB r.2]) := by
  simp only [qeE9] at hr
  obtain ⟨x1, h1, hr⟩ := bsome hr
  have h1k := fun h => qgu9 (h := h) h1
  try simp only [go_sem] at h1k
  rcases iteP hr with ⟨h2, hr⟩ | ⟨h2, hr⟩
  obtain ⟨x2, h3, hr⟩ := bsome hr
  have h3k := fun h => qgu9 (h := h) h3
  try simp only [go_sem] at h3k
  rcases iteP hr with ⟨h4, hr⟩ | ⟨h4, hr⟩
  obtain ⟨x16, h5, hr⟩ := bsome hr
  obtain ⟨q5, h5L, h5X⟩ := qmS9.L (g := (0, [])) h5
  rcases x16 with x17 | ⟨x18, x19, x20, x21⟩
  try dsimp only at hr
  obtain ⟨st5, rfl, h5R⟩ := h5X
  simp only [qdZ9, go_sem] at h5L
  obtain rfl := oiA hr
  refine run_V is49 (nbA rfl) ?_
  rotate_left
  try dsimp only at hr
  obtain ⟨⟨z22, z23⟩, rfl⟩ := h5X
  simp only [qdZ9, go_sem] at h5L
  obtain ⟨x24, h6, hr⟩ := bsome hr
  obtain ⟨z25, h6k, h6l0⟩ := qjs9 (g1 := (.map (mapP keyI (lsD intD) x20) :: [])) (v0 := z22) (n0 := x21.length) (g2 := z23) rfl h6
  replace h6k := qh9 rfl rfl rfl h6k
  try simp only [go_sem] at h6k
  obtain rfl := oiA hr
  refine run_V is49 (nbA rfl) ?_
  rotate_left
  obtain rfl := oiA hr
  refine run_V is49 (nbA rfl) ?_
  rotate_left
  obtain rfl := oiA hr
  refine run_V is49 (nbA rfl) ?_
  rotate_left
  all_goals (simp +decide only [go_sem, c49, *])
def qpF9 : ACode := .seq (.reg [] [] [.K 15 (.bin .lss (.tmp 14) (.tmp 13))]) (.seq (.cond (.tmp 15) (some 15) (.skip) (.exit 0)) (.seq (.block 1 4398113654144 (.seq (.reg [] [] [.M 16 14, .T 17 (.ix 2 (.tmp 12) (.tmp 14)), .T 18 (.load (some 2) (.tmp 17)), .K 8 (.alloc [.im true [], .im true []] 2), .N 7 16, ⟨none, .store 2 (.tmp 8) (.tmp 18), none, false, false⟩]) (.seq (.seq (.reg [] [] [.T 19 (.fa 0 (.tmp 8)), ⟨some (20, false), .load none (.tmp 19), none, true, false⟩, ⟨some (21, false), .ix 1 (.tmp 20) (cI 0), none, true, false⟩, ⟨some (22, false), .load none (.tmp 21), none, true, false⟩, .M 23 1, ⟨some (24, false), .ix 1 (.tmp 23) (cI 0), none, true, false⟩, ⟨some (25, false), .load none (.tmp 24), none, true, false⟩, .K 26 (.bin .neq (.tmp 22) (.tmp 25))]) (.cond (.tmp 26) (some 26) (.exit 1) (.skip))) (.seq (.reg [] [] [.T 28 (.fa 0 (.tmp 3)), .T 29 (.load none (.tmp 28)), .T 30 (.fa 0 (.tmp 8)), .T 31 (.load none (.tmp 30)), .M 32 1, .T 33 (.call 49 [.tmp 29, .tmp 31, .tmp 32]), .M 27 33, .T 34 (.ext (.tmp 27) 0), .T 35 (.ext (.tmp 27) 1), .M 9 34, .N 10 35]) (.seq (.reg [] [] [.M 36 10, .M 37 36, .MG 38 37 true 2, .MG 39 37 true 7, .TG 40 37 true (.callV (.tmp 38) [.tmp 39]), .TG 41 37 true (.not (.tmp 40)), .K 42 (.pick (.tmp 37) (.tmp 41) (.const (.bool false)))]) (.cond (.tmp 42) (some 42) (.seq (.reg [] [] [.K 6 (.mv (.const (.bool false)))]) (.ret)) (.skip))))))) (.reg [] [] [.T 43 (.bin .add (.tmp 14) (cI 1)), .N 14 43])))
def c44 : ACode := .seq (.reg [] [] [.K 3 (.box (.tmp 0)), .K 6 (.mv (.const (.bool false)))]) (.seq (.seq (.reg [] [] [.T 11 (.fa 1 (.tmp 3)), .K 12 (.load none (.tmp 11)), .K 13 (.len (.tmp 12)), .K 14 (.mv (cI 0))]) (.block 0 4398113654144 (.loop qpF9))) (.seq (.reg [] [] [.K 6 (.mv (.const (.bool true)))]) (.ret)))
theorem is44 : IsF C 44 44 4398113682895 c44 [.tmp 6] := ⟨⟨Tryd.f44, _, C_P ▸ Tryd.func44, rfl, rfl, rfl, by kernel_rfl, rfl⟩⟩
def qba9 (s0_0 : List Symbol) (s0_1 : List Rule) (s1 : List Int) (s12 : List Rule) (s13 : Int) (b2_0_0 : Int) (b3_0 : List Symbol) (b3_1 : List Rule) (g1 : AHeap) (g2 : AHeap) (g3 : AHeap) : Int × Int × Int → AHeap → St := fun (s14, b2_1_0, b2_1_1) gt => ⟨[(0, .ag [.d (.rd (s0_0.map qb9)), .d (.rd (s0_1.map qd9))]), (1, .d (.rd (s1.map intD))), (2, .fn 60 [.ptr (g1.length + g2.length + 1) 0 0 0, .ptr g1.length 0 0 0]), (3, .ptr (g1.length + g2.length + g3.length + 2) 0 0 0), (6, PB false), (12, .d (.rd (s12.map qd9))), (13, PI s13), (14, PI s14)], (g1 ++ (.row false 0 2 [[PI b2_1_0, PI b2_1_1]] :: (g2 ++ (.row false 0 1 [[PI b2_0_0]] :: (g3 ++ (.row false 0 2 [[.d (.rd (b3_0.map qb9)), .d (.rd (b3_1.map qd9))]] :: gt))))))⟩
def qfy9 (s0_0 : List Symbol) (s0_1 : List Rule) (s1 : List Int) (s12 : List Rule) (s13 : Int) (b2_0_0 : Int) (b3_0 : List Symbol) (b3_1 : List Rule) (g1 : AHeap) (g2 : AHeap) (g3 : AHeap) : ((Bool × Int × Int) ⊕ (Int × Int × Int)) → AExit × St → Prop
  | .inl r, q => XL C [.tmp 6] (fun vs hp => ∃ hz : AHeap, vs = [PB r.1] ∧ hp = (g1 ++ (.row false 0 2 [[PI r.2.1, PI r.2.2]] :: (g2 ++ (.row false 0 1 [[PI b2_0_0]] :: (g3 ++ hz)))))) q
  | .inr (s14, b2_1_0, b2_1_1), q => ∃ g, q = (.exit 0, qba9 s0_0 s0_1 s1 s12 s13 b2_0_0 b3_0 b3_1 g1 g2 g3 (s14, b2_1_0, b2_1_1) g)
set_option maxHeartbeats 60000000 in
theorem qfm9 {s0_0 : List Symbol} {s0_1 : List Rule} {s1 : List Int} {s12 : List Rule} {s13 : Int} {b2_0_0 : Int} {b3_0 : List Symbol} {b3_1 : List Rule} {g1 : AHeap} {g2 : AHeap} {g3 : AHeap} : Sim C 4398113682895 qpF9 (qw9 s0_0 s0_1 s1 s12 s13 b2_0_0 b3_0 b3_1) (qba9 s0_0 s0_1 s1 s12 s13 b2_0_0 b3_0 b3_1 g1 g2 g3) (qfy9 s0_0 s0_1 s1 s12 s13 b2_0_0 b3_0 b3_1 g1 g2 g3) := by
  intro s g r hr
  obtain ⟨s14, b2_1_0, b2_1_1⟩ := s
  have ⟨gt, hg0⟩ : ∃ y, y = g := ⟨_, rfl⟩
  subst hg0
  simp only [qw9] at hr
  rcases iteP hr with ⟨h1, hr⟩ | ⟨h1, hr⟩
  obtain ⟨x1, h2, x2, h3, x3, h4, hr⟩ := bs3 hr
  rcases iteP hr with ⟨h5, hr⟩ | ⟨h5, hr⟩
  obtain ⟨x4, h6, hr⟩ := bsome hr
  have h6k := (qjI9 h6).k rfl rfl rfl
  try simp only [go_sem] at h6k
  rcases iteB hr with ⟨h7, hr⟩ | ⟨h7, hr⟩
  obtain ⟨x5, h8, hr⟩ := bsome hr
  have h8k := qh9 rfl rfl rfl (qjU9 (g1 := g1) (g2 := g2) (g3 := (g3 ++ (.row false 0 2 [[.d (.rd (b3_0.map qb9)), .d (.rd (b3_1.map qd9))]] :: (gt ++ (.row false 0 2 [[.d (.rd (x1.L.map intD)), .d (.rd (x1.R.map intD))]] :: []))))) h8)
  try simp only [go_sem] at h8k
  rcases iteB hr with ⟨h9, hr⟩ | ⟨h9, hr⟩
  obtain rfl := oiA hr
  refine ⟨(gt ++ (.row false 0 2 [[.d (.rd (x1.L.map intD)), .d (.rd (x1.R.map intD))]] :: [])), ?_⟩
  rotate_left
  obtain rfl := oiA hr
  refine xl_of ⟨(.row false 0 2 [[.d (.rd (b3_0.map qb9)), .d (.rd (b3_1.map qd9))]] :: (gt ++ (.row false 0 2 [[.d (.rd (x1.L.map intD)), .d (.rd (x1.R.map intD))]] :: []))), rfl, rfl⟩ ?_
  rotate_left
  obtain rfl := oiA hr
  refine ⟨(gt ++ (.row false 0 2 [[.d (.rd (x1.L.map intD)), .d (.rd (x1.R.map intD))]] :: [])), ?_⟩
  rotate_left
  obtain rfl := oiA hr
  refine ⟨(gt ++ (.row false 0 2 [[.d (.rd (x1.L.map intD)), .d (.rd (x1.R.map intD))]] :: [])), ?_⟩
  rotate_left
  obtain rfl := oiA hr
  refine xe_of ⟨gt, rfl⟩ ?_
  rotate_left
  all_goals (simp +decide only [go_sem, qba9, qpF9, *])
set_option maxHeartbeats 60000000 in
theorem qfT9 {s0_0 : List Symbol} {s0_1 : List Rule} {s1 : List Int} {b2_1_0 : Int} {b2_1_1 : Int} {b2_0_0 : Int} {g1 : AHeap} {g2 : AHeap} {g3 : AHeap} {r : Bool × Int × Int} (hr : qbl9 s0_0 s0_1 s1 b2_1_0 b2_1_1 b2_0_0 = some r) : ∃ hz : AHeap, Lim C 44 [.ag [.d (.rd (s0_0.map qb9)), .d (.rd (s0_1.map qd9))], .d (.rd (s1.map intD)), .fn 60 [.ptr (g1.length + g2.length + 1) 0 0 0, .ptr g1.length 0 0 0]] (g1 ++ (.row false 0 2 [[PI b2_1_0, PI b2_1_1]] :: (g2 ++ (.row false 0 1 [[PI b2_0_0]] :: g3)))) = some (resOf [PB r.1], (g1 ++ (.row false 0 2 [[PI r.2.1, PI r.2.2]] :: (g2 ++ (.row false 0 1 [[PI b2_0_0]] :: (g3 ++ hz)))))) := by
  simp only [qbl9] at hr
  obtain ⟨x6, h1, hr⟩ := bsome hr
  obtain ⟨q1, h1L, h1X⟩ := (qfm9 (g1 := g1) (g2 := g2) (g3 := g3)).L (g := []) h1
  rcases x6 with x7 | ⟨x8, x9, x10⟩
  try dsimp only at hr
  obtain ⟨st1, _, _, rfl, h1R, y4, rfl, rfl⟩ := h1X
  simp only [qba9, go_sem] at h1L
  obtain rfl := oiA hr
  refine ⟨y4, run_L is44 (nbA rfl) ?_⟩
  rotate_left
  try dsimp only at hr
  obtain ⟨z11, rfl⟩ := h1X
  simp only [qba9, go_sem] at h1L
  obtain rfl := oiA hr
  refine ⟨(.row false 0 2 [[.d (.rd (s0_0.map qb9)), .d (.rd (s0_1.map qd9))]] :: z11), run_L is44 (nbA rfl) ?_⟩
  rotate_left
  all_goals (simp +decide only [go_sem, c44, *])
def qoF9 : ACode := .seq (.seq (.reg [] [] [.M 11 8, .T 12 (.load none (.tmp 1)), .T 13 (.load none (.tmp 6)), .T 14 (.ix 1 (.tmp 12) (.tmp 13)), .T 15 (.load none (.tmp 14)), .K 16 (.bin .lss (.tmp 11) (.tmp 15))]) (.cond (.tmp 16) (some 16) (.skip) (.exit 0))) (.seq (.block 1 8454144 (.seq (.reg [] [] [.T 21 (.load none (.tmp 2)), .M 22 8, .K 23 (.callV (.tmp 21) [.tmp 22])]) (.cond (.tmp 23) (some 23) (.seq (.reg [] [] [.K 7 (.mv (.const (.bool true)))]) (.ret)) (.skip)))) (.reg [] [] [.T 17 (.load none (.tmp 1)), .M 18 8, .T 19 (.ix 1 (.tmp 17) (.tmp 18)), .T 20 (.load none (.tmp 19)), .N 8 20]))
def c59 : ACode := .seq (.reg [] [] [.K 6 (.box (.tmp 0)), .K 7 (.mv (.const (.bool false)))]) (.seq (.seq (.reg [] [] [.T 9 (.load none (.tmp 6)), .T 10 (.bin .add (.tmp 9) (cI 1)), .N 8 10]) (.block 0 8454144 (.loop qoF9))) (.seq (.reg [] [] [⟨some (24, false), .load (some 2) (.tmp 3), none, true, false⟩, ⟨some (25, false), .load none (.tmp 4), none, true, false⟩, ⟨some (26, false), .load none (.tmp 6), none, true, false⟩, ⟨some (27, false), .load none (.tmp 1), none, true, false⟩, ⟨some (28, false), .load none (.tmp 6), none, true, false⟩, ⟨some (29, false), .ix 1 (.tmp 27) (.tmp 28), none, true, false⟩, ⟨some (30, false), .load none (.tmp 29), none, true, false⟩, ⟨some (31, false), .cut 1 (.tmp 25) (some (.tmp 26)) (some (.tmp 30)), none, true, false⟩, .T 32 (.mkF 60 [.tmp 6, .tmp 5]), .T 33 (.call 44 [.tmp 24, .tmp 31, .tmp 32]), .T 34 (.not (.tmp 33)), .N 7 34]) (.ret)))
theorem is59 : IsF C 59 35 8454655 c59 [.tmp 7] := ⟨⟨Tryd.f59, _, C_P ▸ Tryd.func59, rfl, rfl, rfl, by kernel_rfl, rfl⟩⟩
def qdC9 (s0 : Int) (b6_0 : Int) (g1 : AHeap) (g2 : AHeap) (g3 : AHeap) (g4 : AHeap) (g5 : AHeap) (g6 : AHeap) : Int × (List Symbol) × (List Rule) × (List Int) × (List Int) × Int × Int → AHeap → St := fun (s8, b2_0_2_0, b2_0_2_1, b2_0_3_0, b1_0, b2_0_4_0, b2_0_4_1) gt => ⟨[(0, PI s0), (1, .ptr (g1.length + g2.length + g3.length + 2) 0 0 0), (2, .ptr (g1.length + g2.length + g3.length + g4.length + g5.length + 4) 0 0 0), (3, .ptr g1.length 0 0 0), (4, .ptr (g1.length + g2.length + 1) 0 0 0), (5, .ptr (g1.length + g2.length + g3.length + g4.length + 3) 0 0 0), (6, .ptr (g1.length + g2.length + g3.length + g4.length + g5.length + g6.length + 5) 0 0 0), (7, PB false), (8, PI s8)], (g1 ++ (.row false 0 2 [[.d (.rd (b2_0_2_0.map qb9)), .d (.rd (b2_0_2_1.map qd9))]] :: (g2 ++ (.row false 0 1 [[.d (.rd (b2_0_3_0.map intD))]] :: (g3 ++ (.row false 0 1 [[.d (.rd (b1_0.map intD))]] :: (g4 ++ (.row false 0 2 [[PI b2_0_4_0, PI b2_0_4_1]] :: (g5 ++ (.row false 0 1 [[.fn 59 [.ptr (g1.length + g2.length + g3.length + 2) 0 0 0, .ptr (g1.length + g2.length + g3.length + g4.length + g5.length + 4) 0 0 0, .ptr g1.length 0 0 0, .ptr (g1.length + g2.length + 1) 0 0 0, .ptr (g1.length + g2.length + g3.length + g4.length + 3) 0 0 0]]] :: (g6 ++ (.row false 0 1 [[PI b6_0]] :: gt))))))))))))⟩
def qlh9 (s0 : Int) (b6_0 : Int) (g1 : AHeap) (g2 : AHeap) (g3 : AHeap) (g4 : AHeap) (g5 : AHeap) (g6 : AHeap) : ((Bool × (List Symbol) × (List Rule) × (List Int) × (List Int) × Int × Int) ⊕ (Int × (List Symbol) × (List Rule) × (List Int) × (List Int) × Int × Int)) → AExit × St → Prop
  | .inl r, q => XL C [.tmp 7] (fun vs hp => ∃ hz : AHeap, vs = [PB r.1] ∧ hp = (g1 ++ (.row false 0 2 [[.d (.rd (r.2.1.map qb9)), .d (.rd (r.2.2.1.map qd9))]] :: (g2 ++ (.row false 0 1 [[.d (.rd (r.2.2.2.1.map intD))]] :: (g3 ++ (.row false 0 1 [[.d (.rd (r.2.2.2.2.1.map intD))]] :: (g4 ++ (.row false 0 2 [[PI r.2.2.2.2.2.1, PI r.2.2.2.2.2.2]] :: (g5 ++ (.row false 0 1 [[.fn 59 [.ptr (g1.length + g2.length + g3.length + 2) 0 0 0, .ptr (g1.length + g2.length + g3.length + g4.length + g5.length + 4) 0 0 0, .ptr g1.length 0 0 0, .ptr (g1.length + g2.length + 1) 0 0 0, .ptr (g1.length + g2.length + g3.length + g4.length + 3) 0 0 0]]] :: (g6 ++ hz)))))))))))) q
  | .inr (s8, b2_0_2_0, b2_0_2_1, b2_0_3_0, b1_0, b2_0_4_0, b2_0_4_1), q => ∃ g, q = (.exit 0, qdC9 s0 b6_0 g1 g2 g3 g4 g5 g6 (s8, b2_0_2_0, b2_0_2_1, b2_0_3_0, b1_0, b2_0_4_0, b2_0_4_1) g)
set_option maxHeartbeats 60000000 in
theorem qlp9 {rec : Int × (List Symbol) × (List Rule) × (List Int) × (List Int) × Int × Int → Option (Bool × (List Symbol) × (List Rule) × (List Int) × (List Int) × Int × Int)} (hrec : ∀ {s0 : Int} {b2_0_2_0 : List Symbol} {b2_0_2_1 : List Rule} {b2_0_3_0 : List Int} {b1_0 : List Int} {b2_0_4_0 : Int} {b2_0_4_1 : Int} {g1 : AHeap} {g2 : AHeap} {g3 : AHeap} {g4 : AHeap} {g5 : AHeap} {g6 : AHeap} {r : Bool × (List Symbol) × (List Rule) × (List Int) × (List Int) × Int × Int} (_ : rec (s0, b2_0_2_0, b2_0_2_1, b2_0_3_0, b1_0, b2_0_4_0, b2_0_4_1) = some r), ∃ hz : AHeap, callP C (Lim C) 59 [PI s0, .ptr (g1.length + g2.length + g3.length + 2) 0 0 0, .ptr (g1.length + g2.length + g3.length + g4.length + g5.length + 4) 0 0 0, .ptr g1.length 0 0 0, .ptr (g1.length + g2.length + 1) 0 0 0, .ptr (g1.length + g2.length + g3.length + g4.length + 3) 0 0 0] (g1 ++ (.row false 0 2 [[.d (.rd (b2_0_2_0.map qb9)), .d (.rd (b2_0_2_1.map qd9))]] :: (g2 ++ (.row false 0 1 [[.d (.rd (b2_0_3_0.map intD))]] :: (g3 ++ (.row false 0 1 [[.d (.rd (b1_0.map intD))]] :: (g4 ++ (.row false 0 2 [[PI b2_0_4_0, PI b2_0_4_1]] :: (g5 ++ (.row false 0 1 [[.fn 59 [.ptr (g1.length + g2.length + g3.length + 2) 0 0 0, .ptr (g1.length + g2.length + g3.length + g4.length + g5.length + 4) 0 0 0, .ptr g1.length 0 0 0, .ptr (g1.length + g2.length + 1) 0 0 0, .ptr (g1.length + g2.length + g3.length + g4.length + 3) 0 0 0]]] :: g6)))))))))) = some (resOf [PB r.1], (g1 ++ (.row false 0 2 [[.d (.rd (r.2.1.map qb9)), .d (.rd (r.2.2.1.map qd9))]] :: (g2 ++ (.row false 0 1 [[.d (.rd (r.2.2.2.1.map intD))]] :: (g3 ++ (.row false 0 1 [[.d (.rd (r.2.2.2.2.1.map intD))]] :: (g4 ++ (.row false 0 2 [[PI r.2.2.2.2.2.1, PI r.2.2.2.2.2.2]] :: (g5 ++ (.row false 0 1 [[.fn 59 [.ptr (g1.length + g2.length + g3.length + 2) 0 0 0, .ptr (g1.length + g2.length + g3.length + g4.length + g5.length + 4) 0 0 0, .ptr g1.length 0 0 0, .ptr (g1.length + g2.length + 1) 0 0 0, .ptr (g1.length + g2.length + g3.length + g4.length + 3) 0 0 0]]] :: (g6 ++ hz))))))))))))) {s0 : Int} {b6_0 : Int} {g1 : AHeap} {g2 : AHeap} {g3 : AHeap} {g4 : AHeap} {g5 : AHeap} {g6 : AHeap} : Sim C 8454655 qoF9 (qbD9 rec s0 b6_0) (qdC9 s0 b6_0 g1 g2 g3 g4 g5 g6) (qlh9 s0 b6_0 g1 g2 g3 g4 g5 g6) := by
  intro s g r hr
  obtain ⟨s8, b2_0_2_0, b2_0_2_1, b2_0_3_0, b1_0, b2_0_4_0, b2_0_4_1⟩ := s
  have ⟨gt, hg0⟩ : ∃ y, y = g := ⟨_, rfl⟩
  subst hg0
  simp only [qbD9] at hr
  obtain ⟨x1, h1, hr⟩ := bsome hr
  rcases iteP hr with ⟨h2, hr⟩ | ⟨h2, hr⟩
  obtain ⟨x2, h3, hr⟩ := bsome hr
  obtain ⟨z3, h3k⟩ := hrec (g1 := g1) (g2 := g2) (g3 := g3) (g4 := g4) (g5 := g5) (g6 := (g6 ++ (.row false 0 1 [[PI b6_0]] :: gt))) h3
  try simp only [go_sem] at h3k
  rcases iteB hr with ⟨h4, hr⟩ | ⟨h4, hr⟩
  obtain rfl := oiA hr
  refine xl_of ⟨(.row false 0 1 [[PI b6_0]] :: (gt ++ z3)), rfl, rfl⟩ ?_
  rotate_left
  obtain ⟨x4, h5, hr⟩ := bsome hr
  obtain rfl := oiA hr
  refine ⟨(gt ++ z3), ?_⟩
  rotate_left
  obtain rfl := oiA hr
  refine xe_of ⟨gt, rfl⟩ ?_
  rotate_left
  all_goals (simp +decide only [go_sem, qdC9, qoF9, *])
set_option maxHeartbeats 60000000 in
theorem qkX9 {rec : Int × (List Symbol) × (List Rule) × (List Int) × (List Int) × Int × Int → Option (Bool × (List Symbol) × (List Rule) × (List Int) × (List Int) × Int × Int)} (hrec : ∀ {s0 : Int} {b2_0_2_0 : List Symbol} {b2_0_2_1 : List Rule} {b2_0_3_0 : List Int} {b1_0 : List Int} {b2_0_4_0 : Int} {b2_0_4_1 : Int} {g1 : AHeap} {g2 : AHeap} {g3 : AHeap} {g4 : AHeap} {g5 : AHeap} {g6 : AHeap} {r : Bool × (List Symbol) × (List Rule) × (List Int) × (List Int) × Int × Int} (_ : rec (s0, b2_0_2_0, b2_0_2_1, b2_0_3_0, b1_0, b2_0_4_0, b2_0_4_1) = some r), ∃ hz : AHeap, callP C (Lim C) 59 [PI s0, .ptr (g1.length + g2.length + g3.length + 2) 0 0 0, .ptr (g1.length + g2.length + g3.length + g4.length + g5.length + 4) 0 0 0, .ptr g1.length 0 0 0, .ptr (g1.length + g2.length + 1) 0 0 0, .ptr (g1.length + g2.length + g3.length + g4.length + 3) 0 0 0] (g1 ++ (.row false 0 2 [[.d (.rd (b2_0_2_0.map qb9)), .d (.rd (b2_0_2_1.map qd9))]] :: (g2 ++ (.row false 0 1 [[.d (.rd (b2_0_3_0.map intD))]] :: (g3 ++ (.row false 0 1 [[.d (.rd (b1_0.map intD))]] :: (g4 ++ (.row false 0 2 [[PI b2_0_4_0, PI b2_0_4_1]] :: (g5 ++ (.row false 0 1 [[.fn 59 [.ptr (g1.length + g2.length + g3.length + 2) 0 0 0, .ptr (g1.length + g2.length + g3.length + g4.length + g5.length + 4) 0 0 0, .ptr g1.length 0 0 0, .ptr (g1.length + g2.length + 1) 0 0 0, .ptr (g1.length + g2.length + g3.length + g4.length + 3) 0 0 0]]] :: g6)))))))))) = some (resOf [PB r.1], (g1 ++ (.row false 0 2 [[.d (.rd (r.2.1.map qb9)), .d (.rd (r.2.2.1.map qd9))]] :: (g2 ++ (.row false 0 1 [[.d (.rd (r.2.2.2.1.map intD))]] :: (g3 ++ (.row false 0 1 [[.d (.rd (r.2.2.2.2.1.map intD))]] :: (g4 ++ (.row false 0 2 [[PI r.2.2.2.2.2.1, PI r.2.2.2.2.2.2]] :: (g5 ++ (.row false 0 1 [[.fn 59 [.ptr (g1.length + g2.length + g3.length + 2) 0 0 0, .ptr (g1.length + g2.length + g3.length + g4.length + g5.length + 4) 0 0 0, .ptr g1.length 0 0 0, .ptr (g1.length + g2.length + 1) 0 0 0, .ptr (g1.length + g2.length + g3.length + g4.length + 3) 0 0 0]]] :: (g6 ++ hz))))))))))))) {s0 : Int} {b2_0_2_0 : List Symbol} {b2_0_2_1 : List Rule} {b2_0_3_0 : List Int} {b1_0 : List Int} {b2_0_4_0 : Int} {b2_0_4_1 : Int} {g1 : AHeap} {g2 : AHeap} {g3 : AHeap} {g4 : AHeap} {g5 : AHeap} {g6 : AHeap} {r : Bool × (List Symbol) × (List Rule) × (List Int) × (List Int) × Int × Int} (hr : qbx9 rec s0 b2_0_2_0 b2_0_2_1 b2_0_3_0 b1_0 b2_0_4_0 b2_0_4_1 = some r) : ∃ hz : AHeap, Lim C 59 [PI s0, .ptr (g1.length + g2.length + g3.length + 2) 0 0 0, .ptr (g1.length + g2.length + g3.length + g4.length + g5.length + 4) 0 0 0, .ptr g1.length 0 0 0, .ptr (g1.length + g2.length + 1) 0 0 0, .ptr (g1.length + g2.length + g3.length + g4.length + 3) 0 0 0] (g1 ++ (.row false 0 2 [[.d (.rd (b2_0_2_0.map qb9)), .d (.rd (b2_0_2_1.map qd9))]] :: (g2 ++ (.row false 0 1 [[.d (.rd (b2_0_3_0.map intD))]] :: (g3 ++ (.row false 0 1 [[.d (.rd (b1_0.map intD))]] :: (g4 ++ (.row false 0 2 [[PI b2_0_4_0, PI b2_0_4_1]] :: (g5 ++ (.row false 0 1 [[.fn 59 [.ptr (g1.length + g2.length + g3.length + 2) 0 0 0, .ptr (g1.length + g2.length + g3.length + g4.length + g5.length + 4) 0 0 0, .ptr g1.length 0 0 0, .ptr (g1.length + g2.length + 1) 0 0 0, .ptr (g1.length + g2.length + g3.length + g4.length + 3) 0 0 0]]] :: g6)))))))))) = some (resOf [PB r.1], (g1 ++ (.row false 0 2 [[.d (.rd (r.2.1.map qb9)), .d (.rd (r.2.2.1.map qd9))]] :: (g2 ++ (.row false 0 1 [[.d (.rd (r.2.2.2.1.map intD))]] :: (g3 ++ (.row false 0 1 [[.d (.rd (r.2.2.2.2.1.map intD))]] :: (g4 ++ (.row false 0 2 [[PI r.2.2.2.2.2.1, PI r.2.2.2.2.2.2]] :: (g5 ++ (.row false 0 1 [[.fn 59 [.ptr (g1.length + g2.length + g3.length + 2) 0 0 0, .ptr (g1.length + g2.length + g3.length + g4.length + g5.length + 4) 0 0 0, .ptr g1.length 0 0 0, .ptr (g1.length + g2.length + 1) 0 0 0, .ptr (g1.length + g2.length + g3.length + g4.length + 3) 0 0 0]]] :: (g6 ++ hz)))))))))))) := by
  simp only [qbx9] at hr
  obtain ⟨x5, h1, hr⟩ := bsome hr
  obtain ⟨q1, h1L, h1X⟩ := (qlp9 hrec (g1 := g1) (g2 := g2) (g3 := g3) (g4 := g4) (g5 := g5) (g6 := g6)).L (g := []) h1
  rcases x5 with x6 | ⟨x7, x8, x9, x10, x11, x12, x13⟩
  try dsimp only at hr
  obtain ⟨st1, _, _, rfl, h1R, y5, rfl, rfl⟩ := h1X
  simp only [qdC9, go_sem] at h1L
  obtain rfl := oiA hr
  refine ⟨y5, run_L is59 (nbA rfl) ?_⟩
  rotate_left
  try dsimp only at hr
  obtain ⟨z14, rfl⟩ := h1X
  simp only [qdC9, go_sem] at h1L
  obtain ⟨x15, h2, x16, h3, x17, h4, hr⟩ := bs3 hr
  obtain ⟨z18, h4k⟩ := qfT9 (g1 := (g1 ++ (.row false 0 2 [[.d (.rd (x8.map qb9)), .d (.rd (x9.map qd9))]] :: (g2 ++ (.row false 0 1 [[.d (.rd (x10.map intD))]] :: (g3 ++ (.row false 0 1 [[.d (.rd (x11.map intD))]] :: g4))))))) (g2 := (g5 ++ (.row false 0 1 [[.fn 59 [.ptr (g1.length + g2.length + g3.length + 2) 0 0 0, .ptr (g1.length + g2.length + g3.length + g4.length + g5.length + 4) 0 0 0, .ptr g1.length 0 0 0, .ptr (g1.length + g2.length + 1) 0 0 0, .ptr (g1.length + g2.length + g3.length + g4.length + 3) 0 0 0]]] :: g6))) (g3 := z14) h4
  replace h4k := qh9 rfl rfl rfl h4k
  try simp only [go_sem] at h4k
  obtain rfl := oiA hr
  refine ⟨(.row false 0 1 [[PI s0]] :: (z14 ++ z18)), run_L is59 (nbA rfl) ?_⟩
  rotate_left
  all_goals (simp +decide only [go_sem, c59, *])
theorem qlG9 {s0 : Int} {b2_0_2_0 : List Symbol} {b2_0_2_1 : List Rule} {b2_0_3_0 : List Int} {b1_0 : List Int} {b2_0_4_0 : Int} {b2_0_4_1 : Int} {g1 : AHeap} {g2 : AHeap} {g3 : AHeap} {g4 : AHeap} {g5 : AHeap} {g6 : AHeap} {r : Bool × (List Symbol) × (List Rule) × (List Int) × (List Int) × Int × Int} (hr : qhA9 s0 b2_0_2_0 b2_0_2_1 b2_0_3_0 b1_0 b2_0_4_0 b2_0_4_1 = some r) : ∃ hz : AHeap, Lim C 59 [PI s0, .ptr (g1.length + g2.length + g3.length + 2) 0 0 0, .ptr (g1.length + g2.length + g3.length + g4.length + g5.length + 4) 0 0 0, .ptr g1.length 0 0 0, .ptr (g1.length + g2.length + 1) 0 0 0, .ptr (g1.length + g2.length + g3.length + g4.length + 3) 0 0 0] (g1 ++ (.row false 0 2 [[.d (.rd (b2_0_2_0.map qb9)), .d (.rd (b2_0_2_1.map qd9))]] :: (g2 ++ (.row false 0 1 [[.d (.rd (b2_0_3_0.map intD))]] :: (g3 ++ (.row false 0 1 [[.d (.rd (b1_0.map intD))]] :: (g4 ++ (.row false 0 2 [[PI b2_0_4_0, PI b2_0_4_1]] :: (g5 ++ (.row false 0 1 [[.fn 59 [.ptr (g1.length + g2.length + g3.length + 2) 0 0 0, .ptr (g1.length + g2.length + g3.length + g4.length + g5.length + 4) 0 0 0, .ptr g1.length 0 0 0, .ptr (g1.length + g2.length + 1) 0 0 0, .ptr (g1.length + g2.length + g3.length + g4.length + 3) 0 0 0]]] :: g6)))))))))) = some (resOf [PB r.1], (g1 ++ (.row false 0 2 [[.d (.rd (r.2.1.map qb9)), .d (.rd (r.2.2.1.map qd9))]] :: (g2 ++ (.row false 0 1 [[.d (.rd (r.2.2.2.1.map intD))]] :: (g3 ++ (.row false 0 1 [[.d (.rd (r.2.2.2.2.1.map intD))]] :: (g4 ++ (.row false 0 2 [[PI r.2.2.2.2.2.1, PI r.2.2.2.2.2.2]] :: (g5 ++ (.row false 0 1 [[.fn 59 [.ptr (g1.length + g2.length + g3.length + 2) 0 0 0, .ptr (g1.length + g2.length + g3.length + g4.length + g5.length + 4) 0 0 0, .ptr g1.length 0 0 0, .ptr (g1.length + g2.length + 1) 0 0 0, .ptr (g1.length + g2.length + g3.length + g4.length + 3) 0 0 0]]] :: (g6 ++ hz)))))))))))) := by
  obtain ⟨n, hn⟩ := qjM9 hr
  clear hr
  induction n generalizing s0 b2_0_2_0 b2_0_2_1 b2_0_3_0 b1_0 b2_0_4_0 b2_0_4_1 g1 g2 g3 g4 g5 g6 r with
  | zero => cases hn
  | succ n ih =>
    refine qkX9 (rec := fixN _ n) (fun {s0} {b2_0_2_0} {b2_0_2_1} {b2_0_3_0} {b1_0} {b2_0_4_0} {b2_0_4_1} {g1} {g2} {g3} {g4} {g5} {g6} {r} hr => ?_) (g1 := g1) (g2 := g2) (g3 := g3) (g4 := g4) (g5 := g5) (g6 := g6) hn
    obtain ⟨hz, h1⟩ := ih (g1 := g1) (g2 := g2) (g3 := g3) (g4 := g4) (g5 := g5) (g6 := g6) hr
    exact ⟨hz, qh9 rfl rfl rfl h1⟩
def c27 : ACode := .seq (.reg [] [] [.K 2 (.box (.tmp 0)), .K 3 (.box (.tmp 1)), .K 4 (.alloc [.d (.v (.int .i64 0)), .d (.v (.int .i64 0))] 2), .K 5 (.mv (.const (.bool false)))]) (.seq (.seq (.reg [] [] [.T 10 (.load (some 2) (.tmp 2)), .T 11 (.load none (.tmp 3)), .T 12 (.call 42 [.tmp 10, .tmp 11]), .K 13 (.bin .neq (.tmp 12) (cI 0))]) (.cond (.tmp 13) (some 13) (.seq (.reg [] [] [.T 14 (.build [(0, 1), (1, 1)] [.d (.v (.int .i64 0)), .d (.v (.int .i64 0))] []), ⟨none, .store 2 (.tmp 4) (.tmp 14), none, false, false⟩, .K 5 (.mv (.const (.bool false)))]) (.ret)) (.skip))) (.seq (.reg [] [] [.T 15 (.fa 0 (.tmp 2)), .T 16 (.load none (.tmp 15)), .T 17 (.load none (.tmp 3)), .T 18 (.call 43 [.tmp 16, .tmp 17]), .K 6 (.alloc [.im true []] 1), ⟨none, .store 1 (.tmp 6) (.tmp 18), none, false, false⟩]) (.seq (.reg [] [] [.K 7 (.alloc [.d (.v (.int .i64 0)), .d (.v (.int .i64 0))] 2)]) (.seq (.reg [] [] [.K 8 (.alloc [.d (.v .nilFunc)] 1)]) (.seq (.reg [] [] [.T 19 (.mkF 59 [.tmp 6, .tmp 8, .tmp 2, .tmp 3, .tmp 7]), ⟨none, .store 1 (.tmp 8) (.tmp 19), none, false, false⟩]) (.seq (.reg [] [] [.T 20 (.load none (.tmp 8)), .T 21 (.callV (.tmp 20) [.const (.int .i64 0)]), .N 9 21]) (.seq (.reg [] [] [.T 22 (.load (some 2) (.tmp 7)), .M 23 9, ⟨none, .store 2 (.tmp 4) (.tmp 22), none, false, false⟩, .N 5 23]) (.ret))))))))
theorem is27 : IsF C 27 24 9215 c27 [.cell 4 33, .tmp 5] := ⟨⟨Tryd.f27, _, C_P ▸ Tryd.func27, rfl, rfl, rfl, by kernel_rfl, rfl⟩⟩
set_option maxHeartbeats 60000000 in
theorem qeJ9 {a0 : System} {a1 : List Int} {r : Redex × Bool} (hr : qbE9 a0 a1 = some r) : Res C 27 [.ag (qg9 a0), .rd (a1.map intD)] (.tp [.d (.ag (qm9 r.1)), PB r.2]) := by
  simp only [qbE9] at hr
  obtain ⟨x1, h1, hr⟩ := bsome hr
  have h1k := fun h => (qjV9 h1).o rfl rfl rfl (h := h) (args := [.ag [.d (.rd (a0.Sig.map qb9)), .d (.rd (a0.Rules.map qd9))], .d (.rd (a1.map intD))]) rfl
  try simp only [go_sem] at h1k
  rcases iteP hr with ⟨h2, hr⟩ | ⟨h2, hr⟩
  obtain ⟨x2, h3, x3, h4, hr⟩ := bs2 hr
  have h3k := (qkN9 h3).k rfl rfl rfl
  try simp only [go_sem] at h3k
  obtain ⟨z4, h4k⟩ := qlG9 (g1 := []) (g2 := []) (g3 := (.row false 0 2 [[PI 0, PI 0]] :: [])) (g4 := []) (g5 := []) (g6 := []) h4
  replace h4k := qh9 rfl rfl rfl h4k
  try simp only [go_sem] at h4k
  obtain rfl := oiA hr
  refine run_V is27 (nbA rfl) ?_
  rotate_left
  obtain rfl := oiA hr
  refine run_V is27 (nbA rfl) ?_
  rotate_left
  all_goals (simp +decide only [go_sem, c27, *])
def qph9 : ACode := .seq (.reg [] [] [.K 10 (.bin .lss (.tmp 9) (.tmp 8))]) (.seq (.cond (.tmp 10) (some 10) (.skip) (.exit 0)) (.seq (.block 1 132160 (.seq (.reg [] [] [.T 11 (.ix 2 (.tmp 7) (.tmp 9)), .T 12 (.load (some 2) (.tmp 11)), .K 6 (.alloc [.d (.v (.int .i64 0)), .im true []] 2), ⟨none, .store 2 (.tmp 6) (.tmp 12), none, false, false⟩]) (.seq (.reg [] [] [.T 13 (.fa 0 (.tmp 6)), .T 14 (.load none (.tmp 13)), .M 15 1, .T 16 (.bin .sub (cI (-1)) (.tmp 15)), .K 17 (.bin .eql (.tmp 14) (.tmp 16))]) (.cond (.tmp 17) (some 17) (.seq (.reg [] [] [.T 18 (.fa 1 (.tmp 6)), .T 19 (.load none (.tmp 18)), .N 4 19]) (.ret)) (.skip))))) (.reg [] [] [.T 20 (.bin .add (.tmp 9) (cI 1)), .N 9 20])))
def c50 : ACode := .seq (.reg [] [(4, 0)] [.K 4 (.mv (.const (.slice none 0 0)))]) (.seq (.seq (.reg [] [] [.N 7 0, .K 8 (.len (.tmp 7)), .K 9 (.mv (cI 0))]) (.block 0 132160 (.loop qph9))) (.seq (.reg [] [(4, 0)] [.M 21 1, .T 22 (.lit 1 [(0, .tmp 21)]), .N 4 22]) (.ret)))
theorem is50 : IsF C 50 23 133075 c50 [.tmp 4] := ⟨⟨Tryd.f50, _, C_P ▸ Tryd.func50, rfl, rfl, rfl, by kernel_rfl, rfl⟩⟩
def qex9 (s0 : List Bind) (s1 : Int) (s4 : List Int) (s7 : List Bind) (s8 : Int) : Int → AHeap → St := fun s9 gt => ⟨[(0, .d (.rd (s0.map qc9))), (1, PI s1), (4, .d (.rd (s4.map intD))), (7, .d (.rd (s7.map qc9))), (8, PI s8), (9, PI s9)], gt⟩
def qnM9 (s0 : List Bind) (s1 : Int) (s4 : List Int) (s7 : List Bind) (s8 : Int) : (((List Int)) ⊕ Int) → AExit × St → Prop
  | .inl r, q => XV C [.tmp 4] (.d (.rd (r.map intD))) q
  | .inr s9, q => ∃ g, q = (.exit 0, qex9 s0 s1 s4 s7 s8 s9 g)
set_option maxHeartbeats 60000000 in
theorem qnR9 {s0 : List Bind} {s1 : Int} {s4 : List Int} {s7 : List Bind} {s8 : Int} : Sim C 133075 qph9 (qdL9 s0 s1 s4 s7 s8) (qex9 s0 s1 s4 s7 s8) (qnM9 s0 s1 s4 s7 s8) := by
  intro s g r hr
  have ⟨s9, hs0⟩ : ∃ y, y = s := ⟨_, rfl⟩
  subst hs0
  have ⟨gt, hg0⟩ : ∃ y, y = g := ⟨_, rfl⟩
  subst hg0
  simp only [qdL9] at hr
  rcases iteP hr with ⟨h1, hr⟩ | ⟨h1, hr⟩
  obtain ⟨x1, h2, hr⟩ := bsome hr
  rcases iteP hr with ⟨h3, hr⟩ | ⟨h3, hr⟩
  obtain rfl := oiA hr
  refine xv_of ?_
  rotate_left
  obtain rfl := oiA hr
  refine ⟨(gt ++ (.row false 0 2 [[PI x1.Var, .d (.rd (x1.T.map intD))]] :: [])), ?_⟩
  rotate_left
  obtain rfl := oiA hr
  refine xe_of ⟨gt, rfl⟩ ?_
  rotate_left
  all_goals (simp +decide only [go_sem, qex9, qph9, *])
set_option maxHeartbeats 60000000 in
theorem qoY9 {a0 : List Bind} {a1 : Int} {r : (List Int)} (hr : qgt9 a0 a1 = some r) : Res C 50 [.rd (a0.map qc9), .v (.int .i64 a1)] (.d (.rd (r.map intD))) := by
  simp only [qgt9] at hr
  obtain ⟨x2, h1, hr⟩ := bsome hr
  obtain ⟨q1, h1L, h1X⟩ := qnR9.L (g := []) h1
  rcases x2 with x3 | x4
  try dsimp only at hr
  obtain ⟨st1, rfl, h1R⟩ := h1X
  simp only [qex9, go_sem] at h1L
  obtain rfl := oiA hr
  refine run_V is50 (nbA rfl) ?_
  rotate_left
  try dsimp only at hr
  obtain ⟨z5, rfl⟩ := h1X
  simp only [qex9, go_sem] at h1L
  obtain rfl := oiA hr
  refine run_V is50 (nbA rfl) ?_
  rotate_left
  all_goals (simp +decide only [go_sem, c50, *])
def qoj9 : ACode := .seq (.reg [] [] [.K 90 (.bin .lss (.tmp 89) (.tmp 88))]) (.seq (.cond (.tmp 90) (some 90) (.skip) (.exit 1)) (.seq (.block 2 162339742931766913109446453559296 (.seq (.reg [] [] [.T 91 (.ix 1 (.tmp 87) (.tmp 89)), .T 92 (.load none (.tmp 91)), .N 16 92]) (.seq (.reg [] [(17, 0)] [.M 93 16, .T 94 (.lit 1 [(0, .tmp 93)]), .N 17 94]) (.seq (.seq (.reg [] [] [.M 95 16, .K 96 (.bin .lss (.tmp 95) (cI 0))]) (.cond (.tmp 96) (some 96) (.reg [] [] [.M 97 11, .M 98 16, .T 99 (.call 50 [.tmp 97, .tmp 98]), .N 17 99]) (.skip))) (.seq (.seq (.reg [] [] [.M 100 13, .T 101 (.len (.tmp 100)), .M 102 17, .T 103 (.len (.tmp 102)), .T 104 (.bin .add (.tmp 101) (.tmp 103)), .M 105 14, .T 106 (.bin .add (.tmp 104) (.tmp 105)), .K 107 (.bin .gtr (.tmp 106) (cI 512))]) (.cond (.tmp 107) (some 107) (.seq (.reg [] [(6, 0)] [.K 6 (.mv (.const (.slice none 0 0))), .K 7 (.mv (cI 2))]) (.ret)) (.skip))) (.reg [] [] [.M 108 13, .M 109 17, .T 110 (.app 1 8 (.tmp 108) (.tmp 109)), .N 13 110])))))) (.reg [] [] [.T 111 (.bin .add (.tmp 89) (cI 1)), .N 89 111])))
def c18 : ACode := .seq (.reg [] [(6, 0)] [.K 3 (.box (.tmp 0)), .K 5 (.box (.tmp 2)), .K 6 (.mv (.const (.slice none 0 0))), .K 7 (.mv (cI 0))]) (.seq (.seq (.reg [] [] [.T 18 (.load (some 2) (.tmp 3)), .M 19 1, .T 20 (.call 42 [.tmp 18, .tmp 19]), .N 8 20]) (.seq (.reg [] [] [.M 21 8, .K 22 (.bin .neq (.tmp 21) (cI 0))]) (.cond (.tmp 22) (some 22) (.seq (.reg [] [(6, 0)] [.M 23 8, .K 6 (.mv (.const (.slice none 0 0))), .N 7 23]) (.ret)) (.skip)))) (.seq (.block 0 34376515584 (.seq (.reg [] [] [.T 25 (.fa 0 (.tmp 5)), .T 26 (.load none (.tmp 25)), .T 27 (.bin .lss (.tmp 26) (cI 0)), .M 28 27, .TG 29 28 false (.fa 0 (.tmp 5)), .TG 30 28 false (.load none (.tmp 29)), .MG 31 28 false 1, .TG 32 28 false (.len (.tmp 31)), .TG 33 28 false (.bin .geq (.tmp 30) (.tmp 32)), .T 34 (.pick (.tmp 28) (.const (.bool true)) (.tmp 33)), .N 24 34]) (.cond (.tmp 24) (some 24) (.seq (.reg [] [(6, 0)] [.K 6 (.mv (.const (.slice none 0 0))), .K 7 (.mv (cI 33))]) (.ret)) (.seq (.reg [] [] [.T 36 (.fa 1 (.tmp 5)), .T 37 (.load none (.tmp 36)), .T 38 (.bin .lss (.tmp 37) (cI 0)), .M 39 38, .TG 40 39 false (.fa 1 (.tmp 5)), .TG 41 39 false (.load none (.tmp 40)), .TG 42 39 false (.fa 1 (.tmp 3)), .TG 43 39 false (.load none (.tmp 42)), .TG 44 39 false (.len (.tmp 43)), .TG 45 39 false (.bin .geq (.tmp 41) (.tmp 44)), .T 46 (.pick (.tmp 39) (.const (.bool true)) (.tmp 45)), .N 35 46]) (.cond (.tmp 35) (some 35) (.seq (.reg [] [(6, 0)] [.K 6 (.mv (.const (.slice none 0 0))), .K 7 (.mv (cI 1))]) (.ret)) (.skip)))))) (.seq (.reg [] [] [.T 47 (.fa 0 (.tmp 3)), ⟨some (48, false), .load none (.tmp 47), none, true, false⟩, .M 49 1, ⟨some (50, false), .call 43 [.tmp 48, .tmp 49], none, true, false⟩, .T 51 (.fa 0 (.tmp 5)), ⟨some (52, false), .load none (.tmp 51), none, true, false⟩, ⟨some (53, false), .ix 1 (.tmp 50) (.tmp 52), none, true, false⟩, ⟨some (54, false), .load none (.tmp 53), none, true, false⟩, .N 9 54]) (.seq (.reg [] [] [.T 55 (.fa 1 (.tmp 3)), .T 56 (.load none (.tmp 55)), .T 57 (.fa 1 (.tmp 5)), .T 58 (.load none (.tmp 57)), .T 59 (.ix 2 (.tmp 56) (.tmp 58)), .T 60 (.load (some 2) (.tmp 59)), .K 10 (.alloc [.im true [], .im true []] 2), ⟨none, .store 2 (.tmp 10) (.tmp 60), none, false, false⟩]) (.seq (.reg [] [] [.T 62 (.fa 0 (.tmp 3)), ⟨some (63, false), .load none (.tmp 62), none, true, false⟩, .T 64 (.fa 0 (.tmp 10)), ⟨some (65, false), .load none (.tmp 64), none, true, false⟩, .M 66 1, .T 67 (.fa 0 (.tmp 5)), ⟨some (68, false), .load none (.tmp 67), none, true, false⟩, .M 69 9, ⟨some (70, false), .cut 1 (.tmp 66) (some (.tmp 68)) (some (.tmp 69)), none, true, false⟩, ⟨some (71, false), .call 49 [.tmp 63, .tmp 65, .tmp 70], none, true, false⟩, .M 61 71, .T 72 (.ext (.tmp 61) 0), .T 73 (.ext (.tmp 61) 1), .N 11 72, .N 12 73]) (.seq (.seq (.reg [] [] [.M 74 12, .K 75 (.not (.tmp 74))]) (.cond (.tmp 75) (some 75) (.seq (.reg [] [(6, 0)] [.K 6 (.mv (.const (.slice none 0 0))), .K 7 (.mv (cI 80))]) (.ret)) (.skip))) (.seq (.reg [] [] [.T 76 (.lit 1 []), .M 77 1, .T 78 (.fa 0 (.tmp 5)), .T 79 (.load none (.tmp 78)), .T 80 (.cut 1 (.tmp 77) none (some (.tmp 79))), .T 81 (.app 1 8 (.tmp 76) (.tmp 80)), .N 13 81]) (.seq (.reg [] [] [.M 82 1, .T 83 (.len (.tmp 82)), .M 84 9, .T 85 (.bin .sub (.tmp 83) (.tmp 84)), .N 14 85]) (.seq (.seq (.reg [] [] [.T 86 (.fa 1 (.tmp 10)), .K 87 (.load none (.tmp 86)), .K 88 (.len (.tmp 87)), .K 89 (.mv (cI 0))]) (.block 1 162339742931766913109446453559296 (.loop qoj9))) (.seq (.reg [] [(6, 0)] [.M 112 13, .M 113 1, .M 114 9, .T 115 (.cut 1 (.tmp 113) (some (.tmp 114)) none), .T 116 (.app 1 8 (.tmp 112) (.tmp 115)), .N 6 116, .K 7 (.mv (cI 0))]) (.ret)))))))))))
theorem is18 : IsF C 18 117 162340826167080219680178532745199 c18 [.tmp 6, .tmp 7] := ⟨⟨Tryd.f18, _, C_P ▸ Tryd.func18, rfl, rfl, rfl, by kernel_rfl, rfl⟩⟩
def qgz9 (s0 : System) (s1 : List Int) (s2 : Redex) (s6 : List Int) (s8 : Int) (s9 : Int) (s11 : List Bind) (s12 : Bool) (s14 : Int) (s87 : List Int) (s88 : Int) (b3_0 : List Symbol) (b3_1 : List Rule) (b5_0 : Int) (b5_1 : Int) (b10_0 : List Int) (b10_1 : List Int) : Int × (List Int) → Nat → St := fun (s89, o13) v13 => ⟨[(0, .d (.ag (qg9 s0))), (1, .d (.rd (s1.map intD))), (2, .d (.ag (qm9 s2))), (3, .ptr 0 0 0 0), (5, .ptr 1 0 0 0), (6, .d (.rd (s6.map intD))), (7, PI 0), (8, PI s8), (9, PI s9), (10, .ptr 2 0 0 0), (11, .d (.rd (s11.map qc9))), (12, PB s12), (13, .ref 3 v13 0 o13.length), (14, PI s14), (87, .d (.rd (s87.map intD))), (88, PI s88), (89, PI s89)], (.row false 0 2 [[.d (.rd (b3_0.map qb9)), .d (.rd (b3_1.map qd9))]] :: (.row false 0 2 [[PI b5_0, PI b5_1]] :: (.row false 0 2 [[.d (.rd (b10_0.map intD)), .d (.rd (b10_1.map intD))]] :: (.row false v13 1 (rowP intD o13) :: []))))⟩
def qsI9 (s0 : System) (s1 : List Int) (s2 : Redex) (s6 : List Int) (s8 : Int) (s9 : Int) (s11 : List Bind) (s12 : Bool) (s14 : Int) (s87 : List Int) (s88 : Int) (b3_0 : List Symbol) (b3_1 : List Rule) (b5_0 : Int) (b5_1 : Int) (b10_0 : List Int) (b10_1 : List Int) : (((List Int) × Int) ⊕ (Int × (List Int))) → AExit × St → Prop
  | .inl r, q => XV C [.tmp 6, .tmp 7] (.tp [.d (.rd (r.1.map intD)), PI r.2]) q
  | .inr (s89, o13), q => ∃ g, q = (.exit 1, qgz9 s0 s1 s2 s6 s8 s9 s11 s12 s14 s87 s88 b3_0 b3_1 b5_0 b5_1 b10_0 b10_1 (s89, o13) g)
set_option maxHeartbeats 60000000 in
theorem qtC9 {s0 : System} {s1 : List Int} {s2 : Redex} {s6 : List Int} {s8 : Int} {s9 : Int} {s11 : List Bind} {s12 : Bool} {s14 : Int} {s87 : List Int} {s88 : Int} {b3_0 : List Symbol} {b3_1 : List Rule} {b5_0 : Int} {b5_1 : Int} {b10_0 : List Int} {b10_1 : List Int} : Sim C 162340826167080219680178532745199 qoj9 (qes9 s0 s1 s2 s6 s8 s9 s11 s12 s14 s87 s88 b3_0 b3_1 b5_0 b5_1 b10_0 b10_1) (qgz9 s0 s1 s2 s6 s8 s9 s11 s12 s14 s87 s88 b3_0 b3_1 b5_0 b5_1 b10_0 b10_1) (qsI9 s0 s1 s2 s6 s8 s9 s11 s12 s14 s87 s88 b3_0 b3_1 b5_0 b5_1 b10_0 b10_1) := by
  intro s g r hr
  obtain ⟨s89, o13⟩ := s
  have ⟨v13, hg0⟩ : ∃ y, y = g := ⟨_, rfl⟩
  subst hg0
  simp only [qes9] at hr
  rcases iteP hr with ⟨h1, hr⟩ | ⟨h1, hr⟩
  obtain ⟨x8, h2, hr⟩ := bsome hr
  rcases iteP hr with ⟨h3, hr⟩ | ⟨h3, hr⟩
  obtain ⟨x9, h4, hr⟩ := bsome hr
  have h4k := (qoY9 h4).k rfl rfl rfl
  try simp only [go_sem] at h4k
  rcases iteP hr with ⟨h5, hr⟩ | ⟨h5, hr⟩
  obtain rfl := oiA hr
  refine xv_of ?_
  rotate_left
  obtain ⟨h6, hr⟩ := gsome hr
  obtain rfl := oiA hr
  refine ⟨(v13 + 1), ?_⟩
  rotate_left
  rcases iteP hr with ⟨h7, hr⟩ | ⟨h7, hr⟩
  obtain rfl := oiA hr
  refine xv_of ?_
  rotate_left
  obtain ⟨h8, hr⟩ := gsome hr
  obtain rfl := oiA hr
  refine ⟨(v13 + 1), ?_⟩
  rotate_left
  obtain rfl := oiA hr
  refine xe_of ⟨v13, rfl⟩ ?_
  rotate_left
  all_goals (simp +decide only [go_sem, qgz9, qoj9, *])
set_option maxHeartbeats 60000000 in
theorem qnz9 {a0 : System} {a1 : List Int} {a2 : Redex} {r : (List Int) × Int} (hr : qgc9 a0 a1 a2 = some r) : Res C 18 [.ag (qg9 a0), .rd (a1.map intD), .ag (qm9 a2)] (.tp [.d (.rd (r.1.map intD)), PI r.2]) := by
  simp only [qgc9] at hr
  obtain ⟨x1, h1, hr⟩ := bsome hr
  have h1k := fun h => (qjV9 h1).o rfl rfl rfl (h := h) (args := [.ag [.d (.rd (a0.Sig.map qb9)), .d (.rd (a0.Rules.map qd9))], .d (.rd (a1.map intD))]) rfl
  try simp only [go_sem] at h1k
  rcases iteP hr with ⟨h2, hr⟩ | ⟨h2, hr⟩
  rcases iteP hr with ⟨h3, hr⟩ | ⟨h3, hr⟩
  obtain rfl := oiA hr
  refine run_V is18 (nbA rfl) ?_
  rotate_left
  rcases iteP hr with ⟨h4, hr⟩ | ⟨h4, hr⟩
  obtain rfl := oiA hr
  refine run_V is18 (nbA rfl) ?_
  rotate_left
  rcases iteP hr with ⟨h5, hr⟩ | ⟨h5, hr⟩
  obtain rfl := oiA hr
  refine run_V is18 (nbA rfl) ?_
  rotate_left
  rcases iteP hr with ⟨h6, hr⟩ | ⟨h6, hr⟩
  obtain rfl := oiA hr
  refine run_V is18 (nbA rfl) ?_
  rotate_left
  obtain ⟨x2, h7, x3, h8, x4, h9, x5, h10, hr⟩ := bs4 hr
  have h7k := (qkN9 h7).k rfl rfl rfl
  try simp only [go_sem] at h7k
  obtain ⟨x6, h11, hr⟩ := bsome hr
  have h11k := (qjI9 h11).k rfl rfl rfl
  try simp only [go_sem] at h11k
  rcases iteB hr with ⟨h12, hr⟩ | ⟨h12, hr⟩
  simp only [h12] at hr
  obtain ⟨x7, h13, hr⟩ := bsome hr
  obtain ⟨h14, hr⟩ := gsome hr
  obtain ⟨x10, h15, hr⟩ := bsome hr
  obtain ⟨q15, h15L, h15X⟩ := qtC9.L (g := 0) h15
  rcases x10 with x11 | ⟨x12, x13⟩
  try dsimp only at hr
  obtain ⟨st15, rfl, h15R⟩ := h15X
  simp only [qgz9, go_sem] at h15L
  obtain rfl := oiA hr
  refine run_V is18 (nbA rfl) ?_
  rotate_left
  try dsimp only at hr
  obtain ⟨z14, rfl⟩ := h15X
  simp only [qgz9, go_sem] at h15L
  obtain ⟨x15, h16, hr⟩ := bsome hr
  obtain ⟨h17, hr⟩ := gsome hr
  obtain rfl := oiA hr
  refine run_V is18 (nbA rfl) ?_
  rotate_left
  obtain rfl := oiA hr
  refine run_V is18 (nbA rfl) ?_
  rotate_left
  obtain rfl := oiA hr
  refine run_V is18 (nbA rfl) ?_
  rotate_left
  all_goals (simp +decide only [go_sem, c18, *])
def qpv9 : ACode := .gbody 0 36895739964412673024 (.seq (.seq (.reg [] [] [.T 31 (.fa 1 (.tmp 9)), .T 32 (.load none (.tmp 31)), .T 33 (.len (.tmp 32)), .K 34 (.bin .gtr (.tmp 33) (cI 512))]) (.cond (.tmp 34) (some 34) (.seq (.reg [] [(6, 4095)] [.T 35 (.build [(0, 1), (1, 1), (2, 1)] [.im true [], .im true [], .d (.v (.bool false))] []), ⟨none, .store 3 (.tmp 6) (.tmp 35), none, false, false⟩, .K 7 (.mv (cI 2))]) (.ret)) (.skip))) (.seq (.reg [] [] [.T 37 (.load (some 2) (.tmp 3)), .T 38 (.fa 1 (.tmp 9)), .T 39 (.load none (.tmp 38)), .T 40 (.call 27 [.tmp 37, .tmp 39]), .M 36 40, .T 41 (.ext (.tmp 36) 0), .T 42 (.ext (.tmp 36) 1), .K 10 (.alloc [.d (.v (.int .i64 0)), .d (.v (.int .i64 0))] 2), ⟨none, .store 2 (.tmp 10) (.tmp 41), none, false, false⟩, .N 11 42]) (.seq (.seq (.reg [] [] [.M 43 11, .T 44 (.not (.tmp 43)), .M 45 44, .TG 46 45 false (.fa 0 (.tmp 9)), .TG 47 45 false (.load none (.tmp 46)), .TG 48 45 false (.len (.tmp 47)), .MG 49 45 false 2, .TG 50 45 false (.bin .eql (.tmp 48) (.tmp 49)), .K 51 (.pick (.tmp 45) (.const (.bool true)) (.tmp 50))]) (.cond (.tmp 51) (some 51) (.seq (.reg [] [] [.M 52 11, .T 53 (.not (.tmp 52)), .T 54 (.fa 2 (.tmp 9)), ⟨none, .store 1 (.tmp 54) (.tmp 53), none, false, false⟩]) (.seq (.reg [] [] [.T 55 (.load (some 3) (.tmp 9)), ⟨none, .store 3 (.tmp 6) (.tmp 55), none, false, false⟩, .K 7 (.mv (cI 0))]) (.ret))) (.skip))) (.seq (.reg [] [] [.T 57 (.load (some 2) (.tmp 3)), .T 58 (.fa 1 (.tmp 9)), .T 59 (.load none (.tmp 58)), .T 60 (.load (some 2) (.tmp 10)), .T 61 (.call 18 [.tmp 57, .tmp 59, .tmp 60]), .M 56 61, .T 62 (.ext (.tmp 56) 0), .T 63 (.ext (.tmp 56) 1), .N 12 62, .N 13 63]) (.seq (.seq (.reg [] [] [.M 64 13, .K 65 (.bin .neq (.tmp 64) (cI 0))]) (.cond (.tmp 65) (some 65) (.seq (.reg [] [(6, 4095)] [.T 66 (.build [(0, 1), (1, 1), (2, 1)] [.im true [], .im true [], .d (.v (.bool false))] []), .M 67 13, ⟨none, .store 3 (.tmp 6) (.tmp 66), none, false, false⟩, .N 7 67]) (.ret)) (.skip))) (.seq (.reg [] [] [.T 68 (.fa 0 (.tmp 9)), .T 69 (.load none (.tmp 68)), .T 70 (.load (some 2) (.tmp 10)), .T 71 (.lit 2 [(0, .tmp 70)]), .T 72 (.app 2 16 (.tmp 69) (.tmp 71)), .M 73 12, .T 74 (.fa 0 (.tmp 9)), ⟨none, .store 1 (.tmp 74) (.tmp 72), none, false, false⟩, .T 75 (.fa 1 (.tmp 9)), ⟨none, .store 1 (.tmp 75) (.tmp 73), none, false, false⟩]) (.goto 0)))))))
def c24 : ACode := .sseq (.reg [] [(6, 4095)] [.K 3 (.box (.tmp 0)), .K 6 (.alloc [.im true [], .im true [], .d (.v (.bool false))] 3), .K 7 (.mv (cI 0))]) (.sseq (.seq (.reg [] [] [.T 14 (.load (some 2) (.tmp 3)), .M 15 1, .T 16 (.call 57 [.tmp 14, .tmp 15]), .N 8 16]) (.seq (.reg [] [] [.M 17 8, .K 18 (.bin .neq (.tmp 17) (cI 0))]) (.cond (.tmp 18) (some 18) (.seq (.reg [] [(6, 4095)] [.T 19 (.build [(0, 1), (1, 1), (2, 1)] [.im true [], .im true [], .d (.v (.bool false))] []), .M 20 8, ⟨none, .store 3 (.tmp 6) (.tmp 19), none, false, false⟩, .N 7 20]) (.ret)) (.skip)))) (.sseq (.seq (.reg [] [] [.M 21 2, .T 22 (.bin .lss (.tmp 21) (cI 0)), .M 23 22, .MG 24 23 false 2, .TG 25 23 false (.bin .gtr (.tmp 24) (cI 4096)), .K 26 (.pick (.tmp 23) (.const (.bool true)) (.tmp 25))]) (.cond (.tmp 26) (some 26) (.seq (.reg [] [(6, 4095)] [.T 27 (.build [(0, 1), (1, 1), (2, 1)] [.im true [], .im true [], .d (.v (.bool false))] []), ⟨none, .store 3 (.tmp 6) (.tmp 27), none, false, false⟩, .K 7 (.mv (cI 1))]) (.ret)) (.skip))) (.sseq (.reg [] [(9, 2)] [.M 28 1, ⟨some (29, false), .call 58 [.tmp 28], none, false, true⟩, .T 30 (.build [(0, 1), (1, 1), (2, 1)] [.im true [], .im true [], .d (.v (.bool false))] [(1, .tmp 29)]), .K 9 (.alloc [.im true [], .im true [], .d (.v (.bool false))] 3), ⟨none, .store 3 (.tmp 9) (.tmp 30), none, false, false⟩]) (.loop qpv9))))
theorem is24 : IsF C 24 76 36895739964480045007 c24 [.cell 6 44, .tmp 7] := ⟨⟨Tryd.f24, _, C_P ▸ Tryd.func24, rfl, rfl, rfl, by kernel_rfl, rfl⟩⟩
def qij9 (s0 : System) (s1 : List Int) (s2 : Int) (s8 : Int) (b3_0 : List Symbol) (b3_1 : List Rule) (b6_0 : List Redex) (b6_1 : List Int) (b6_2 : Bool) (b9_2 : Bool) (g1 : AHeap) : (List Int) × (List Redex) → Nat × AHeap → St := fun (b9_1, o9_0) (v9_0, gt) => ⟨[(0, .d (.ag (qg9 s0))), (1, .d (.rd (s1.map intD))), (2, PI s2), (3, .ptr 0 0 0 0), (6, .ptr 1 0 0 0), (7, PI 0), (8, PI s8), (9, .ptr (g1.length + 2) 0 0 0)], (.row false 0 2 [[.d (.rd (b3_0.map qb9)), .d (.rd (b3_1.map qd9))]] :: (.row false 0 3 [[.d (.rd (b6_0.map qm9)), .d (.rd (b6_1.map intD)), PB b6_2]] :: (g1 ++ (.row false 0 3 [[.ref (g1.length + 3) v9_0 0 o9_0.length, .d (.rd (b9_1.map intD)), PB b9_2]] :: (.row false v9_0 2 (rowP qm9 o9_0) :: gt)))))⟩
def qoG9 (s0 : System) (s1 : List Int) (s2 : Int) (s8 : Int) (b3_0 : List Symbol) (b3_1 : List Rule) (b6_0 : List Redex) (b6_1 : List Int) (b6_2 : Bool) (b9_2 : Bool) (g1 : AHeap) : (Walk × Int) → AExit × St → Prop := fun r q => XV C [.cell 6 44, .tmp 7] (.tp [.d (.ag (qQ9 r.1)), PI r.2]) q
set_option maxHeartbeats 60000000 in
theorem qoV9 {s0 : System} {s1 : List Int} {s2 : Int} {s8 : Int} {b3_0 : List Symbol} {b3_1 : List Rule} {b6_0 : List Redex} {b6_1 : List Int} {b6_2 : Bool} {b9_2 : Bool} {g1 : AHeap} : Sim C 36895739964480045007 qpv9 (qck9 s0 s1 s2 s8 b3_0 b3_1 b6_0 b6_1 b6_2 b9_2) (qij9 s0 s1 s2 s8 b3_0 b3_1 b6_0 b6_1 b6_2 b9_2 g1) (qoG9 s0 s1 s2 s8 b3_0 b3_1 b6_0 b6_1 b6_2 b9_2 g1) := by
  intro s g r hr
  obtain ⟨b9_1, o9_0⟩ := s
  obtain ⟨v9_0, gt⟩ := g
  simp only [qck9] at hr
  rcases iteP hr with ⟨h1, hr⟩ | ⟨h1, hr⟩
  obtain rfl := oiA hr
  refine xv_of ?_
  rotate_left
  obtain ⟨x2, h2, hr⟩ := bsome hr
  have h2k := fun h => (qeJ9 h2).o rfl rfl rfl (h := h) (args := [.ag [.d (.rd (b3_0.map qb9)), .d (.rd (b3_1.map qd9))], .d (.rd (b9_1.map intD))]) rfl
  try simp only [go_sem] at h2k
  rcases iteB hr with ⟨h3, hr⟩ | ⟨h3, hr⟩
  simp only [h3] at hr
  rcases iteP hr with ⟨h4, hr⟩ | ⟨h4, hr⟩
  obtain rfl := oiA hr
  refine xv_of ?_
  rotate_left
  obtain ⟨x3, h5, hr⟩ := bsome hr
  have h5k := fun h => (qnz9 h5).o rfl rfl rfl (h := h) (args := [.ag [.d (.rd (b3_0.map qb9)), .d (.rd (b3_1.map qd9))], .d (.rd (b9_1.map intD)), .ag [PI x2.1.At, PI x2.1.Rule]]) rfl
  try simp only [go_sem] at h5k
  rcases iteP hr with ⟨h6, hr⟩ | ⟨h6, hr⟩
  obtain ⟨h7, hr⟩ := gsome hr
  obtain rfl := oiA hr
  refine ⟨((v9_0 + 1), (gt ++ (.row false 0 2 [[PI x2.1.At, PI x2.1.Rule]] :: []))), ?_⟩
  rotate_left
  obtain rfl := oiA hr
  refine xv_of ?_
  rotate_left
  simp only [h3] at hr
  obtain rfl := oiA hr
  refine xv_of ?_
  rotate_left
  all_goals (simp +decide only [go_sem, qij9, qpv9, *])
set_option maxHeartbeats 60000000 in
theorem qdx9 {a0 : System} {a1 : List Int} {a2 : Int} {r : Walk × Int} (hr : qbr9 a0 a1 a2 = some r) : Res C 24 [.ag (qg9 a0), .rd (a1.map intD), .v (.int .i64 a2)] (.tp [.d (.ag (qQ9 r.1)), PI r.2]) := by
  simp only [qbr9] at hr
  obtain ⟨x1, h1, hr⟩ := bsome hr
  have h1k := fun h => (qma9 h1).o rfl rfl rfl (h := h) (args := [.ag [.d (.rd (a0.Sig.map qb9)), .d (.rd (a0.Rules.map qd9))], .d (.rd (a1.map intD))]) rfl
  try simp only [go_sem] at h1k
  rcases iteP hr with ⟨h2, hr⟩ | ⟨h2, hr⟩
  rcases iteP hr with ⟨h3, hr⟩ | ⟨h3, hr⟩
  obtain rfl := oiA hr
  refine run_V is24 (nbA rfl) ?_
  rotate_left
  rcases iteP hr with ⟨h4, hr⟩ | ⟨h4, hr⟩
  obtain rfl := oiA hr
  refine run_V is24 (nbA rfl) ?_
  rotate_left
  obtain ⟨h5, hr⟩ := gsome hr
  obtain ⟨x4, h6, hr⟩ := bsome hr
  obtain ⟨q6, h6L, h6X⟩ := (qoV9 (g1 := (.row true 0 1 (rowP intD a1) :: []))).L (g := (0, [])) h6
  have ⟨x5, hq6⟩ : ∃ y, y = x4 := ⟨_, rfl⟩
  subst hq6
  try dsimp only at hr
  obtain ⟨st6, rfl, h6R⟩ := h6X
  simp only [qij9, go_sem] at h6L
  obtain rfl := oiA hr
  refine run_V is24 (nbA rfl) ?_
  rotate_left
  obtain rfl := oiA hr
  refine run_V is24 (nbA rfl) ?_
  rotate_left
  all_goals (simp +decide only [go_sem, c24, *])
def qpn9 : ACode := .seq (.reg [] [] [.K 28 (.bin .lss (.tmp 27) (.tmp 26))]) (.seq (.cond (.tmp 28) (some 28) (.skip) (.exit 0)) (.seq (.block 1 1099780078592 (.seq (.reg [] [] [.M 29 27, .T 30 (.ix 2 (.tmp 25) (.tmp 27)), .T 31 (.load (some 2) (.tmp 30)), .K 11 (.alloc [.d (.v (.int .i64 0)), .d (.v (.int .i64 0))] 2), .N 10 29, ⟨none, .store 2 (.tmp 11) (.tmp 31), none, false, false⟩]) (.seq (.reg [] [] [.T 33 (.load (some 2) (.tmp 3)), .M 34 1, .T 35 (.load (some 2) (.tmp 11)), .T 36 (.call 18 [.tmp 33, .tmp 34, .tmp 35]), .M 32 36, .T 37 (.ext (.tmp 32) 0), .T 38 (.ext (.tmp 32) 1), .N 12 37, .N 13 38]) (.seq (.seq (.reg [] [] [.M 39 13, .K 40 (.bin .neq (.tmp 39) (cI 0))]) (.cond (.tmp 40) (some 40) (.seq (.reg [] [(6, 0)] [.M 41 13, .M 42 10, .K 6 (.mv (.const (.slice none 0 0))), .N 7 41, .N 8 42]) (.ret)) (.skip))) (.reg [] [] [.M 43 12, .N 1 43]))))) (.reg [] [] [.T 44 (.bin .add (.tmp 27) (cI 1)), .N 27 44])))
def c25 : ACode := .seq (.reg [] [(6, 0)] [.K 3 (.box (.tmp 0)), .K 6 (.mv (.const (.slice none 0 0))), .K 7 (.mv (cI 0)), .K 8 (.mv (cI 0))]) (.seq (.seq (.reg [] [] [.T 14 (.load (some 2) (.tmp 3)), .M 15 1, .T 16 (.call 57 [.tmp 14, .tmp 15]), .N 9 16]) (.seq (.reg [] [] [.M 17 9, .K 18 (.bin .neq (.tmp 17) (cI 0))]) (.cond (.tmp 18) (some 18) (.seq (.reg [] [(6, 0)] [.M 19 9, .K 6 (.mv (.const (.slice none 0 0))), .N 7 19, .K 8 (.mv (cI 0))]) (.ret)) (.skip)))) (.seq (.seq (.reg [] [] [.M 20 1, .T 21 (.len (.tmp 20)), .K 22 (.bin .gtr (.tmp 21) (cI 512))]) (.cond (.tmp 22) (some 22) (.seq (.reg [] [(6, 0)] [.K 6 (.mv (.const (.slice none 0 0))), .K 7 (.mv (cI 2)), .K 8 (.mv (cI 0))]) (.ret)) (.skip))) (.seq (.reg [] [(1, 0)] [.M 23 1, .T 24 (.call 58 [.tmp 23]), .N 1 24]) (.seq (.seq (.reg [] [] [.N 25 2, .K 26 (.len (.tmp 25)), .K 27 (.mv (cI 0))]) (.block 0 1099780078592 (.loop qpn9))) (.seq (.reg [] [] [.M 45 1, .N 6 45, .K 7 (.mv (cI 0)), .K 8 (.mv (cI 0))]) (.ret))))))
theorem is25 : IsF C 25 46 1100019417039 c25 [.tmp 6, .tmp 7, .tmp 8] := ⟨⟨Tryd.f25, _, C_P ▸ Tryd.func25, rfl, rfl, rfl, by kernel_rfl, rfl⟩⟩
def qeu9 (s0 : System) (s2 : List Redex) (s6 : List Int) (s9 : Int) (s25 : List Redex) (s26 : Int) (b3_0 : List Symbol) (b3_1 : List Rule) (g1 : AHeap) : (List Int) × Int → AHeap → St := fun (s1, s27) gt => ⟨[(0, .d (.ag (qg9 s0))), (1, .d (.rd (s1.map intD))), (2, .d (.rd (s2.map qm9))), (3, .ptr 0 0 0 0), (6, .d (.rd (s6.map intD))), (7, PI 0), (8, PI 0), (9, PI s9), (25, .d (.rd (s25.map qm9))), (26, PI s26), (27, PI s27)], (.row false 0 2 [[.d (.rd (b3_0.map qb9)), .d (.rd (b3_1.map qd9))]] :: (g1 ++ gt))⟩
def qnX9 (s0 : System) (s2 : List Redex) (s6 : List Int) (s9 : Int) (s25 : List Redex) (s26 : Int) (b3_0 : List Symbol) (b3_1 : List Rule) (g1 : AHeap) : (((List Int) × Int × Int) ⊕ ((List Int) × Int)) → AExit × St → Prop
  | .inl r, q => XV C [.tmp 6, .tmp 7, .tmp 8] (.tp [.d (.rd (r.1.map intD)), PI r.2.1, PI r.2.2]) q
  | .inr (s1, s27), q => ∃ g, q = (.exit 0, qeu9 s0 s2 s6 s9 s25 s26 b3_0 b3_1 g1 (s1, s27) g)
set_option maxHeartbeats 60000000 in
theorem qoc9 {s0 : System} {s2 : List Redex} {s6 : List Int} {s9 : Int} {s25 : List Redex} {s26 : Int} {b3_0 : List Symbol} {b3_1 : List Rule} {g1 : AHeap} : Sim C 1100019417039 qpn9 (qcl9 s0 s2 s6 s9 s25 s26 b3_0 b3_1) (qeu9 s0 s2 s6 s9 s25 s26 b3_0 b3_1 g1) (qnX9 s0 s2 s6 s9 s25 s26 b3_0 b3_1 g1) := by
  intro s g r hr
  obtain ⟨s1, s27⟩ := s
  have ⟨gt, hg0⟩ : ∃ y, y = g := ⟨_, rfl⟩
  subst hg0
  simp only [qcl9] at hr
  rcases iteP hr with ⟨h1, hr⟩ | ⟨h1, hr⟩
  obtain ⟨x2, h2, x3, h3, hr⟩ := bs2 hr
  have h3k := fun h => (qnz9 h3).o rfl rfl rfl (h := h) (args := [.ag [.d (.rd (b3_0.map qb9)), .d (.rd (b3_1.map qd9))], .d (.rd (s1.map intD)), .ag [PI x2.At, PI x2.Rule]]) rfl
  try simp only [go_sem] at h3k
  rcases iteP hr with ⟨h4, hr⟩ | ⟨h4, hr⟩
  obtain rfl := oiA hr
  refine ⟨(gt ++ (.row false 0 2 [[PI x2.At, PI x2.Rule]] :: [])), ?_⟩
  rotate_left
  obtain rfl := oiA hr
  refine xv_of ?_
  rotate_left
  obtain rfl := oiA hr
  refine xe_of ⟨gt, rfl⟩ ?_
  rotate_left
  all_goals (simp +decide only [go_sem, qeu9, qpn9, *])
set_option maxHeartbeats 60000000 in
theorem qic9 {a0 : System} {a1 : List Int} {a2 : List Redex} {r : (List Int) × Int × Int} (hr : qdp9 a0 a1 a2 = some r) : Res C 25 [.ag (qg9 a0), .rd (a1.map intD), .rd (a2.map qm9)] (.tp [.d (.rd (r.1.map intD)), PI r.2.1, PI r.2.2]) := by
  simp only [qdp9] at hr
  obtain ⟨x1, h1, hr⟩ := bsome hr
  have h1k := fun h => (qma9 h1).o rfl rfl rfl (h := h) (args := [.ag [.d (.rd (a0.Sig.map qb9)), .d (.rd (a0.Rules.map qd9))], .d (.rd (a1.map intD))]) rfl
  try simp only [go_sem] at h1k
  rcases iteP hr with ⟨h2, hr⟩ | ⟨h2, hr⟩
  rcases iteP hr with ⟨h3, hr⟩ | ⟨h3, hr⟩
  obtain rfl := oiA hr
  refine run_V is25 (nbA rfl) ?_
  rotate_left
  obtain ⟨h4, hr⟩ := gsome hr
  obtain ⟨x4, h5, hr⟩ := bsome hr
  obtain ⟨q5, h5L, h5X⟩ := (qoc9 (g1 := (.row true 0 1 (rowP intD a1) :: []))).L (g := []) h5
  rcases x4 with x5 | ⟨x6, x7⟩
  try dsimp only at hr
  obtain ⟨st5, rfl, h5R⟩ := h5X
  simp only [qeu9, go_sem] at h5L
  obtain rfl := oiA hr
  refine run_V is25 (nbA rfl) ?_
  rotate_left
  try dsimp only at hr
  obtain ⟨z8, rfl⟩ := h5X
  simp only [qeu9, go_sem] at h5L
  obtain rfl := oiA hr
  refine run_V is25 (nbA rfl) ?_
  rotate_left
  obtain rfl := oiA hr
  refine run_V is25 (nbA rfl) ?_
  rotate_left
  all_goals (simp +decide only [go_sem, c25, *])
def qpi9 : ACode := .seq (.seq (.reg [] [] [.M 11 5, .M 12 0, .T 13 (.len (.tmp 12)), .K 14 (.bin .lss (.tmp 11) (.tmp 13))]) (.cond (.tmp 14) (some 14) (.skip) (.exit 0))) (.seq (.block 1 33570816 (.seq (.reg [] [] [.M 17 0, .M 18 5, ⟨some (19, false), .ix 1 (.tmp 17) (.tmp 18), none, true, false⟩, ⟨some (20, false), .load none (.tmp 19), none, true, false⟩, .M 21 1, .M 22 5, ⟨some (23, false), .ix 1 (.tmp 21) (.tmp 22), none, true, false⟩, ⟨some (24, false), .load none (.tmp 23), none, true, false⟩, .K 25 (.bin .neq (.tmp 20) (.tmp 24))]) (.cond (.tmp 25) (some 25) (.seq (.reg [] [] [.K 4 (.mv (.const (.bool false)))]) (.ret)) (.skip)))) (.reg [] [] [.M 15 5, .T 16 (.bin .add (.tmp 15) (cI 1)), .N 5 16]))
def c26 : ACode := .seq (.reg [] [] [.K 4 (.mv (.const (.bool false)))]) (.seq (.seq (.reg [] [] [.M 6 0, .T 7 (.len (.tmp 6)), .M 8 1, .T 9 (.len (.tmp 8)), .K 10 (.bin .neq (.tmp 7) (.tmp 9))]) (.cond (.tmp 10) (some 10) (.seq (.reg [] [] [.K 4 (.mv (.const (.bool false)))]) (.ret)) (.skip))) (.seq (.seq (.reg [] [] [.K 5 (.mv (cI 0))]) (.block 0 33570816 (.loop qpi9))) (.seq (.reg [] [] [.K 4 (.mv (.const (.bool true)))]) (.ret))))
theorem is26 : IsF C 26 26 33571891 c26 [.tmp 4] := ⟨⟨Tryd.f26, _, C_P ▸ Tryd.func26, rfl, rfl, rfl, by kernel_rfl, rfl⟩⟩
def qec9 (s0 : List Int) (s1 : List Int) : Int → Unit → St := fun s5 _ => ⟨[(0, .d (.rd (s0.map intD))), (1, .d (.rd (s1.map intD))), (4, PB false), (5, PI s5)], []⟩
def qmF9 (s0 : List Int) (s1 : List Int) : (Bool ⊕ Int) → AExit × St → Prop
  | .inl r, q => XV C [.tmp 4] (PB r) q
  | .inr s5, q => ∃ g, q = (.exit 0, qec9 s0 s1 s5 g)
set_option maxHeartbeats 60000000 in
theorem qnc9 {s0 : List Int} {s1 : List Int} : Sim C 33571891 qpi9 (qfd9 s0 s1) (qec9 s0 s1) (qmF9 s0 s1) := by
  intro s g r hr
  have ⟨s5, hs0⟩ : ∃ y, y = s := ⟨_, rfl⟩
  subst hs0
  simp only [qfd9] at hr
  rcases iteP hr with ⟨h1, hr⟩ | ⟨h1, hr⟩
  obtain ⟨x1, h2, x2, h3, hr⟩ := bs2 hr
  rcases iteP hr with ⟨h4, hr⟩ | ⟨h4, hr⟩
  obtain rfl := oiA hr
  refine ⟨(), ?_⟩
  rotate_left
  obtain rfl := oiA hr
  refine xv_of ?_
  rotate_left
  obtain rfl := oiA hr
  refine xe_of ⟨(), rfl⟩ ?_
  rotate_left
  all_goals (simp +decide only [go_sem, qec9, qpi9, *])
set_option maxHeartbeats 60000000 in
theorem qdf9 {a0 : List Int} {a1 : List Int} {r : Bool} (hr : qbw9 a0 a1 = some r) : Res C 26 [.rd (a0.map intD), .rd (a1.map intD)] (PB r) := by
  simp only [qbw9] at hr
  rcases iteP hr with ⟨h1, hr⟩ | ⟨h1, hr⟩
  obtain ⟨x3, h2, hr⟩ := bsome hr
  obtain ⟨q2, h2L, h2X⟩ := qnc9.L (g := ()) h2
  rcases x3 with x4 | x5
  try dsimp only at hr
  obtain ⟨st2, rfl, h2R⟩ := h2X
  simp only [qec9, go_sem] at h2L
  obtain rfl := oiA hr
  refine run_V is26 (nbA rfl) ?_
  rotate_left
  try dsimp only at hr
  obtain ⟨⟨⟩, rfl⟩ := h2X
  simp only [qec9, go_sem] at h2L
  obtain rfl := oiA hr
  refine run_V is26 (nbA rfl) ?_
  rotate_left
  obtain rfl := oiA hr
  refine run_V is26 (nbA rfl) ?_
  rotate_left
  all_goals (simp +decide only [go_sem, c26, *])
def qpd9 : ACode := .seq (.seq (.reg [] [] [.M 30 6, .T 31 (.fa 0 (.tmp 2)), .T 32 (.load none (.tmp 31)), .T 33 (.len (.tmp 32)), .K 34 (.bin .lss (.tmp 30) (.tmp 33))]) (.cond (.tmp 34) (some 34) (.skip) (.exit 0))) (.seq (.block 1 140754668224512 (.seq (.reg [] [] [.T 37 (.fa 0 (.tmp 2)), ⟨some (38, false), .load none (.tmp 37), none, true, false⟩, .M 39 6, ⟨some (40, false), .ix 2 (.tmp 38) (.tmp 39), none, true, false⟩, ⟨some (41, false), .load (some 2) (.tmp 40), none, true, false⟩, .T 42 (.fa 0 (.tmp 3)), ⟨some (43, false), .load none (.tmp 42), none, true, false⟩, .M 44 6, ⟨some (45, false), .ix 2 (.tmp 43) (.tmp 44), none, true, false⟩, ⟨some (46, false), .load (some 2) (.tmp 45), none, true, false⟩, .K 47 (.raw ({ dst := some 47, op := Go.Op.binOp Go.BinOp.neq 33 (.tmp 41) (.tmp 46) 33, type := 4, pos := "law.go:52", after := #[{ on := 4, ground := Go.Ground.data }, { on := 9, ground := Go.Ground.data }], guard := none }))]) (.cond (.tmp 47) (some 47) (.seq (.reg [] [] [.K 4 (.mv (.const (.bool false)))]) (.ret)) (.skip)))) (.reg [] [] [.M 35 6, .T 36 (.bin .add (.tmp 35) (cI 1)), .N 6 36]))
def c53 : ACode := .seq (.reg [] [] [.K 2 (.box (.tmp 0)), .K 3 (.box (.tmp 1)), .K 4 (.mv (.const (.bool false)))]) (.seq (.reg [] [] [.T 7 (.fa 1 (.tmp 2)), .T 8 (.load none (.tmp 7)), .T 9 (.fa 1 (.tmp 3)), .T 10 (.load none (.tmp 9)), .T 11 (.call 26 [.tmp 8, .tmp 10]), .N 5 11]) (.seq (.seq (.reg [] [] [.M 12 5, .T 13 (.not (.tmp 12)), .M 14 13, .TG 15 14 false (.fa 0 (.tmp 2)), .TG 16 14 false (.load none (.tmp 15)), .TG 17 14 false (.len (.tmp 16)), .TG 18 14 false (.fa 0 (.tmp 3)), .TG 19 14 false (.load none (.tmp 18)), .TG 20 14 false (.len (.tmp 19)), .TG 21 14 false (.bin .neq (.tmp 17) (.tmp 20)), .T 22 (.pick (.tmp 14) (.const (.bool true)) (.tmp 21)), .M 23 22, .TG 24 23 false (.fa 2 (.tmp 2)), .TG 25 23 false (.load none (.tmp 24)), .TG 26 23 false (.fa 2 (.tmp 3)), .TG 27 23 false (.load none (.tmp 26)), .TG 28 23 false (.binB .neq (.tmp 25) (.tmp 27)), .K 29 (.pick (.tmp 23) (.const (.bool true)) (.tmp 28))]) (.cond (.tmp 29) (some 29) (.seq (.reg [] [] [.K 4 (.mv (.const (.bool false)))]) (.ret)) (.skip))) (.seq (.seq (.reg [] [] [.K 6 (.mv (cI 0))]) (.block 0 140754668224512 (.loop qpd9))) (.seq (.reg [] [] [.K 4 (.mv (.const (.bool true)))]) (.ret)))))
theorem is53 : IsF C 53 48 140755205095551 c53 [.tmp 4] := ⟨⟨Tryd.f53, _, C_P ▸ Tryd.func53, rfl, rfl, rfl, by kernel_rfl, rfl⟩⟩
def qfl9 (s0 : Walk) (s1 : Walk) (s5 : Bool) (b2_0 : List Redex) (b2_1 : List Int) (b2_2 : Bool) (b3_0 : List Redex) (b3_1 : List Int) (b3_2 : Bool) : Int → Unit → St := fun s6 _ => ⟨[(0, .d (.ag (qQ9 s0))), (1, .d (.ag (qQ9 s1))), (2, .ptr 0 0 0 0), (3, .ptr 1 0 0 0), (4, PB false), (5, PB s5), (6, PI s6)], (.row false 0 3 [[.d (.rd (b2_0.map qm9)), .d (.rd (b2_1.map intD)), PB b2_2]] :: (.row false 0 3 [[.d (.rd (b3_0.map qm9)), .d (.rd (b3_1.map intD)), PB b3_2]] :: []))⟩
def qrr9 (s0 : Walk) (s1 : Walk) (s5 : Bool) (b2_0 : List Redex) (b2_1 : List Int) (b2_2 : Bool) (b3_0 : List Redex) (b3_1 : List Int) (b3_2 : Bool) : (Bool ⊕ Int) → AExit × St → Prop
  | .inl r, q => XV C [.tmp 4] (PB r) q
  | .inr s6, q => ∃ g, q = (.exit 0, qfl9 s0 s1 s5 b2_0 b2_1 b2_2 b3_0 b3_1 b3_2 s6 g)
set_option maxHeartbeats 60000000 in
theorem qrl9 {s0 : Walk} {s1 : Walk} {s5 : Bool} {b2_0 : List Redex} {b2_1 : List Int} {b2_2 : Bool} {b3_0 : List Redex} {b3_1 : List Int} {b3_2 : Bool} : Sim C 140755205095551 qpd9 (qfG9 s0 s1 s5 b2_0 b2_1 b2_2 b3_0 b3_1 b3_2) (qfl9 s0 s1 s5 b2_0 b2_1 b2_2 b3_0 b3_1 b3_2) (qrr9 s0 s1 s5 b2_0 b2_1 b2_2 b3_0 b3_1 b3_2) := by
  intro s g r hr
  have ⟨s6, hs0⟩ : ∃ y, y = s := ⟨_, rfl⟩
  subst hs0
  simp only [qfG9] at hr
  rcases iteP hr with ⟨h1, hr⟩ | ⟨h1, hr⟩
  obtain ⟨x2, h2, x3, h3, hr⟩ := bs2 hr
  rcases iteB hr with ⟨h4, hr⟩ | ⟨h4, hr⟩
  obtain rfl := oiA hr
  refine ⟨(), ?_⟩
  rotate_left
  obtain rfl := oiA hr
  refine xv_of ?_
  rotate_left
  obtain rfl := oiA hr
  refine xe_of ⟨(), rfl⟩ ?_
  rotate_left
  all_goals (simp +decide only [go_sem, qfl9, qpd9, *])
set_option maxHeartbeats 60000000 in
theorem qlJ9 {a0 : Walk} {a1 : Walk} {r : Bool} (hr : qeT9 a0 a1 = some r) : Res C 53 [.ag (qQ9 a0), .ag (qQ9 a1)] (PB r) := by
  simp only [qeT9] at hr
  obtain ⟨x1, h1, hr⟩ := bsome hr
  have h1k := (qdf9 h1).k rfl rfl rfl
  try simp only [go_sem] at h1k
  rcases iteB hr with ⟨h2, hr⟩ | ⟨h2, hr⟩
  simp only [h2] at hr
  rcases iteP hr with ⟨h3, hr⟩ | ⟨h3, hr⟩
  rcases iteB hr with ⟨h4, hr⟩ | ⟨h4, hr⟩
  obtain rfl := oiA hr
  refine run_V is53 (nbA rfl) ?_
  rotate_left
  obtain ⟨x4, h5, hr⟩ := bsome hr
  obtain ⟨q5, h5L, h5X⟩ := qrl9.L (g := ()) h5
  rcases x4 with x5 | x6
  try dsimp only at hr
  obtain ⟨st5, rfl, h5R⟩ := h5X
  simp only [qfl9, go_sem] at h5L
  obtain rfl := oiA hr
  refine run_V is53 (nbA rfl) ?_
  rotate_left
  try dsimp only at hr
  obtain ⟨⟨⟩, rfl⟩ := h5X
  simp only [qfl9, go_sem] at h5L
  obtain rfl := oiA hr
  refine run_V is53 (nbA rfl) ?_
  rotate_left
  obtain rfl := oiA hr
  refine run_V is53 (nbA rfl) ?_
  rotate_left
  obtain rfl := oiA hr
  refine run_V is53 (nbA rfl) ?_
  rotate_left
  all_goals (simp +decide only [go_sem, c53, *])
def c20 : ACode := .seq (.reg [] [] [.K 0 (.mv (.const (.bool false)))]) (.seq (.reg [] [] [.T 16 (.call 52 []), .K 1 (.alloc [.im true [], .im true []] 2), ⟨none, .store 2 (.tmp 1) (.tmp 16), none, false, false⟩]) (.seq (.reg [] [(2, 0)] [.T 17 (.lit 1 [(0, .const (.int .i64 2)), (1, .const (.int .i64 1)), (2, .const (.int .i64 0)), (3, .const (.int .i64 1)), (4, .const (.int .i64 0))]), .N 2 17]) (.seq (.reg [] [] [.T 19 (.load (some 2) (.tmp 1)), .M 20 2, .T 21 (.call 24 [.tmp 19, .tmp 20, .const (.int .i64 9)]), .M 18 21, .T 22 (.ext (.tmp 18) 0), .T 23 (.ext (.tmp 18) 1), .K 3 (.alloc [.im true [], .im true [], .d (.v (.bool false))] 3), ⟨none, .store 3 (.tmp 3) (.tmp 22), none, false, false⟩, .N 4 23]) (.seq (.reg [] [] [.T 25 (.load (some 2) (.tmp 1)), .M 26 2, .T 27 (.call 24 [.tmp 25, .tmp 26, .const (.int .i64 1)]), .M 24 27, .T 28 (.ext (.tmp 24) 0), .T 29 (.ext (.tmp 24) 1), .K 5 (.alloc [.im true [], .im true [], .d (.v (.bool false))] 3), ⟨none, .store 3 (.tmp 5) (.tmp 28), none, false, false⟩, .N 6 29]) (.seq (.reg [] [] [.T 31 (.load (some 2) (.tmp 1)), .M 32 2, .T 33 (.build [(0, 1), (1, 1)] [.d (.v (.int .i64 0)), .d (.v (.int .i64 0))] [(0, .const (.int .i64 0)), (1, .const (.int .i64 1))]), .T 34 (.build [(0, 1), (1, 1)] [.d (.v (.int .i64 0)), .d (.v (.int .i64 0))] [(0, .const (.int .i64 1)), (1, .const (.int .i64 0))]), .T 35 (.lit 2 [(0, .tmp 33), (1, .tmp 34)]), .T 36 (.call 25 [.tmp 31, .tmp 32, .tmp 35]), .M 30 36, .T 37 (.ext (.tmp 30) 0), .T 38 (.ext (.tmp 30) 1), .T 39 (.ext (.tmp 30) 2), .N 7 37, .N 8 38, .N 9 39]) (.seq (.reg [] [] [.T 41 (.load (some 2) (.tmp 1)), .M 42 2, .T 43 (.build [(0, 1), (1, 1)] [.d (.v (.int .i64 0)), .d (.v (.int .i64 0))] [(0, .const (.int .i64 0)), (1, .const (.int .i64 0))]), .T 44 (.lit 2 [(0, .tmp 43)]), .T 45 (.call 25 [.tmp 41, .tmp 42, .tmp 44]), .M 40 45, .T 46 (.ext (.tmp 40) 0), .T 47 (.ext (.tmp 40) 1), .T 48 (.ext (.tmp 40) 2), .M 10 46, .N 11 47, .N 12 48]) (.seq (.reg [] [] [.T 49 (.load (some 3) (.tmp 3)), .T 50 (.build [(0, 1), (1, 1)] [.d (.v (.int .i64 0)), .d (.v (.int .i64 0))] [(0, .const (.int .i64 0)), (1, .const (.int .i64 1))]), .T 51 (.build [(0, 1), (1, 1)] [.d (.v (.int .i64 0)), .d (.v (.int .i64 0))] [(0, .const (.int .i64 1)), (1, .const (.int .i64 0))]), ⟨some (52, false), .lit 2 [(0, .tmp 50), (1, .tmp 51)], none, false, true⟩, ⟨some (53, false), .lit 1 [(0, .const (.int .i64 1)), (1, .const (.int .i64 1)), (2, .const (.int .i64 0))], none, false, true⟩, .T 54 (.build [(0, 1), (1, 1), (2, 1)] [.im true [], .im true [], .d (.v (.bool false))] [(0, .tmp 52), (1, .tmp 53), (2, .const (.bool true))]), .T 55 (.call 53 [.tmp 49, .tmp 54]), .N 13 55]) (.seq (.reg [] [] [.T 56 (.load (some 3) (.tmp 5)), .T 57 (.build [(0, 1), (1, 1)] [.d (.v (.int .i64 0)), .d (.v (.int .i64 0))] [(0, .const (.int .i64 0)), (1, .const (.int .i64 1))]), ⟨some (58, false), .lit 2 [(0, .tmp 57)], none, false, true⟩, ⟨some (59, false), .lit 1 [(0, .const (.int .i64 1)), (1, .const (.int .i64 2)), (2, .const (.int .i64 0)), (3, .const (.int .i64 1)), (4, .const (.int .i64 0))], none, false, true⟩, .T 60 (.build [(0, 1), (1, 1), (2, 1)] [.im true [], .im true [], .d (.v (.bool false))] [(0, .tmp 58), (1, .tmp 59)]), .T 61 (.call 53 [.tmp 56, .tmp 60]), .N 14 61]) (.seq (.reg [] [] [.M 62 7, .T 63 (.lit 1 [(0, .const (.int .i64 1)), (1, .const (.int .i64 1)), (2, .const (.int .i64 0))]), .T 64 (.call 26 [.tmp 62, .tmp 63]), .N 15 64]) (.seq (.reg [] [] [.M 65 13, .M 66 65, .MG 67 66 true 14, .T 68 (.pick (.tmp 66) (.tmp 67) (.const (.bool false))), .M 69 68, .MG 70 69 true 15, .T 71 (.pick (.tmp 69) (.tmp 70) (.const (.bool false))), .M 72 71, .MG 73 72 true 4, .TG 74 72 true (.bin .eql (.tmp 73) (cI 0)), .T 75 (.pick (.tmp 72) (.tmp 74) (.const (.bool false))), .M 76 75, .MG 77 76 true 6, .TG 78 76 true (.bin .eql (.tmp 77) (cI 0)), .T 79 (.pick (.tmp 76) (.tmp 78) (.const (.bool false))), .M 80 79, .MG 81 80 true 8, .TG 82 80 true (.bin .eql (.tmp 81) (cI 0)), .T 83 (.pick (.tmp 80) (.tmp 82) (.const (.bool false))), .M 84 83, .MG 85 84 true 9, .TG 86 84 true (.bin .eql (.tmp 85) (cI 0)), .T 87 (.pick (.tmp 84) (.tmp 86) (.const (.bool false))), .M 88 87, .MG 89 88 true 11, .TG 90 88 true (.bin .eql (.tmp 89) (cI 80)), .T 91 (.pick (.tmp 88) (.tmp 90) (.const (.bool false))), .M 92 91, .MG 93 92 true 12, .TG 94 92 true (.bin .eql (.tmp 93) (cI 0)), .T 95 (.pick (.tmp 92) (.tmp 94) (.const (.bool false))), .N 0 95]) (.ret)))))))))))
theorem is20 : IsF C 20 96 64511 c20 [.tmp 0] := ⟨⟨Tryd.f20, _, C_P ▸ Tryd.func20, rfl, rfl, rfl, by kernel_rfl, rfl⟩⟩
set_option maxHeartbeats 60000000 in
theorem qqB9  {r : Bool} (hr : qhn9 = some r) : Res C 20 [] (PB r) := by
  simp only [qhn9] at hr
  obtain ⟨x1, h1, x2, h2, x3, h3, x4, h4, hr⟩ := bs4 hr
  have h1k := (qrY9 h1).k rfl rfl rfl
  try simp only [go_sem] at h1k
  have h2k := fun h => (qdx9 h2).o rfl rfl rfl (h := h) (args := [.ag [.d (.rd (x1.Sig.map qb9)), .d (.rd (x1.Rules.map qd9))], .d (.rd (([2, 1, 0, 1, 0] : List Int).map intD)), PI 9]) rfl
  try simp only [go_sem] at h2k
  have h3k := fun h => (qdx9 h3).o rfl rfl rfl (h := h) (args := [.ag [.d (.rd (x1.Sig.map qb9)), .d (.rd (x1.Rules.map qd9))], .d (.rd (([2, 1, 0, 1, 0] : List Int).map intD)), PI 1]) rfl
  try simp only [go_sem] at h3k
  have h4k := fun h => (qic9 h4).o rfl rfl rfl (h := h) (args := [.ag [.d (.rd (x1.Sig.map qb9)), .d (.rd (x1.Rules.map qd9))], .d (.rd (([2, 1, 0, 1, 0] : List Int).map intD)), .im true [[PI 0, PI 1], [PI 1, PI 0]]]) rfl
  try simp only [go_sem] at h4k
  obtain ⟨x5, h5, x6, h6, x7, h7, x8, h8, hr⟩ := bs4 hr
  have h5k := fun h => (qic9 h5).o rfl rfl rfl (h := h) (args := [.ag [.d (.rd (x1.Sig.map qb9)), .d (.rd (x1.Rules.map qd9))], .d (.rd (([2, 1, 0, 1, 0] : List Int).map intD)), .im true [[PI 0, PI 0]]]) rfl
  try simp only [go_sem] at h5k
  have h6k := fun h => (qlJ9 h6).o rfl rfl rfl (h := h) (args := [.ag [.d (.rd (x2.1.Steps.map qm9)), .d (.rd (x2.1.End.map intD)), PB x2.1.Normal], .ag [.d (.rd (([(Redex.mk 0 1), (Redex.mk 1 0)] : List Redex).map qm9)), .d (.rd (([1, 1, 0] : List Int).map intD)), PB true]]) rfl
  try simp only [go_sem] at h6k
  have h7k := fun h => (qlJ9 h7).o rfl rfl rfl (h := h) (args := [.ag [.d (.rd (x3.1.Steps.map qm9)), .d (.rd (x3.1.End.map intD)), PB x3.1.Normal], .ag [.d (.rd (([(Redex.mk 0 1)] : List Redex).map qm9)), .d (.rd (([1, 2, 0, 1, 0] : List Int).map intD)), PB false]]) rfl
  try simp only [go_sem] at h7k
  have h8k := fun h => (qdf9 h8).o rfl rfl rfl (h := h) (args := [.d (.rd (x4.1.map intD)), .im true [[PI 1], [PI 1], [PI 0]]]) rfl
  try simp only [go_sem] at h8k
  rcases iteB hr with ⟨h9, hr⟩ | ⟨h9, hr⟩
  rcases iteB hr with ⟨h10, hr⟩ | ⟨h10, hr⟩
  rcases iteB hr with ⟨h11, hr⟩ | ⟨h11, hr⟩
  rcases iteP hr with ⟨h12, hr⟩ | ⟨h12, hr⟩
  rcases iteP hr with ⟨h13, hr⟩ | ⟨h13, hr⟩
  rcases iteP hr with ⟨h14, hr⟩ | ⟨h14, hr⟩
  rcases iteP hr with ⟨h15, hr⟩ | ⟨h15, hr⟩
  rcases iteP hr with ⟨h16, hr⟩ | ⟨h16, hr⟩
  obtain rfl := oiA hr
  refine run_V is20 (nbA rfl) ?_
  rotate_left
  obtain rfl := oiA hr
  refine run_V is20 (nbA rfl) ?_
  rotate_left
  obtain rfl := oiA hr
  refine run_V is20 (nbA rfl) ?_
  rotate_left
  obtain rfl := oiA hr
  refine run_V is20 (nbA rfl) ?_
  rotate_left
  obtain rfl := oiA hr
  refine run_V is20 (nbA rfl) ?_
  rotate_left
  obtain rfl := oiA hr
  refine run_V is20 (nbA rfl) ?_
  rotate_left
  obtain rfl := oiA hr
  refine run_V is20 (nbA rfl) ?_
  rotate_left
  obtain rfl := oiA hr
  refine run_V is20 (nbA rfl) ?_
  rotate_left
  obtain rfl := oiA hr
  refine run_V is20 (nbA rfl) ?_
  rotate_left
  all_goals (simp +decide only [go_sem, c20, *])
end Ld

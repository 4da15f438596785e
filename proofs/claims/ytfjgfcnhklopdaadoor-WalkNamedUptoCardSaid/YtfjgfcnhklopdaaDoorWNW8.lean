import Derived.Test.YtfjgfcnhklopdaaDoorWNW3
import Derived.Test.YtfjgfcnhklopdaaDoorWNW9
set_option maxHeartbeats 4000000
set_option linter.unusedVariables false
set_option linter.unusedSimpArgs false
namespace Ld
open Go Go.Proofs Go.Abs
set_option maxRecDepth 8000
def qpF9 : ACode := .gbody 0 36895739964412673024 (.seq (.seq (.reg [] [] [.T 31 (.fa 1 (.tmp 9)), .T 32 (.load none (.tmp 31)), .T 33 (.len (.tmp 32)), .K 34 (.bin .gtr (.tmp 33) (cI 512))]) (.cond (.tmp 34) (some 34) (.seq (.reg [] [(6, 4095)] [.T 35 (.build [(0, 1), (1, 1), (2, 1)] [.im true [], .im true [], .d (.v (.bool false))] []), ⟨none, .store 3 (.tmp 6) (.tmp 35), none, false, false⟩, .K 7 (.mv (cI 2))]) (.ret)) (.skip))) (.seq (.reg [] [] [.T 37 (.load (some 2) (.tmp 3)), .T 38 (.fa 1 (.tmp 9)), .T 39 (.load none (.tmp 38)), .T 40 (.call 27 [.tmp 37, .tmp 39]), .M 36 40, .T 41 (.ext (.tmp 36) 0), .T 42 (.ext (.tmp 36) 1), .K 10 (.alloc [.d (.v (.int .i64 0)), .d (.v (.int .i64 0))] 2), ⟨none, .store 2 (.tmp 10) (.tmp 41), none, false, false⟩, .N 11 42]) (.seq (.seq (.reg [] [] [.M 43 11, .T 44 (.not (.tmp 43)), .M 45 44, .TG 46 45 false (.fa 0 (.tmp 9)), .TG 47 45 false (.load none (.tmp 46)), .TG 48 45 false (.len (.tmp 47)), .MG 49 45 false 2, .TG 50 45 false (.bin .eql (.tmp 48) (.tmp 49)), .K 51 (.pick (.tmp 45) (.const (.bool true)) (.tmp 50))]) (.cond (.tmp 51) (some 51) (.seq (.reg [] [] [.M 52 11, .T 53 (.not (.tmp 52)), .T 54 (.fa 2 (.tmp 9)), ⟨none, .store 1 (.tmp 54) (.tmp 53), none, false, false⟩]) (.seq (.reg [] [] [.T 55 (.load (some 3) (.tmp 9)), ⟨none, .store 3 (.tmp 6) (.tmp 55), none, false, false⟩, .K 7 (.mv (cI 0))]) (.ret))) (.skip))) (.seq (.reg [] [] [.T 57 (.load (some 2) (.tmp 3)), .T 58 (.fa 1 (.tmp 9)), .T 59 (.load none (.tmp 58)), .T 60 (.load (some 2) (.tmp 10)), .T 61 (.call 18 [.tmp 57, .tmp 59, .tmp 60]), .M 56 61, .T 62 (.ext (.tmp 56) 0), .T 63 (.ext (.tmp 56) 1), .N 12 62, .N 13 63]) (.seq (.seq (.reg [] [] [.M 64 13, .K 65 (.bin .neq (.tmp 64) (cI 0))]) (.cond (.tmp 65) (some 65) (.seq (.reg [] [(6, 4095)] [.T 66 (.build [(0, 1), (1, 1), (2, 1)] [.im true [], .im true [], .d (.v (.bool false))] []), .M 67 13, ⟨none, .store 3 (.tmp 6) (.tmp 66), none, false, false⟩, .N 7 67]) (.ret)) (.skip))) (.seq (.reg [] [] [.T 68 (.fa 0 (.tmp 9)), .T 69 (.load none (.tmp 68)), .T 70 (.load (some 2) (.tmp 10)), .T 71 (.lit 2 [(0, .tmp 70)]), .T 72 (.app 2 16 (.tmp 69) (.tmp 71)), .M 73 12, .T 74 (.fa 0 (.tmp 9)), ⟨none, .store 1 (.tmp 74) (.tmp 72), none, false, false⟩, .T 75 (.fa 1 (.tmp 9)), ⟨none, .store 1 (.tmp 75) (.tmp 73), none, false, false⟩]) (.goto 0)))))))
def c24 : ACode := .sseq (.reg [] [(6, 4095)] [.K 3 (.box (.tmp 0)), .K 6 (.alloc [.im true [], .im true [], .d (.v (.bool false))] 3), .K 7 (.mv (cI 0))]) (.sseq (.seq (.reg [] [] [.T 14 (.load (some 2) (.tmp 3)), .M 15 1, .T 16 (.call 57 [.tmp 14, .tmp 15]), .N 8 16]) (.seq (.reg [] [] [.M 17 8, .K 18 (.bin .neq (.tmp 17) (cI 0))]) (.cond (.tmp 18) (some 18) (.seq (.reg [] [(6, 4095)] [.T 19 (.build [(0, 1), (1, 1), (2, 1)] [.im true [], .im true [], .d (.v (.bool false))] []), .M 20 8, ⟨none, .store 3 (.tmp 6) (.tmp 19), none, false, false⟩, .N 7 20]) (.ret)) (.skip)))) (.sseq (.seq (.reg [] [] [.M 21 2, .T 22 (.bin .lss (.tmp 21) (cI 0)), .M 23 22, .MG 24 23 false 2, .TG 25 23 false (.bin .gtr (.tmp 24) (cI 4096)), .K 26 (.pick (.tmp 23) (.const (.bool true)) (.tmp 25))]) (.cond (.tmp 26) (some 26) (.seq (.reg [] [(6, 4095)] [.T 27 (.build [(0, 1), (1, 1), (2, 1)] [.im true [], .im true [], .d (.v (.bool false))] []), ⟨none, .store 3 (.tmp 6) (.tmp 27), none, false, false⟩, .K 7 (.mv (cI 1))]) (.ret)) (.skip))) (.sseq (.reg [] [(9, 2)] [.M 28 1, ⟨some (29, false), .call 58 [.tmp 28], none, false, true⟩, .T 30 (.build [(0, 1), (1, 1), (2, 1)] [.im true [], .im true [], .d (.v (.bool false))] [(1, .tmp 29)]), .K 9 (.alloc [.im true [], .im true [], .d (.v (.bool false))] 3), ⟨none, .store 3 (.tmp 9) (.tmp 30), none, false, false⟩]) (.loop qpF9))))
theorem is24 : IsF C 24 76 36895739964480045007 c24 [.cell 6 44, .tmp 7] := ⟨⟨Tryd.f24, _, C_P ▸ Tryd.func24, rfl, rfl, rfl, by kernel_rfl, rfl⟩⟩
def qid9 (s0 : System) (s1 : List Int) (s2 : Int) (s8 : Int) (b3_0 : List Symbol) (b3_1 : List Rule) (b6_0 : List Redex) (b6_1 : List Int) (b6_2 : Bool) (b9_2 : Bool) (g1 : AHeap) : (List Int) × (List Redex) → Nat × AHeap → St := fun (b9_1, o9_0) (v9_0, gt) => ⟨[(0, .d (.ag (qg9 s0))), (1, .d (.rd (s1.map intD))), (2, PI s2), (3, .ptr 0 0 0 0), (6, .ptr 1 0 0 0), (7, PI 0), (8, PI s8), (9, .ptr (g1.length + 2) 0 0 0)], (.row false 0 2 [[.d (.rd (b3_0.map qb9)), .d (.rd (b3_1.map qd9))]] :: (.row false 0 3 [[.d (.rd (b6_0.map qo9)), .d (.rd (b6_1.map intD)), PB b6_2]] :: (g1 ++ (.row false 0 3 [[.ref (g1.length + 3) v9_0 0 o9_0.length, .d (.rd (b9_1.map intD)), PB b9_2]] :: (.row false v9_0 2 (rowP qo9 o9_0) :: gt)))))⟩
def qqb9 (s0 : System) (s1 : List Int) (s2 : Int) (s8 : Int) (b3_0 : List Symbol) (b3_1 : List Rule) (b6_0 : List Redex) (b6_1 : List Int) (b6_2 : Bool) (b9_2 : Bool) (g1 : AHeap) : (Walk × Int) → AExit × St → Prop := fun r q => XV C [.cell 6 44, .tmp 7] (.tp [.d (.ag (qP9 r.1)), PI r.2]) q
theorem qpe9 {s0 : System} {s1 : List Int} {s2 : Int} {s8 : Int} {b3_0 : List Symbol} {b3_1 : List Rule} {b6_0 : List Redex} {b6_1 : List Int} {b6_2 : Bool} {b9_2 : Bool} {g1 : AHeap} : Sim C 36895739964480045007 qpF9 (qbY9 s0 s1 s2 s8 b3_0 b3_1 b6_0 b6_1 b6_2 b9_2) (qid9 s0 s1 s2 s8 b3_0 b3_1 b6_0 b6_1 b6_2 b9_2 g1) (qqb9 s0 s1 s2 s8 b3_0 b3_1 b6_0 b6_1 b6_2 b9_2 g1) := by
  intro s g r hr
  obtain ⟨b9_1, o9_0⟩ := s
  obtain ⟨v9_0, gt⟩ := g
  simp only [qbY9] at hr
  rcases iteP hr with ⟨h1, hr⟩ | ⟨h1, hr⟩
  obtain rfl := oiA hr
  refine xv_of ?_
  rotate_left
  obtain ⟨x2, h2, hr⟩ := bsome hr
  have h2k := fun h => (qox9 h2).o rfl rfl rfl (h := h) (args := [.ag [.d (.rd (b3_0.map qb9)), .d (.rd (b3_1.map qd9))], .d (.rd (b9_1.map intD))]) rfl
  try simp only [go_sem] at h2k
  rcases iteB hr with ⟨h3, hr⟩ | ⟨h3, hr⟩
  simp only [h3] at hr
  rcases iteP hr with ⟨h4, hr⟩ | ⟨h4, hr⟩
  obtain rfl := oiA hr
  refine xv_of ?_
  rotate_left
  obtain ⟨x3, h5, hr⟩ := bsome hr
  have h5k := fun h => (qnn9 h5).o rfl rfl rfl (h := h) (args := [.ag [.d (.rd (b3_0.map qb9)), .d (.rd (b3_1.map qd9))], .d (.rd (b9_1.map intD)), .ag [PI x2.1.At, PI x2.1.Rule]]) rfl
  try simp only [go_sem] at h5k
  rcases iteP hr with ⟨h6, hr⟩ | ⟨h6, hr⟩
  obtain ⟨h7, hr⟩ := gsome hr
  obtain rfl := oiA hr
  refine ⟨((v9_0 + 1), (gt ++ (.row false 0 2 [[PI x2.1.At, PI x2.1.Rule]] :: []))), ?_⟩
  rotate_left
  obtain rfl := oiA hr
  refine xv_of ?_
  rotate_left
  simp only [h3] at hr
  obtain rfl := oiA hr
  refine xv_of ?_
  rotate_left
  all_goals (simp +decide only [go_sem, qid9, qpF9, *])
theorem qgX9 {a0 : System} {a1 : List Int} {a2 : Int} {r : Walk × Int} (hr : qdk9 a0 a1 a2 = some r) : Res C 24 [.ag (qg9 a0), .rd (a1.map intD), .v (.int .i64 a2)] (.tp [.d (.ag (qP9 r.1)), PI r.2]) := by
  simp only [qdk9] at hr
  obtain ⟨x1, h1, hr⟩ := bsome hr
  have h1k := fun h => (qln9 h1).o rfl rfl rfl (h := h) (args := [.ag [.d (.rd (a0.Sig.map qb9)), .d (.rd (a0.Rules.map qd9))], .d (.rd (a1.map intD))]) rfl
  try simp only [go_sem] at h1k
  rcases iteP hr with ⟨h2, hr⟩ | ⟨h2, hr⟩
  rcases iteP hr with ⟨h3, hr⟩ | ⟨h3, hr⟩
  obtain rfl := oiA hr
  refine run_V is24 (nbA rfl) ?_
  rotate_left
  rcases iteP hr with ⟨h4, hr⟩ | ⟨h4, hr⟩
  obtain rfl := oiA hr
  refine run_V is24 (nbA rfl) ?_
  rotate_left
  obtain ⟨h5, hr⟩ := gsome hr
  obtain ⟨x4, h6, hr⟩ := bsome hr
  obtain ⟨q6, h6L, h6X⟩ := (qpe9 (g1 := (.row true 0 1 (rowP intD a1) :: []))).L (g := (0, [])) h6
  have ⟨x5, hq6⟩ : ∃ y, y = x4 := ⟨_, rfl⟩
  subst hq6
  try dsimp only at hr
  obtain ⟨st6, rfl, h6R⟩ := h6X
  simp only [qid9, go_sem] at h6L
  obtain rfl := oiA hr
  refine run_V is24 (nbA rfl) ?_
  rotate_left
  obtain rfl := oiA hr
  refine run_V is24 (nbA rfl) ?_
  rotate_left
  all_goals (simp +decide only [go_sem, c24, *])
def qoV9 : ACode := .seq (.reg [] [] [.K 28 (.bin .lss (.tmp 27) (.tmp 26))]) (.seq (.cond (.tmp 28) (some 28) (.skip) (.exit 0)) (.seq (.block 1 1099780078592 (.seq (.reg [] [] [.M 29 27, .T 30 (.ix 2 (.tmp 25) (.tmp 27)), .T 31 (.load (some 2) (.tmp 30)), .K 11 (.alloc [.d (.v (.int .i64 0)), .d (.v (.int .i64 0))] 2), .N 10 29, ⟨none, .store 2 (.tmp 11) (.tmp 31), none, false, false⟩]) (.seq (.reg [] [] [.T 33 (.load (some 2) (.tmp 3)), .M 34 1, .T 35 (.load (some 2) (.tmp 11)), .T 36 (.call 18 [.tmp 33, .tmp 34, .tmp 35]), .M 32 36, .T 37 (.ext (.tmp 32) 0), .T 38 (.ext (.tmp 32) 1), .N 12 37, .N 13 38]) (.seq (.seq (.reg [] [] [.M 39 13, .K 40 (.bin .neq (.tmp 39) (cI 0))]) (.cond (.tmp 40) (some 40) (.seq (.reg [] [(6, 0)] [.M 41 13, .M 42 10, .K 6 (.mv (.const (.slice none 0 0))), .N 7 41, .N 8 42]) (.ret)) (.skip))) (.reg [] [] [.M 43 12, .N 1 43]))))) (.reg [] [] [.T 44 (.bin .add (.tmp 27) (cI 1)), .N 27 44])))
def c25 : ACode := .seq (.reg [] [(6, 0)] [.K 3 (.box (.tmp 0)), .K 6 (.mv (.const (.slice none 0 0))), .K 7 (.mv (cI 0)), .K 8 (.mv (cI 0))]) (.seq (.seq (.reg [] [] [.T 14 (.load (some 2) (.tmp 3)), .M 15 1, .T 16 (.call 57 [.tmp 14, .tmp 15]), .N 9 16]) (.seq (.reg [] [] [.M 17 9, .K 18 (.bin .neq (.tmp 17) (cI 0))]) (.cond (.tmp 18) (some 18) (.seq (.reg [] [(6, 0)] [.M 19 9, .K 6 (.mv (.const (.slice none 0 0))), .N 7 19, .K 8 (.mv (cI 0))]) (.ret)) (.skip)))) (.seq (.seq (.reg [] [] [.M 20 1, .T 21 (.len (.tmp 20)), .K 22 (.bin .gtr (.tmp 21) (cI 512))]) (.cond (.tmp 22) (some 22) (.seq (.reg [] [(6, 0)] [.K 6 (.mv (.const (.slice none 0 0))), .K 7 (.mv (cI 2)), .K 8 (.mv (cI 0))]) (.ret)) (.skip))) (.seq (.reg [] [(1, 0)] [.M 23 1, .T 24 (.call 58 [.tmp 23]), .N 1 24]) (.seq (.seq (.reg [] [] [.N 25 2, .K 26 (.len (.tmp 25)), .K 27 (.mv (cI 0))]) (.block 0 1099780078592 (.loop qoV9))) (.seq (.reg [] [] [.M 45 1, .N 6 45, .K 7 (.mv (cI 0)), .K 8 (.mv (cI 0))]) (.ret))))))
theorem is25 : IsF C 25 46 1100019417039 c25 [.tmp 6, .tmp 7, .tmp 8] := ⟨⟨Tryd.f25, _, C_P ▸ Tryd.func25, rfl, rfl, rfl, by kernel_rfl, rfl⟩⟩
def qex9 (s0 : System) (s2 : List Redex) (s6 : List Int) (s9 : Int) (s25 : List Redex) (s26 : Int) (b3_0 : List Symbol) (b3_1 : List Rule) (g1 : AHeap) : (List Int) × Int → AHeap → St := fun (s1, s27) gt => ⟨[(0, .d (.ag (qg9 s0))), (1, .d (.rd (s1.map intD))), (2, .d (.rd (s2.map qo9))), (3, .ptr 0 0 0 0), (6, .d (.rd (s6.map intD))), (7, PI 0), (8, PI 0), (9, PI s9), (25, .d (.rd (s25.map qo9))), (26, PI s26), (27, PI s27)], (.row false 0 2 [[.d (.rd (b3_0.map qb9)), .d (.rd (b3_1.map qd9))]] :: (g1 ++ gt))⟩
def qnR9 (s0 : System) (s2 : List Redex) (s6 : List Int) (s9 : Int) (s25 : List Redex) (s26 : Int) (b3_0 : List Symbol) (b3_1 : List Rule) (g1 : AHeap) : (((List Int) × Int × Int) ⊕ ((List Int) × Int)) → AExit × St → Prop
  | .inl r, q => XV C [.tmp 6, .tmp 7, .tmp 8] (.tp [.d (.rd (r.1.map intD)), PI r.2.1, PI r.2.2]) q
  | .inr (s1, s27), q => ∃ g, q = (.exit 0, qex9 s0 s2 s6 s9 s25 s26 b3_0 b3_1 g1 (s1, s27) g)
theorem qnU9 {s0 : System} {s2 : List Redex} {s6 : List Int} {s9 : Int} {s25 : List Redex} {s26 : Int} {b3_0 : List Symbol} {b3_1 : List Rule} {g1 : AHeap} : Sim C 1100019417039 qoV9 (qcg9 s0 s2 s6 s9 s25 s26 b3_0 b3_1) (qex9 s0 s2 s6 s9 s25 s26 b3_0 b3_1 g1) (qnR9 s0 s2 s6 s9 s25 s26 b3_0 b3_1 g1) := by
  intro s g r hr
  obtain ⟨s1, s27⟩ := s
  have ⟨gt, hg0⟩ : ∃ y, y = g := ⟨_, rfl⟩
  subst hg0
  simp only [qcg9] at hr
  rcases iteP hr with ⟨h1, hr⟩ | ⟨h1, hr⟩
  obtain ⟨x2, h2, x3, h3, hr⟩ := bs2 hr
  have h3k := fun h => (qnn9 h3).o rfl rfl rfl (h := h) (args := [.ag [.d (.rd (b3_0.map qb9)), .d (.rd (b3_1.map qd9))], .d (.rd (s1.map intD)), .ag [PI x2.At, PI x2.Rule]]) rfl
  try simp only [go_sem] at h3k
  rcases iteP hr with ⟨h4, hr⟩ | ⟨h4, hr⟩
  obtain rfl := oiA hr
  refine ⟨(gt ++ (.row false 0 2 [[PI x2.At, PI x2.Rule]] :: [])), ?_⟩
  rotate_left
  obtain rfl := oiA hr
  refine xv_of ?_
  rotate_left
  obtain rfl := oiA hr
  refine xe_of ⟨gt, rfl⟩ ?_
  rotate_left
  all_goals (simp +decide only [go_sem, qex9, qoV9, *])
theorem qjH9 {a0 : System} {a1 : List Int} {a2 : List Redex} {r : (List Int) × Int × Int} (hr : qdI9 a0 a1 a2 = some r) : Res C 25 [.ag (qg9 a0), .rd (a1.map intD), .rd (a2.map qo9)] (.tp [.d (.rd (r.1.map intD)), PI r.2.1, PI r.2.2]) := by
  simp only [qdI9] at hr
  obtain ⟨x1, h1, hr⟩ := bsome hr
  have h1k := fun h => (qln9 h1).o rfl rfl rfl (h := h) (args := [.ag [.d (.rd (a0.Sig.map qb9)), .d (.rd (a0.Rules.map qd9))], .d (.rd (a1.map intD))]) rfl
  try simp only [go_sem] at h1k
  rcases iteP hr with ⟨h2, hr⟩ | ⟨h2, hr⟩
  rcases iteP hr with ⟨h3, hr⟩ | ⟨h3, hr⟩
  obtain rfl := oiA hr
  refine run_V is25 (nbA rfl) ?_
  rotate_left
  obtain ⟨h4, hr⟩ := gsome hr
  obtain ⟨x4, h5, hr⟩ := bsome hr
  obtain ⟨q5, h5L, h5X⟩ := (qnU9 (g1 := (.row true 0 1 (rowP intD a1) :: []))).L (g := []) h5
  rcases x4 with x5 | ⟨x6, x7⟩
  try dsimp only at hr
  obtain ⟨st5, rfl, h5R⟩ := h5X
  simp only [qex9, go_sem] at h5L
  obtain rfl := oiA hr
  refine run_V is25 (nbA rfl) ?_
  rotate_left
  try dsimp only at hr
  obtain ⟨z8, rfl⟩ := h5X
  simp only [qex9, go_sem] at h5L
  obtain rfl := oiA hr
  refine run_V is25 (nbA rfl) ?_
  rotate_left
  obtain rfl := oiA hr
  refine run_V is25 (nbA rfl) ?_
  rotate_left
  all_goals (simp +decide only [go_sem, c25, *])
def qqf9 : ACode := .seq (.seq (.reg [] [] [.M 11 5, .M 12 0, .T 13 (.len (.tmp 12)), .K 14 (.bin .lss (.tmp 11) (.tmp 13))]) (.cond (.tmp 14) (some 14) (.skip) (.exit 0))) (.seq (.block 1 33570816 (.seq (.reg [] [] [.M 17 0, .M 18 5, ⟨some (19, false), .ix 1 (.tmp 17) (.tmp 18), none, true, false⟩, ⟨some (20, false), .load none (.tmp 19), none, true, false⟩, .M 21 1, .M 22 5, ⟨some (23, false), .ix 1 (.tmp 21) (.tmp 22), none, true, false⟩, ⟨some (24, false), .load none (.tmp 23), none, true, false⟩, .K 25 (.bin .neq (.tmp 20) (.tmp 24))]) (.cond (.tmp 25) (some 25) (.seq (.reg [] [] [.K 4 (.mv (.const (.bool false)))]) (.ret)) (.skip)))) (.reg [] [] [.M 15 5, .T 16 (.bin .add (.tmp 15) (cI 1)), .N 5 16]))
def c26 : ACode := .seq (.reg [] [] [.K 4 (.mv (.const (.bool false)))]) (.seq (.seq (.reg [] [] [.M 6 0, .T 7 (.len (.tmp 6)), .M 8 1, .T 9 (.len (.tmp 8)), .K 10 (.bin .neq (.tmp 7) (.tmp 9))]) (.cond (.tmp 10) (some 10) (.seq (.reg [] [] [.K 4 (.mv (.const (.bool false)))]) (.ret)) (.skip))) (.seq (.seq (.reg [] [] [.K 5 (.mv (cI 0))]) (.block 0 33570816 (.loop qqf9))) (.seq (.reg [] [] [.K 4 (.mv (.const (.bool true)))]) (.ret))))
theorem is26 : IsF C 26 26 33571891 c26 [.tmp 4] := ⟨⟨Tryd.f26, _, C_P ▸ Tryd.func26, rfl, rfl, rfl, by kernel_rfl, rfl⟩⟩
def qdX9 (s0 : List Int) (s1 : List Int) : Int → Unit → St := fun s5 _ => ⟨[(0, .d (.rd (s0.map intD))), (1, .d (.rd (s1.map intD))), (4, PB false), (5, PI s5)], []⟩
def qmu9 (s0 : List Int) (s1 : List Int) : (Bool ⊕ Int) → AExit × St → Prop
  | .inl r, q => XV C [.tmp 4] (PB r) q
  | .inr s5, q => ∃ g, q = (.exit 0, qdX9 s0 s1 s5 g)
theorem qmK9 {s0 : List Int} {s1 : List Int} : Sim C 33571891 qqf9 (qfd9 s0 s1) (qdX9 s0 s1) (qmu9 s0 s1) := by
  intro s g r hr
  have ⟨s5, hs0⟩ : ∃ y, y = s := ⟨_, rfl⟩
  subst hs0
  simp only [qfd9] at hr
  rcases iteP hr with ⟨h1, hr⟩ | ⟨h1, hr⟩
  obtain ⟨x1, h2, x2, h3, hr⟩ := bs2 hr
  rcases iteP hr with ⟨h4, hr⟩ | ⟨h4, hr⟩
  obtain rfl := oiA hr
  refine ⟨(), ?_⟩
  rotate_left
  obtain rfl := oiA hr
  refine xv_of ?_
  rotate_left
  obtain rfl := oiA hr
  refine xe_of ⟨(), rfl⟩ ?_
  rotate_left
  all_goals (simp +decide only [go_sem, qdX9, qqf9, *])
theorem qhA9 {a0 : List Int} {a1 : List Int} {r : Bool} (hr : qdP9 a0 a1 = some r) : Res C 26 [.rd (a0.map intD), .rd (a1.map intD)] (PB r) := by
  simp only [qdP9] at hr
  rcases iteP hr with ⟨h1, hr⟩ | ⟨h1, hr⟩
  obtain ⟨x3, h2, hr⟩ := bsome hr
  obtain ⟨q2, h2L, h2X⟩ := qmK9.L (g := ()) h2
  rcases x3 with x4 | x5
  try dsimp only at hr
  obtain ⟨st2, rfl, h2R⟩ := h2X
  simp only [qdX9, go_sem] at h2L
  obtain rfl := oiA hr
  refine run_V is26 (nbA rfl) ?_
  rotate_left
  try dsimp only at hr
  obtain ⟨⟨⟩, rfl⟩ := h2X
  simp only [qdX9, go_sem] at h2L
  obtain rfl := oiA hr
  refine run_V is26 (nbA rfl) ?_
  rotate_left
  obtain rfl := oiA hr
  refine run_V is26 (nbA rfl) ?_
  rotate_left
  all_goals (simp +decide only [go_sem, c26, *])
def qpZ9 : ACode := .seq (.seq (.reg [] [] [.M 30 6, .T 31 (.fa 0 (.tmp 2)), .T 32 (.load none (.tmp 31)), .T 33 (.len (.tmp 32)), .K 34 (.bin .lss (.tmp 30) (.tmp 33))]) (.cond (.tmp 34) (some 34) (.skip) (.exit 0))) (.seq (.block 1 140754668224512 (.seq (.reg [] [] [.T 37 (.fa 0 (.tmp 2)), ⟨some (38, false), .load none (.tmp 37), none, true, false⟩, .M 39 6, ⟨some (40, false), .ix 2 (.tmp 38) (.tmp 39), none, true, false⟩, ⟨some (41, false), .load (some 2) (.tmp 40), none, true, false⟩, .T 42 (.fa 0 (.tmp 3)), ⟨some (43, false), .load none (.tmp 42), none, true, false⟩, .M 44 6, ⟨some (45, false), .ix 2 (.tmp 43) (.tmp 44), none, true, false⟩, ⟨some (46, false), .load (some 2) (.tmp 45), none, true, false⟩, .K 47 (.raw ({ dst := some 47, op := Go.Op.binOp Go.BinOp.neq 33 (.tmp 41) (.tmp 46) 33, type := 4, pos := "law.go:52", after := #[{ on := 4, ground := Go.Ground.data }, { on := 9, ground := Go.Ground.data }], guard := none }))]) (.cond (.tmp 47) (some 47) (.seq (.reg [] [] [.K 4 (.mv (.const (.bool false)))]) (.ret)) (.skip)))) (.reg [] [] [.M 35 6, .T 36 (.bin .add (.tmp 35) (cI 1)), .N 6 36]))
def c53 : ACode := .seq (.reg [] [] [.K 2 (.box (.tmp 0)), .K 3 (.box (.tmp 1)), .K 4 (.mv (.const (.bool false)))]) (.seq (.reg [] [] [.T 7 (.fa 1 (.tmp 2)), .T 8 (.load none (.tmp 7)), .T 9 (.fa 1 (.tmp 3)), .T 10 (.load none (.tmp 9)), .T 11 (.call 26 [.tmp 8, .tmp 10]), .N 5 11]) (.seq (.seq (.reg [] [] [.M 12 5, .T 13 (.not (.tmp 12)), .M 14 13, .TG 15 14 false (.fa 0 (.tmp 2)), .TG 16 14 false (.load none (.tmp 15)), .TG 17 14 false (.len (.tmp 16)), .TG 18 14 false (.fa 0 (.tmp 3)), .TG 19 14 false (.load none (.tmp 18)), .TG 20 14 false (.len (.tmp 19)), .TG 21 14 false (.bin .neq (.tmp 17) (.tmp 20)), .T 22 (.pick (.tmp 14) (.const (.bool true)) (.tmp 21)), .M 23 22, .TG 24 23 false (.fa 2 (.tmp 2)), .TG 25 23 false (.load none (.tmp 24)), .TG 26 23 false (.fa 2 (.tmp 3)), .TG 27 23 false (.load none (.tmp 26)), .TG 28 23 false (.binB .neq (.tmp 25) (.tmp 27)), .K 29 (.pick (.tmp 23) (.const (.bool true)) (.tmp 28))]) (.cond (.tmp 29) (some 29) (.seq (.reg [] [] [.K 4 (.mv (.const (.bool false)))]) (.ret)) (.skip))) (.seq (.seq (.reg [] [] [.K 6 (.mv (cI 0))]) (.block 0 140754668224512 (.loop qpZ9))) (.seq (.reg [] [] [.K 4 (.mv (.const (.bool true)))]) (.ret)))))
theorem is53 : IsF C 53 48 140755205095551 c53 [.tmp 4] := ⟨⟨Tryd.f53, _, C_P ▸ Tryd.func53, rfl, rfl, rfl, by kernel_rfl, rfl⟩⟩
def qfE9 (s0 : Walk) (s1 : Walk) (s5 : Bool) (b2_0 : List Redex) (b2_1 : List Int) (b2_2 : Bool) (b3_0 : List Redex) (b3_1 : List Int) (b3_2 : Bool) : Int → Unit → St := fun s6 _ => ⟨[(0, .d (.ag (qP9 s0))), (1, .d (.ag (qP9 s1))), (2, .ptr 0 0 0 0), (3, .ptr 1 0 0 0), (4, PB false), (5, PB s5), (6, PI s6)], (.row false 0 3 [[.d (.rd (b2_0.map qo9)), .d (.rd (b2_1.map intD)), PB b2_2]] :: (.row false 0 3 [[.d (.rd (b3_0.map qo9)), .d (.rd (b3_1.map intD)), PB b3_2]] :: []))⟩
def qqV9 (s0 : Walk) (s1 : Walk) (s5 : Bool) (b2_0 : List Redex) (b2_1 : List Int) (b2_2 : Bool) (b3_0 : List Redex) (b3_1 : List Int) (b3_2 : Bool) : (Bool ⊕ Int) → AExit × St → Prop
  | .inl r, q => XV C [.tmp 4] (PB r) q
  | .inr s6, q => ∃ g, q = (.exit 0, qfE9 s0 s1 s5 b2_0 b2_1 b2_2 b3_0 b3_1 b3_2 s6 g)
theorem qqC9 {s0 : Walk} {s1 : Walk} {s5 : Bool} {b2_0 : List Redex} {b2_1 : List Int} {b2_2 : Bool} {b3_0 : List Redex} {b3_1 : List Int} {b3_2 : Bool} : Sim C 140755205095551 qpZ9 (qfz9 s0 s1 s5 b2_0 b2_1 b2_2 b3_0 b3_1 b3_2) (qfE9 s0 s1 s5 b2_0 b2_1 b2_2 b3_0 b3_1 b3_2) (qqV9 s0 s1 s5 b2_0 b2_1 b2_2 b3_0 b3_1 b3_2) := by
  intro s g r hr
  have ⟨s6, hs0⟩ : ∃ y, y = s := ⟨_, rfl⟩
  subst hs0
  simp only [qfz9] at hr
  rcases iteP hr with ⟨h1, hr⟩ | ⟨h1, hr⟩
  obtain ⟨x2, h2, x3, h3, hr⟩ := bs2 hr
  rcases iteB hr with ⟨h4, hr⟩ | ⟨h4, hr⟩
  obtain rfl := oiA hr
  refine ⟨(), ?_⟩
  rotate_left
  obtain rfl := oiA hr
  refine xv_of ?_
  rotate_left
  obtain rfl := oiA hr
  refine xe_of ⟨(), rfl⟩ ?_
  rotate_left
  all_goals (simp +decide only [go_sem, qfE9, qpZ9, *])
theorem qlQ9 {a0 : Walk} {a1 : Walk} {r : Bool} (hr : qeN9 a0 a1 = some r) : Res C 53 [.ag (qP9 a0), .ag (qP9 a1)] (PB r) := by
  simp only [qeN9] at hr
  obtain ⟨x1, h1, hr⟩ := bsome hr
  have h1k := (qhA9 h1).k rfl rfl rfl
  try simp only [go_sem] at h1k
  rcases iteB hr with ⟨h2, hr⟩ | ⟨h2, hr⟩
  simp only [h2] at hr
  rcases iteP hr with ⟨h3, hr⟩ | ⟨h3, hr⟩
  rcases iteB hr with ⟨h4, hr⟩ | ⟨h4, hr⟩
  obtain rfl := oiA hr
  refine run_V is53 (nbA rfl) ?_
  rotate_left
  obtain ⟨x4, h5, hr⟩ := bsome hr
  obtain ⟨q5, h5L, h5X⟩ := qqC9.L (g := ()) h5
  rcases x4 with x5 | x6
  try dsimp only at hr
  obtain ⟨st5, rfl, h5R⟩ := h5X
  simp only [qfE9, go_sem] at h5L
  obtain rfl := oiA hr
  refine run_V is53 (nbA rfl) ?_
  rotate_left
  try dsimp only at hr
  obtain ⟨⟨⟩, rfl⟩ := h5X
  simp only [qfE9, go_sem] at h5L
  obtain rfl := oiA hr
  refine run_V is53 (nbA rfl) ?_
  rotate_left
  obtain rfl := oiA hr
  refine run_V is53 (nbA rfl) ?_
  rotate_left
  obtain rfl := oiA hr
  refine run_V is53 (nbA rfl) ?_
  rotate_left
  all_goals (simp +decide only [go_sem, c53, *])
def c20 : ACode := .seq (.reg [] [] [.K 0 (.mv (.const (.bool false)))]) (.seq (.reg [] [] [.T 16 (.call 52 []), .K 1 (.alloc [.im true [], .im true []] 2), ⟨none, .store 2 (.tmp 1) (.tmp 16), none, false, false⟩]) (.seq (.reg [] [(2, 0)] [.T 17 (.lit 1 [(0, .const (.int .i64 2)), (1, .const (.int .i64 1)), (2, .const (.int .i64 0)), (3, .const (.int .i64 1)), (4, .const (.int .i64 0))]), .N 2 17]) (.seq (.reg [] [] [.T 19 (.load (some 2) (.tmp 1)), .M 20 2, .T 21 (.call 24 [.tmp 19, .tmp 20, .const (.int .i64 9)]), .M 18 21, .T 22 (.ext (.tmp 18) 0), .T 23 (.ext (.tmp 18) 1), .K 3 (.alloc [.im true [], .im true [], .d (.v (.bool false))] 3), ⟨none, .store 3 (.tmp 3) (.tmp 22), none, false, false⟩, .N 4 23]) (.seq (.reg [] [] [.T 25 (.load (some 2) (.tmp 1)), .M 26 2, .T 27 (.call 24 [.tmp 25, .tmp 26, .const (.int .i64 1)]), .M 24 27, .T 28 (.ext (.tmp 24) 0), .T 29 (.ext (.tmp 24) 1), .K 5 (.alloc [.im true [], .im true [], .d (.v (.bool false))] 3), ⟨none, .store 3 (.tmp 5) (.tmp 28), none, false, false⟩, .N 6 29]) (.seq (.reg [] [] [.T 31 (.load (some 2) (.tmp 1)), .M 32 2, .T 33 (.build [(0, 1), (1, 1)] [.d (.v (.int .i64 0)), .d (.v (.int .i64 0))] [(0, .const (.int .i64 0)), (1, .const (.int .i64 1))]), .T 34 (.build [(0, 1), (1, 1)] [.d (.v (.int .i64 0)), .d (.v (.int .i64 0))] [(0, .const (.int .i64 1)), (1, .const (.int .i64 0))]), .T 35 (.lit 2 [(0, .tmp 33), (1, .tmp 34)]), .T 36 (.call 25 [.tmp 31, .tmp 32, .tmp 35]), .M 30 36, .T 37 (.ext (.tmp 30) 0), .T 38 (.ext (.tmp 30) 1), .T 39 (.ext (.tmp 30) 2), .N 7 37, .N 8 38, .N 9 39]) (.seq (.reg [] [] [.T 41 (.load (some 2) (.tmp 1)), .M 42 2, .T 43 (.build [(0, 1), (1, 1)] [.d (.v (.int .i64 0)), .d (.v (.int .i64 0))] [(0, .const (.int .i64 0)), (1, .const (.int .i64 0))]), .T 44 (.lit 2 [(0, .tmp 43)]), .T 45 (.call 25 [.tmp 41, .tmp 42, .tmp 44]), .M 40 45, .T 46 (.ext (.tmp 40) 0), .T 47 (.ext (.tmp 40) 1), .T 48 (.ext (.tmp 40) 2), .M 10 46, .N 11 47, .N 12 48]) (.seq (.reg [] [] [.T 49 (.load (some 3) (.tmp 3)), .T 50 (.build [(0, 1), (1, 1)] [.d (.v (.int .i64 0)), .d (.v (.int .i64 0))] [(0, .const (.int .i64 0)), (1, .const (.int .i64 1))]), .T 51 (.build [(0, 1), (1, 1)] [.d (.v (.int .i64 0)), .d (.v (.int .i64 0))] [(0, .const (.int .i64 1)), (1, .const (.int .i64 0))]), ⟨some (52, false), .lit 2 [(0, .tmp 50), (1, .tmp 51)], none, false, true⟩, ⟨some (53, false), .lit 1 [(0, .const (.int .i64 1)), (1, .const (.int .i64 1)), (2, .const (.int .i64 0))], none, false, true⟩, .T 54 (.build [(0, 1), (1, 1), (2, 1)] [.im true [], .im true [], .d (.v (.bool false))] [(0, .tmp 52), (1, .tmp 53), (2, .const (.bool true))]), .T 55 (.call 53 [.tmp 49, .tmp 54]), .N 13 55]) (.seq (.reg [] [] [.T 56 (.load (some 3) (.tmp 5)), .T 57 (.build [(0, 1), (1, 1)] [.d (.v (.int .i64 0)), .d (.v (.int .i64 0))] [(0, .const (.int .i64 0)), (1, .const (.int .i64 1))]), ⟨some (58, false), .lit 2 [(0, .tmp 57)], none, false, true⟩, ⟨some (59, false), .lit 1 [(0, .const (.int .i64 1)), (1, .const (.int .i64 2)), (2, .const (.int .i64 0)), (3, .const (.int .i64 1)), (4, .const (.int .i64 0))], none, false, true⟩, .T 60 (.build [(0, 1), (1, 1), (2, 1)] [.im true [], .im true [], .d (.v (.bool false))] [(0, .tmp 58), (1, .tmp 59)]), .T 61 (.call 53 [.tmp 56, .tmp 60]), .N 14 61]) (.seq (.reg [] [] [.M 62 7, .T 63 (.lit 1 [(0, .const (.int .i64 1)), (1, .const (.int .i64 1)), (2, .const (.int .i64 0))]), .T 64 (.call 26 [.tmp 62, .tmp 63]), .N 15 64]) (.seq (.reg [] [] [.M 65 13, .M 66 65, .MG 67 66 true 14, .T 68 (.pick (.tmp 66) (.tmp 67) (.const (.bool false))), .M 69 68, .MG 70 69 true 15, .T 71 (.pick (.tmp 69) (.tmp 70) (.const (.bool false))), .M 72 71, .MG 73 72 true 4, .TG 74 72 true (.bin .eql (.tmp 73) (cI 0)), .T 75 (.pick (.tmp 72) (.tmp 74) (.const (.bool false))), .M 76 75, .MG 77 76 true 6, .TG 78 76 true (.bin .eql (.tmp 77) (cI 0)), .T 79 (.pick (.tmp 76) (.tmp 78) (.const (.bool false))), .M 80 79, .MG 81 80 true 8, .TG 82 80 true (.bin .eql (.tmp 81) (cI 0)), .T 83 (.pick (.tmp 80) (.tmp 82) (.const (.bool false))), .M 84 83, .MG 85 84 true 9, .TG 86 84 true (.bin .eql (.tmp 85) (cI 0)), .T 87 (.pick (.tmp 84) (.tmp 86) (.const (.bool false))), .M 88 87, .MG 89 88 true 11, .TG 90 88 true (.bin .eql (.tmp 89) (cI 80)), .T 91 (.pick (.tmp 88) (.tmp 90) (.const (.bool false))), .M 92 91, .MG 93 92 true 12, .TG 94 92 true (.bin .eql (.tmp 93) (cI 0)), .T 95 (.pick (.tmp 92) (.tmp 94) (.const (.bool false))), .N 0 95]) (.ret)))))))))))
theorem is20 : IsF C 20 96 64511 c20 [.tmp 0] := ⟨⟨Tryd.f20, _, C_P ▸ Tryd.func20, rfl, rfl, rfl, by kernel_rfl, rfl⟩⟩
theorem qqB9  {r : Bool} (hr : qhl9 = some r) : Res C 20 [] (PB r) := by
  simp only [qhl9] at hr
  obtain ⟨x1, h1, x2, h2, x3, h3, x4, h4, hr⟩ := bs4 hr
  have h1k := (qtH9 h1).k rfl rfl rfl
  try simp only [go_sem] at h1k
  have h2k := fun h => (qgX9 h2).o rfl rfl rfl (h := h) (args := [.ag [.d (.rd (x1.Sig.map qb9)), .d (.rd (x1.Rules.map qd9))], .d (.rd (([2, 1, 0, 1, 0] : List Int).map intD)), PI 9]) rfl
  try simp only [go_sem] at h2k
  have h3k := fun h => (qgX9 h3).o rfl rfl rfl (h := h) (args := [.ag [.d (.rd (x1.Sig.map qb9)), .d (.rd (x1.Rules.map qd9))], .d (.rd (([2, 1, 0, 1, 0] : List Int).map intD)), PI 1]) rfl
  try simp only [go_sem] at h3k
  have h4k := fun h => (qjH9 h4).o rfl rfl rfl (h := h) (args := [.ag [.d (.rd (x1.Sig.map qb9)), .d (.rd (x1.Rules.map qd9))], .d (.rd (([2, 1, 0, 1, 0] : List Int).map intD)), .im true [[PI 0, PI 1], [PI 1, PI 0]]]) rfl
  try simp only [go_sem] at h4k
  obtain ⟨x5, h5, x6, h6, x7, h7, x8, h8, hr⟩ := bs4 hr
  have h5k := fun h => (qjH9 h5).o rfl rfl rfl (h := h) (args := [.ag [.d (.rd (x1.Sig.map qb9)), .d (.rd (x1.Rules.map qd9))], .d (.rd (([2, 1, 0, 1, 0] : List Int).map intD)), .im true [[PI 0, PI 0]]]) rfl
  try simp only [go_sem] at h5k
  have h6k := fun h => (qlQ9 h6).o rfl rfl rfl (h := h) (args := [.ag [.d (.rd (x2.1.Steps.map qo9)), .d (.rd (x2.1.End.map intD)), PB x2.1.Normal], .ag [.d (.rd (([(Redex.mk 0 1), (Redex.mk 1 0)] : List Redex).map qo9)), .d (.rd (([1, 1, 0] : List Int).map intD)), PB true]]) rfl
  try simp only [go_sem] at h6k
  have h7k := fun h => (qlQ9 h7).o rfl rfl rfl (h := h) (args := [.ag [.d (.rd (x3.1.Steps.map qo9)), .d (.rd (x3.1.End.map intD)), PB x3.1.Normal], .ag [.d (.rd (([(Redex.mk 0 1)] : List Redex).map qo9)), .d (.rd (([1, 2, 0, 1, 0] : List Int).map intD)), PB false]]) rfl
  try simp only [go_sem] at h7k
  have h8k := fun h => (qhA9 h8).o rfl rfl rfl (h := h) (args := [.d (.rd (x4.1.map intD)), .im true [[PI 1], [PI 1], [PI 0]]]) rfl
  try simp only [go_sem] at h8k
  rcases iteB hr with ⟨h9, hr⟩ | ⟨h9, hr⟩
  rcases iteB hr with ⟨h10, hr⟩ | ⟨h10, hr⟩
  rcases iteB hr with ⟨h11, hr⟩ | ⟨h11, hr⟩
  rcases iteP hr with ⟨h12, hr⟩ | ⟨h12, hr⟩
  rcases iteP hr with ⟨h13, hr⟩ | ⟨h13, hr⟩
  rcases iteP hr with ⟨h14, hr⟩ | ⟨h14, hr⟩
  rcases iteP hr with ⟨h15, hr⟩ | ⟨h15, hr⟩
  rcases iteP hr with ⟨h16, hr⟩ | ⟨h16, hr⟩
  obtain rfl := oiA hr
  refine run_V is20 (nbA rfl) ?_
  rotate_left
  obtain rfl := oiA hr
  refine run_V is20 (nbA rfl) ?_
  rotate_left
  obtain rfl := oiA hr
  refine run_V is20 (nbA rfl) ?_
  rotate_left
  obtain rfl := oiA hr
  refine run_V is20 (nbA rfl) ?_
  rotate_left
  obtain rfl := oiA hr
  refine run_V is20 (nbA rfl) ?_
  rotate_left
  obtain rfl := oiA hr
  refine run_V is20 (nbA rfl) ?_
  rotate_left
  obtain rfl := oiA hr
  refine run_V is20 (nbA rfl) ?_
  rotate_left
  obtain rfl := oiA hr
  refine run_V is20 (nbA rfl) ?_
  rotate_left
  obtain rfl := oiA hr
  refine run_V is20 (nbA rfl) ?_
  rotate_left
  all_goals (simp +decide only [go_sem, c20, *])
def lb6_0 : ACode := .seq (.seq (.reg [] [] [.M 79 16, .T 80 (.fa 0 (.tmp 12)), .T 81 (.load none (.tmp 80)), .T 82 (.len (.tmp 81)), .K 83 (.bin .lss (.tmp 79) (.tmp 82))]) (.cond (.tmp 83) (some 83) (.skip) (.exit 0))) (.seq (.block 1 79237833920821254626941599744 (.seq (.reg [] [] [.T 86 (.fa 0 (.tmp 12)), ⟨some (87, false), .load none (.tmp 86), none, true, false⟩, .M 88 16, ⟨some (89, false), .ix 2 (.tmp 87) (.tmp 88), none, true, false⟩, ⟨some (90, false), .load (some 2) (.tmp 89), none, true, false⟩, .T 91 (.fa 0 (.tmp 14)), ⟨some (92, false), .load none (.tmp 91), none, true, false⟩, .M 93 16, ⟨some (94, false), .ix 2 (.tmp 92) (.tmp 93), none, true, false⟩, ⟨some (95, false), .load (some 2) (.tmp 94), none, true, false⟩, .K 96 (.raw ({ dst := some 96, op := Go.Op.binOp Go.BinOp.neq 33 (.tmp 90) (.tmp 95) 33, type := 4, pos := "more.go:26", after := #[{ on := 4, ground := Go.Ground.data }, { on := 9, ground := Go.Ground.data }], guard := none }))]) (.cond (.tmp 96) (some 96) (.seq (.reg [] [] [.K 6 (.mv (.const (.bool false)))]) (.ret)) (.skip)))) (.reg [] [] [.M 84 16, .T 85 (.bin .add (.tmp 84) (cI 1)), .N 16 85]))
def c6 : ACode := .seq (.reg [] [] [.K 3 (.box (.tmp 0)), .K 6 (.mv (.const (.bool false)))]) (.seq (.reg [] [] [.T 20 (.call 20 []), .N 7 20]) (.seq (.reg [] [] [.T 21 (.load (some 2) (.tmp 3)), .T 22 (.call 21 [.tmp 21]), .N 8 22]) (.seq (.reg [] [] [.T 23 (.fa 0 (.tmp 3)), .T 24 (.load none (.tmp 23)), .M 25 1, .T 26 (.call 22 [.tmp 24, .tmp 25]), .N 9 26]) (.seq (.reg [] [] [.M 28 1, .M 29 2, .T 30 (.call 28 [.tmp 28, .tmp 29]), .M 27 30, .T 31 (.ext (.tmp 27) 0), .T 32 (.ext (.tmp 27) 1), .N 10 31, .N 11 32]) (.seq (.seq (.reg [] [] [.M 33 7, .T 34 (.not (.tmp 33)), .M 35 34, .MG 36 35 false 8, .TG 37 35 false (.not (.tmp 36)), .T 38 (.pick (.tmp 35) (.const (.bool true)) (.tmp 37)), .M 39 38, .MG 40 39 false 9, .TG 41 39 false (.bin .neq (.tmp 40) (cI 0)), .T 42 (.pick (.tmp 39) (.const (.bool true)) (.tmp 41)), .M 43 42, .MG 44 43 false 11, .TG 45 43 false (.bin .neq (.tmp 44) (cI 0)), .K 46 (.pick (.tmp 43) (.const (.bool true)) (.tmp 45))]) (.cond (.tmp 46) (some 46) (.seq (.reg [] [] [.M 47 7, .N 6 47]) (.ret)) (.skip))) (.seq (.reg [] [] [.T 49 (.load (some 2) (.tmp 3)), .M 50 1, .T 51 (.call 24 [.tmp 49, .tmp 50, .const (.int .i64 60)]), .M 48 51, .T 52 (.ext (.tmp 48) 0), .T 53 (.ext (.tmp 48) 1), .K 12 (.alloc [.im true [], .im true [], .d (.v (.bool false))] 3), ⟨none, .store 3 (.tmp 12) (.tmp 52), none, false, false⟩, .N 13 53]) (.seq (.reg [] [] [.T 55 (.load (some 2) (.tmp 3)), .M 56 10, .T 57 (.call 24 [.tmp 55, .tmp 56, .const (.int .i64 60)]), .M 54 57, .T 58 (.ext (.tmp 54) 0), .T 59 (.ext (.tmp 54) 1), .K 14 (.alloc [.im true [], .im true [], .d (.v (.bool false))] 3), ⟨none, .store 3 (.tmp 14) (.tmp 58), none, false, false⟩, .N 15 59]) (.seq (.seq (.reg [] [] [.M 60 13, .M 61 15, .T 62 (.bin .neq (.tmp 60) (.tmp 61)), .M 63 62, .TG 64 63 false (.fa 0 (.tmp 12)), .TG 65 63 false (.load none (.tmp 64)), .TG 66 63 false (.len (.tmp 65)), .TG 67 63 false (.fa 0 (.tmp 14)), .TG 68 63 false (.load none (.tmp 67)), .TG 69 63 false (.len (.tmp 68)), .TG 70 63 false (.bin .neq (.tmp 66) (.tmp 69)), .T 71 (.pick (.tmp 63) (.const (.bool true)) (.tmp 70)), .M 72 71, .TG 73 72 false (.fa 2 (.tmp 12)), .TG 74 72 false (.load none (.tmp 73)), .TG 75 72 false (.fa 2 (.tmp 14)), .TG 76 72 false (.load none (.tmp 75)), .TG 77 72 false (.binB .neq (.tmp 74) (.tmp 76)), .K 78 (.pick (.tmp 72) (.const (.bool true)) (.tmp 77))]) (.cond (.tmp 78) (some 78) (.seq (.reg [] [] [.K 6 (.mv (.const (.bool false)))]) (.ret)) (.skip))) (.seq (.seq (.reg [] [] [.K 16 (.mv (cI 0))]) (.block 0 79237833920821254626941599744 (.loop lb6_0))) (.seq (.reg [] [] [.T 98 (.fa 1 (.tmp 12)), .T 99 (.load none (.tmp 98)), .M 100 2, .T 101 (.call 28 [.tmp 99, .tmp 100]), .M 97 101, .T 102 (.ext (.tmp 97) 0), .T 103 (.ext (.tmp 97) 1), .N 17 102, .M 18 103]) (.seq (.reg [] [] [.M 104 17, .T 105 (.fa 1 (.tmp 14)), .T 106 (.load none (.tmp 105)), .T 107 (.call 26 [.tmp 104, .tmp 106]), .N 19 107]) (.seq (.reg [] [] [.M 108 19, .N 6 108]) (.ret)))))))))))))
theorem is6 : IsF C 6 109 79238136152276228652980240335 c6 [.tmp 6] := ⟨⟨Tryd.f6, _, C_P ▸ Tryd.func6, rfl, rfl, rfl, by kernel_rfl, rfl⟩⟩
def qdx9 (s0 : System) (s1 : List Int) (s2 : Int) (s7 : Bool) (s8 : Bool) (s9 : Int) (s10 : List Int) (s11 : Int) (s13 : Int) (s15 : Int) (b3_0 : List Symbol) (b3_1 : List Rule) (b12_0 : List Redex) (b12_1 : List Int) (b12_2 : Bool) (b14_0 : List Redex) (b14_1 : List Int) (b14_2 : Bool) : Int → Unit → St := fun s16 _ => ⟨[(0, .d (.ag (qg9 s0))), (1, .d (.rd (s1.map intD))), (2, PI s2), (3, .ptr 0 0 0 0), (6, PB false), (7, PB s7), (8, PB s8), (9, PI s9), (10, .d (.rd (s10.map intD))), (11, PI s11), (12, .ptr 1 0 0 0), (13, PI s13), (14, .ptr 2 0 0 0), (15, PI s15), (16, PI s16)], (.row false 0 2 [[.d (.rd (b3_0.map qb9)), .d (.rd (b3_1.map qd9))]] :: (.row false 0 3 [[.d (.rd (b12_0.map qo9)), .d (.rd (b12_1.map intD)), PB b12_2]] :: (.row false 0 3 [[.d (.rd (b14_0.map qo9)), .d (.rd (b14_1.map intD)), PB b14_2]] :: [])))⟩
def qkS9 (s0 : System) (s1 : List Int) (s2 : Int) (s7 : Bool) (s8 : Bool) (s9 : Int) (s10 : List Int) (s11 : Int) (s13 : Int) (s15 : Int) (b3_0 : List Symbol) (b3_1 : List Rule) (b12_0 : List Redex) (b12_1 : List Int) (b12_2 : Bool) (b14_0 : List Redex) (b14_1 : List Int) (b14_2 : Bool) : (Bool ⊕ Int) → AExit × St → Prop
  | .inl r, q => XV C [.tmp 6] (PB r) q
  | .inr s16, q => ∃ g, q = (.exit 0, qdx9 s0 s1 s2 s7 s8 s9 s10 s11 s13 s15 b3_0 b3_1 b12_0 b12_1 b12_2 b14_0 b14_1 b14_2 s16 g)
theorem qlj9 {s0 : System} {s1 : List Int} {s2 : Int} {s7 : Bool} {s8 : Bool} {s9 : Int} {s10 : List Int} {s11 : Int} {s13 : Int} {s15 : Int} {b3_0 : List Symbol} {b3_1 : List Rule} {b12_0 : List Redex} {b12_1 : List Int} {b12_2 : Bool} {b14_0 : List Redex} {b14_1 : List Int} {b14_2 : Bool} : Sim C 79238136152276228652980240335 lb6_0 (qbL9 s0 s1 s2 s7 s8 s9 s10 s11 s13 s15 b3_0 b3_1 b12_0 b12_1 b12_2 b14_0 b14_1 b14_2) (qdx9 s0 s1 s2 s7 s8 s9 s10 s11 s13 s15 b3_0 b3_1 b12_0 b12_1 b12_2 b14_0 b14_1 b14_2) (qkS9 s0 s1 s2 s7 s8 s9 s10 s11 s13 s15 b3_0 b3_1 b12_0 b12_1 b12_2 b14_0 b14_1 b14_2) := by
  intro s g r hr
  have ⟨s16, hs0⟩ : ∃ y, y = s := ⟨_, rfl⟩
  subst hs0
  simp only [qbL9] at hr
  rcases iteP hr with ⟨h1, hr⟩ | ⟨h1, hr⟩
  obtain ⟨x7, h2, x8, h3, hr⟩ := bs2 hr
  rcases iteB hr with ⟨h4, hr⟩ | ⟨h4, hr⟩
  obtain rfl := oiA hr
  refine ⟨(), ?_⟩
  rotate_left
  obtain rfl := oiA hr
  refine xv_of ?_
  rotate_left
  obtain rfl := oiA hr
  refine xe_of ⟨(), rfl⟩ ?_
  rotate_left
  all_goals (simp +decide only [go_sem, qdx9, lb6_0, *])
theorem qll9 {a0 : System} {a1 : List Int} {a2 : Int} {r : Bool} (hr : qer9 a0 a1 a2 = some r) : Res C 6 [.ag (qg9 a0), .rd (a1.map intD), .v (.int .i64 a2)] (PB r) := by
  simp only [qer9] at hr
  obtain ⟨x1, h1, x2, h2, x3, h3, x4, h4, hr⟩ := bs4 hr
  have h1k := (qqB9 h1).k rfl rfl rfl
  try simp only [go_sem] at h1k
  have h2k := fun h => (qrb9 h2).o rfl rfl rfl (h := h) (args := [.ag [.d (.rd (a0.Sig.map qb9)), .d (.rd (a0.Rules.map qd9))]]) rfl
  try simp only [go_sem] at h2k
  have h3k := (qqP9 h3).k rfl rfl rfl
  try simp only [go_sem] at h3k
  have h4k := (qkG9 h4).k rfl rfl rfl
  try simp only [go_sem] at h4k
  rcases iteB hr with ⟨h5, hr⟩ | ⟨h5, hr⟩
  simp only [h5] at hr
  rcases iteB hr with ⟨h6, hr⟩ | ⟨h6, hr⟩
  simp only [h6] at hr
  rcases iteP hr with ⟨h7, hr⟩ | ⟨h7, hr⟩
  rcases iteP hr with ⟨h8, hr⟩ | ⟨h8, hr⟩
  obtain ⟨x5, h9, x6, h10, hr⟩ := bs2 hr
  have h9k := fun h => (qgX9 h9).o rfl rfl rfl (h := h) (args := [.ag [.d (.rd (a0.Sig.map qb9)), .d (.rd (a0.Rules.map qd9))], .d (.rd (a1.map intD)), PI 60]) rfl
  try simp only [go_sem] at h9k
  have h10k := fun h => (qgX9 h10).o rfl rfl rfl (h := h) (args := [.ag [.d (.rd (a0.Sig.map qb9)), .d (.rd (a0.Rules.map qd9))], .d (.rd (x4.1.map intD)), PI 60]) rfl
  try simp only [go_sem] at h10k
  rcases iteP hr with ⟨h11, hr⟩ | ⟨h11, hr⟩
  rcases iteP hr with ⟨h12, hr⟩ | ⟨h12, hr⟩
  rcases iteB hr with ⟨h13, hr⟩ | ⟨h13, hr⟩
  obtain rfl := oiA hr
  refine run_V is6 (nbA rfl) ?_
  rotate_left
  obtain ⟨x9, h14, hr⟩ := bsome hr
  obtain ⟨q14, h14L, h14X⟩ := qlj9.L (g := ()) h14
  rcases x9 with x10 | x11
  try dsimp only at hr
  obtain ⟨st14, rfl, h14R⟩ := h14X
  simp only [qdx9, go_sem] at h14L
  obtain rfl := oiA hr
  refine run_V is6 (nbA rfl) ?_
  rotate_left
  try dsimp only at hr
  obtain ⟨⟨⟩, rfl⟩ := h14X
  simp only [qdx9, go_sem] at h14L
  obtain ⟨x12, h15, x13, h16, hr⟩ := bs2 hr
  have h15k := (qkG9 h15).k rfl rfl rfl
  try simp only [go_sem] at h15k
  have h16k := (qhA9 h16).k rfl rfl rfl
  try simp only [go_sem] at h16k
  obtain rfl := oiA hr
  refine run_V is6 (nbA rfl) ?_
  rotate_left
  obtain rfl := oiA hr
  refine run_V is6 (nbA rfl) ?_
  rotate_left
  obtain rfl := oiA hr
  refine run_V is6 (nbA rfl) ?_
  rotate_left
  obtain rfl := oiA hr
  refine run_V is6 (nbA rfl) ?_
  rotate_left
  obtain rfl := oiA hr
  refine run_V is6 (nbA rfl) ?_
  rotate_left
  obtain rfl := oiA hr
  refine run_V is6 (nbA rfl) ?_
  rotate_left
  simp only [h5] at hr
  obtain rfl := oiA hr
  refine run_V is6 (nbA rfl) ?_
  rotate_left
  all_goals (simp +decide only [go_sem, c6, *])
end Ld

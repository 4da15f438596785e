import Derived.Test.YtmkohpkfeamjiaaPQW11
import Derived.Test.YtmkohpkfeamjiaaPQW4
import Derived.Test.YtmkohpkfeamjiaaPQW5
import Derived.Test.YtmkohpkfeamjiaaPQW6
import Derived.Test.YtmkohpkfeamjiaaPQW8
set_option maxHeartbeats 4000000
set_option linter.unusedVariables false
set_option linter.unusedSimpArgs false
namespace Ld
open Go Go.Proofs Go.Abs
set_option maxRecDepth 8000
def c9 : ACode := .seq (.reg [] [] [.K 6 (.mv (.const (.bool false)))]) (.seq (.reg [] [] [.T 24 (.call 12 []), .N 7 24]) (.seq (.seq (.reg [] [] [.M 25 7, .K 26 (.not (.tmp 25))]) (.cond (.tmp 26) (some 26) (.seq (.reg [] [] [.K 6 (.mv (.const (.bool false)))]) (.ret)) (.skip))) (.seq (.reg [] [] [.M 28 0, .M 29 2, .T 30 (.call 28 [.tmp 28, .tmp 29]), .M 27 30, .T 31 (.ext (.tmp 27) 0), .T 32 (.ext (.tmp 27) 1), .N 8 31, .N 9 32]) (.seq (.reg [] [] [.M 34 1, .M 35 2, .T 36 (.call 28 [.tmp 34, .tmp 35]), .M 33 36, .T 37 (.ext (.tmp 33) 0), .T 38 (.ext (.tmp 33) 1), .N 10 37, .N 11 38]) (.seq (.reg [] [] [.M 40 0, .M 41 1, .T 42 (.call 17 [.tmp 40, .tmp 41]), .M 39 42, .T 43 (.ext (.tmp 39) 0), .T 44 (.ext (.tmp 39) 1), .N 12 43, .N 13 44]) (.seq (.reg [] [] [.M 46 0, .M 47 1, .T 48 (.call 24 [.tmp 46, .tmp 47]), .M 45 48, .T 49 (.ext (.tmp 45) 0), .T 50 (.ext (.tmp 45) 1), .N 14 49, .N 15 50]) (.seq (.seq (.reg [] [] [.M 51 9, .T 52 (.bin .neq (.tmp 51) (cI 0)), .M 53 52, .MG 54 53 false 11, .TG 55 53 false (.bin .neq (.tmp 54) (cI 0)), .K 56 (.pick (.tmp 53) (.const (.bool true)) (.tmp 55))]) (.cond (.tmp 56) (some 56) (.seq (.reg [] [] [.M 57 7, .N 6 57]) (.ret)) (.skip))) (.seq (.seq (.reg [] [] [.M 58 13, .K 59 (.bin .eql (.tmp 58) (cI 0))]) (.cond (.tmp 59) (some 59) (.seq (.reg [] [] [.M 61 12, .M 62 2, .T 63 (.call 28 [.tmp 61, .tmp 62]), .M 60 63, .T 64 (.ext (.tmp 60) 0), .T 65 (.ext (.tmp 60) 1), .N 16 64, .N 17 65]) (.seq (.reg [] [] [.M 67 8, .M 68 10, .T 69 (.call 32 [.tmp 67, .tmp 68]), .M 66 69, .T 70 (.ext (.tmp 66) 0), .T 71 (.ext (.tmp 66) 1), .N 18 70, .N 19 71]) (.seq (.reg [] [] [.M 72 17, .T 73 (.bin .eql (.tmp 72) (cI 0)), .M 74 73, .MG 75 74 true 19, .TG 76 74 true (.bin .neq (.tmp 75) (cI 0)), .MG 77 74 true 76, .MG 78 77 false 16, .MG 79 77 false 18, .TG 80 77 false (.call 30 [.tmp 78, .tmp 79]), .TG 81 77 false (.not (.tmp 80)), .TG 82 74 true (.pick (.tmp 77) (.const (.bool true)) (.tmp 81)), .K 83 (.pick (.tmp 74) (.tmp 82) (.const (.bool false)))]) (.cond (.tmp 83) (some 83) (.seq (.reg [] [] [.K 6 (.mv (.const (.bool false)))]) (.ret)) (.skip))))) (.skip))) (.seq (.seq (.reg [] [] [.M 84 15, .K 85 (.bin .eql (.tmp 84) (cI 0))]) (.cond (.tmp 85) (some 85) (.seq (.reg [] [] [.M 87 14, .M 88 2, .T 89 (.call 28 [.tmp 87, .tmp 88]), .M 86 89, .T 90 (.ext (.tmp 86) 0), .T 91 (.ext (.tmp 86) 1), .N 20 90, .N 21 91]) (.seq (.reg [] [] [.M 93 8, .M 94 10, .T 95 (.call 33 [.tmp 93, .tmp 94]), .M 92 95, .T 96 (.ext (.tmp 92) 0), .T 97 (.ext (.tmp 92) 1), .N 22 96, .N 23 97]) (.seq (.reg [] [] [.M 98 21, .T 99 (.bin .eql (.tmp 98) (cI 0)), .M 100 99, .MG 101 100 true 23, .TG 102 100 true (.bin .neq (.tmp 101) (cI 0)), .MG 103 100 true 102, .MG 104 103 false 20, .MG 105 103 false 22, .TG 106 103 false (.call 30 [.tmp 104, .tmp 105]), .TG 107 103 false (.not (.tmp 106)), .TG 108 100 true (.pick (.tmp 103) (.const (.bool true)) (.tmp 107)), .K 109 (.pick (.tmp 100) (.tmp 108) (.const (.bool false)))]) (.cond (.tmp 109) (some 109) (.seq (.reg [] [] [.K 6 (.mv (.const (.bool false)))]) (.ret)) (.skip))))) (.skip))) (.seq (.reg [] [] [.M 110 7, .N 6 110]) (.ret)))))))))))
theorem is9 : IsF C 9 111 649037155673886886669825454636999 c9 [.tmp 6] := ⟨⟨Try.f9, _, C_P ▸ Try.func9, rfl, rfl, rfl, by kernel_rfl, rfl⟩⟩
set_option maxHeartbeats 60000000 in
theorem qmq9 {a0 : List Mono} {a1 : List Mono} {a2 : List (List Int)} {r : Bool} (hr : qgn9 a0 a1 a2 = some r) : Res C 9 [.rd (a0.map qa9), .rd (a1.map qa9), .rd (a2.map (lsD qc9))] (PB r) := by
  simp only [qgn9] at hr
  obtain ⟨x1, h1, hr⟩ := bsome hr
  have h1k := (qjg9 h1).k rfl rfl rfl
  try simp only [go_sem] at h1k
  rcases iteB hr with ⟨h2, hr⟩ | ⟨h2, hr⟩
  simp only [h2] at hr
  obtain ⟨x2, h3, x3, h4, x4, h5, x5, h6, hr⟩ := bs4 hr
  have h3k := (qcp9 h3).k rfl rfl rfl
  try simp only [go_sem] at h3k
  have h4k := (qcp9 h4).k rfl rfl rfl
  try simp only [go_sem] at h4k
  have h5k := (qiu9 h5).k rfl rfl rfl
  try simp only [go_sem] at h5k
  have h6k := (qjI9 h6).k rfl rfl rfl
  try simp only [go_sem] at h6k
  rcases iteP hr with ⟨h7, hr⟩ | ⟨h7, hr⟩
  rcases iteP hr with ⟨h8, hr⟩ | ⟨h8, hr⟩
  rcases iteP hr with ⟨h9, hr⟩ | ⟨h9, hr⟩
  obtain ⟨x6, h10, x7, h11, hr⟩ := bs2 hr
  have h10k := (qcp9 h10).k rfl rfl rfl
  try simp only [go_sem] at h10k
  have h11k := (qko9 h11).k rfl rfl rfl
  try simp only [go_sem] at h11k
  rcases iteP hr with ⟨h12, hr⟩ | ⟨h12, hr⟩
  rcases iteP hr with ⟨h13, hr⟩ | ⟨h13, hr⟩
  obtain ⟨x8, h14, hr⟩ := bsome hr
  have h14k := (qeU9 h14).k rfl rfl rfl
  try simp only [go_sem] at h14k
  rcases iteB hr with ⟨h15, hr⟩ | ⟨h15, hr⟩
  rcases iteP hr with ⟨h16, hr⟩ | ⟨h16, hr⟩
  obtain ⟨x9, h17, x10, h18, hr⟩ := bs2 hr
  have h17k := (qcp9 h17).k rfl rfl rfl
  try simp only [go_sem] at h17k
  have h18k := (qii9 h18).k rfl rfl rfl
  try simp only [go_sem] at h18k
  rcases iteP hr with ⟨h19, hr⟩ | ⟨h19, hr⟩
  rcases iteP hr with ⟨h20, hr⟩ | ⟨h20, hr⟩
  obtain ⟨x11, h21, hr⟩ := bsome hr
  have h21k := (qeU9 h21).k rfl rfl rfl
  try simp only [go_sem] at h21k
  rcases iteB hr with ⟨h22, hr⟩ | ⟨h22, hr⟩
  obtain rfl := oiA hr
  refine run_V is9 (nbA rfl) ?_
  rotate_left
  obtain rfl := oiA hr
  refine run_V is9 (nbA rfl) ?_
  rotate_left
  obtain rfl := oiA hr
  refine run_V is9 (nbA rfl) ?_
  rotate_left
  obtain rfl := oiA hr
  refine run_V is9 (nbA rfl) ?_
  rotate_left
  obtain rfl := oiA hr
  refine run_V is9 (nbA rfl) ?_
  rotate_left
  obtain rfl := oiA hr
  refine run_V is9 (nbA rfl) ?_
  rotate_left
  obtain rfl := oiA hr
  refine run_V is9 (nbA rfl) ?_
  rotate_left
  rcases iteP hr with ⟨h23, hr⟩ | ⟨h23, hr⟩
  obtain ⟨x12, h24, x13, h25, hr⟩ := bs2 hr
  have h24k := (qcp9 h24).k rfl rfl rfl
  try simp only [go_sem] at h24k
  have h25k := (qii9 h25).k rfl rfl rfl
  try simp only [go_sem] at h25k
  rcases iteP hr with ⟨h26, hr⟩ | ⟨h26, hr⟩
  rcases iteP hr with ⟨h27, hr⟩ | ⟨h27, hr⟩
  obtain ⟨x14, h28, hr⟩ := bsome hr
  have h28k := (qeU9 h28).k rfl rfl rfl
  try simp only [go_sem] at h28k
  rcases iteB hr with ⟨h29, hr⟩ | ⟨h29, hr⟩
  obtain rfl := oiA hr
  refine run_V is9 (nbA rfl) ?_
  rotate_left
  obtain rfl := oiA hr
  refine run_V is9 (nbA rfl) ?_
  rotate_left
  obtain rfl := oiA hr
  refine run_V is9 (nbA rfl) ?_
  rotate_left
  obtain rfl := oiA hr
  refine run_V is9 (nbA rfl) ?_
  rotate_left
  obtain rfl := oiA hr
  refine run_V is9 (nbA rfl) ?_
  rotate_left
  rcases iteP hr with ⟨h30, hr⟩ | ⟨h30, hr⟩
  obtain ⟨x15, h31, x16, h32, hr⟩ := bs2 hr
  have h31k := (qcp9 h31).k rfl rfl rfl
  try simp only [go_sem] at h31k
  have h32k := (qii9 h32).k rfl rfl rfl
  try simp only [go_sem] at h32k
  rcases iteP hr with ⟨h33, hr⟩ | ⟨h33, hr⟩
  rcases iteP hr with ⟨h34, hr⟩ | ⟨h34, hr⟩
  obtain ⟨x17, h35, hr⟩ := bsome hr
  have h35k := (qeU9 h35).k rfl rfl rfl
  try simp only [go_sem] at h35k
  rcases iteB hr with ⟨h36, hr⟩ | ⟨h36, hr⟩
  obtain rfl := oiA hr
  refine run_V is9 (nbA rfl) ?_
  rotate_left
  obtain rfl := oiA hr
  refine run_V is9 (nbA rfl) ?_
  rotate_left
  obtain rfl := oiA hr
  refine run_V is9 (nbA rfl) ?_
  rotate_left
  obtain rfl := oiA hr
  refine run_V is9 (nbA rfl) ?_
  rotate_left
  obtain rfl := oiA hr
  refine run_V is9 (nbA rfl) ?_
  rotate_left
  obtain rfl := oiA hr
  refine run_V is9 (nbA rfl) ?_
  rotate_left
  obtain rfl := oiA hr
  refine run_V is9 (nbA rfl) ?_
  rotate_left
  obtain rfl := oiA hr
  refine run_V is9 (nbA rfl) ?_
  rotate_left
  all_goals (simp +decide only [go_sem, decide_not, c9, *])
def qnW9 : ACode := .seq (.seq (.reg [] [] [.M 36 11, .M 37 1, .T 38 (.len (.tmp 37)), .K 39 (.bin .lss (.tmp 36) (.tmp 38))]) (.cond (.tmp 39) (some 39) (.skip) (.exit 0))) (.seq (.block 1 4504149383196672 (.seq (.reg [] [] [.M 43 1, .M 44 11, .T 45 (.ix 1 (.tmp 43) (.tmp 44)), .T 46 (.load none (.tmp 45)), .M 47 2, .T 48 (.call 28 [.tmp 46, .tmp 47]), .M 42 48, .T 49 (.ext (.tmp 42) 0), .T 50 (.ext (.tmp 42) 1), .N 12 49, .N 13 50]) (.seq (.seq (.reg [] [] [.M 51 13, .K 52 (.bin .neq (.tmp 51) (cI 0))]) (.cond (.tmp 52) (some 52) (.seq (.reg [] [] [.M 53 7, .N 6 53]) (.ret)) (.skip))) (.reg [] [] [.M 54 10, .M 55 12, .T 56 (.lit 1 [(0, .tmp 55)]), .T 57 (.app 1 24 (.tmp 54) (.tmp 56)), .N 10 57])))) (.reg [] [] [.M 40 11, .T 41 (.bin .add (.tmp 40) (cI 1)), .N 11 41]))
def c10 : ACode := .seq (.reg [] [] [.K 6 (.mv (.const (.bool false)))]) (.seq (.reg [] [] [.T 18 (.call 12 []), .N 7 18]) (.seq (.seq (.reg [] [] [.M 19 7, .K 20 (.not (.tmp 19))]) (.cond (.tmp 20) (some 20) (.seq (.reg [] [] [.K 6 (.mv (.const (.bool false)))]) (.ret)) (.skip))) (.seq (.reg [] [] [.M 22 0, .M 23 1, .T 24 (.call 26 [.tmp 22, .tmp 23]), .M 21 24, .T 25 (.ext (.tmp 21) 0), .T 26 (.ext (.tmp 21) 1), .N 8 25, .N 9 26]) (.seq (.seq (.reg [] [] [.M 27 9, .K 28 (.bin .neq (.tmp 27) (cI 0))]) (.cond (.tmp 28) (some 28) (.seq (.reg [] [] [.M 29 7, .M 30 29, .MG 31 30 true 8, .TG 32 30 true (.len (.tmp 31)), .TG 33 30 true (.bin .eql (.tmp 32) (cI 0)), .T 34 (.pick (.tmp 30) (.tmp 33) (.const (.bool false))), .N 6 34]) (.ret)) (.skip))) (.seq (.reg [] [(10, 1)] [.T 35 (.lit 1 []), .N 10 35]) (.seq (.seq (.reg [] [] [.K 11 (.mv (cI 0))]) (.block 0 4504149383196672 (.loop qnW9))) (.seq (.reg [] [] [.M 59 8, .M 60 2, .T 61 (.call 28 [.tmp 59, .tmp 60]), .M 58 61, .T 62 (.ext (.tmp 58) 0), .T 63 (.ext (.tmp 58) 1), .N 14 62, .N 15 63]) (.seq (.reg [] [] [.M 65 0, .M 66 10, .T 67 (.call 28 [.tmp 65, .tmp 66]), .M 64 67, .T 68 (.ext (.tmp 64) 0), .T 69 (.ext (.tmp 64) 1), .N 16 68, .N 17 69]) (.seq (.reg [] [] [.M 70 7, .M 71 70, .MG 72 71 true 15, .TG 73 71 true (.bin .neq (.tmp 72) (cI 0)), .MG 74 71 true 73, .MG 75 74 false 17, .TG 76 74 false (.bin .neq (.tmp 75) (cI 0)), .TG 77 71 true (.pick (.tmp 74) (.const (.bool true)) (.tmp 76)), .MG 78 71 true 77, .MG 79 78 false 14, .MG 80 78 false 16, .TG 81 78 false (.call 30 [.tmp 79, .tmp 80]), .TG 82 71 true (.pick (.tmp 78) (.const (.bool true)) (.tmp 81)), .T 83 (.pick (.tmp 71) (.tmp 82) (.const (.bool false))), .N 6 83]) (.ret))))))))))
theorem is10 : IsF C 10 84 4504149652930503 c10 [.tmp 6] := ⟨⟨Try.f10, _, C_P ▸ Try.func10, rfl, rfl, rfl, by kernel_rfl, rfl⟩⟩
def qeZ9 (s0 : List Mono) (s1 : List (List Mono)) (s2 : List (List Int)) (s7 : Bool) (s8 : List Mono) (s9 : Int) : Int × (List (List Int)) → Nat → St := fun (s11, o10) v10 => ⟨[(0, .d (.rd (s0.map qa9))), (1, .d (.rd (s1.map (lsD qa9)))), (2, .d (.rd (s2.map (lsD qc9)))), (6, PB false), (7, PB s7), (8, .d (.rd (s8.map qa9))), (9, PI s9), (10, .ref 0 v10 0 o10.length), (11, PI s11)], (.row false v10 1 (rowP (lsD qc9) o10) :: [])⟩
def qkM9 (s0 : List Mono) (s1 : List (List Mono)) (s2 : List (List Int)) (s7 : Bool) (s8 : List Mono) (s9 : Int) : (Bool ⊕ (Int × (List (List Int)))) → AExit × St → Prop
  | .inl r, q => XV C [.tmp 6] (PB r) q
  | .inr (s11, o10), q => ∃ g, q = (.exit 0, qeZ9 s0 s1 s2 s7 s8 s9 (s11, o10) g)
set_option maxHeartbeats 60000000 in
theorem qkK9 {s0 : List Mono} {s1 : List (List Mono)} {s2 : List (List Int)} {s7 : Bool} {s8 : List Mono} {s9 : Int} : Sim C 4504149652930503 qnW9 (qcV9 s0 s1 s2 s7 s8 s9) (qeZ9 s0 s1 s2 s7 s8 s9) (qkM9 s0 s1 s2 s7 s8 s9) := by
  intro s g r hr
  obtain ⟨s11, o10⟩ := s
  have ⟨v10, hg0⟩ : ∃ y, y = g := ⟨_, rfl⟩
  subst hg0
  simp only [qcV9] at hr
  rcases iteP hr with ⟨h1, hr⟩ | ⟨h1, hr⟩
  obtain ⟨x3, h2, x4, h3, hr⟩ := bs2 hr
  have h3k := (qcp9 h3).k rfl rfl rfl
  try simp only [go_sem] at h3k
  rcases iteP hr with ⟨h4, hr⟩ | ⟨h4, hr⟩
  obtain ⟨h5, hr⟩ := gsome hr
  obtain rfl := oiA hr
  refine ⟨(v10 + 1), ?_⟩
  rotate_left
  obtain rfl := oiA hr
  refine xv_of ?_
  rotate_left
  obtain rfl := oiA hr
  refine xe_of ⟨v10, rfl⟩ ?_
  rotate_left
  all_goals (simp +decide only [go_sem, decide_not, qeZ9, qnW9, *])
set_option maxHeartbeats 60000000 in
theorem qlp9 {a0 : List Mono} {a1 : List (List Mono)} {a2 : List (List Int)} {r : Bool} (hr : qfL9 a0 a1 a2 = some r) : Res C 10 [.rd (a0.map qa9), .rd (a1.map (lsD qa9)), .rd (a2.map (lsD qc9))] (PB r) := by
  simp only [qfL9] at hr
  obtain ⟨x1, h1, hr⟩ := bsome hr
  have h1k := (qjg9 h1).k rfl rfl rfl
  try simp only [go_sem] at h1k
  rcases iteB hr with ⟨h2, hr⟩ | ⟨h2, hr⟩
  simp only [h2] at hr
  obtain ⟨x2, h3, hr⟩ := bsome hr
  have h3k := (qgU9 h3).k rfl rfl rfl
  try simp only [go_sem] at h3k
  rcases iteP hr with ⟨h4, hr⟩ | ⟨h4, hr⟩
  obtain ⟨x5, h5, hr⟩ := bsome hr
  obtain ⟨q5, h5L, h5X⟩ := qkK9.L (g := 0) h5
  rcases x5 with x6 | ⟨x7, x8⟩
  try dsimp only at hr
  obtain ⟨st5, rfl, h5R⟩ := h5X
  simp only [qeZ9, go_sem] at h5L
  obtain rfl := oiA hr
  refine run_V is10 (nbA rfl) ?_
  rotate_left
  try dsimp only at hr
  obtain ⟨z9, rfl⟩ := h5X
  simp only [qeZ9, go_sem] at h5L
  obtain ⟨x10, h6, x11, h7, hr⟩ := bs2 hr
  have h6k := (qcp9 h6).k rfl rfl rfl
  try simp only [go_sem] at h6k
  have h7k := fun h args => (qcp9 h7).o rfl rfl rfl (h := h) (args := args)
  try simp only [go_sem] at h7k
  rcases iteP hr with ⟨h8, hr⟩ | ⟨h8, hr⟩
  rcases iteP hr with ⟨h9, hr⟩ | ⟨h9, hr⟩
  obtain ⟨x12, h10, hr⟩ := bsome hr
  have h10k := (qeU9 h10).k rfl rfl rfl
  try simp only [go_sem] at h10k
  obtain rfl := oiA hr
  refine run_V is10 (nbA rfl) ?_
  rotate_left
  obtain rfl := oiA hr
  refine run_V is10 (nbA rfl) ?_
  rotate_left
  obtain rfl := oiA hr
  refine run_V is10 (nbA rfl) ?_
  rotate_left
  obtain rfl := oiA hr
  refine run_V is10 (nbA rfl) ?_
  rotate_left
  obtain rfl := oiA hr
  refine run_V is10 (nbA rfl) ?_
  rotate_left
  all_goals (simp +decide only [go_sem, decide_not, c10, *])
end Ld

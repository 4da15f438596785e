import Derived.Test.YtmkohpkfeamjiaaPQW11
import Derived.Test.YtmkohpkfeamjiaaPQW2
import Derived.Test.YtmkohpkfeamjiaaPQW8
import Derived.Test.YtmkohpkfeamjiaaPQW9
set_option maxHeartbeats 4000000
set_option linter.unusedVariables false
set_option linter.unusedSimpArgs false
namespace Ld
open Go Go.Proofs Go.Abs
set_option maxRecDepth 8000
def c11 : ACode := .seq (.reg [] [] [.K 6 (.mv (.const (.bool false)))]) (.seq (.reg [] [] [.T 16 (.call 12 []), .N 7 16]) (.seq (.seq (.reg [] [] [.M 17 7, .K 18 (.not (.tmp 17))]) (.cond (.tmp 18) (some 18) (.seq (.reg [] [] [.K 6 (.mv (.const (.bool false)))]) (.ret)) (.skip))) (.seq (.reg [] [] [.M 19 0, .M 20 1, .T 21 (.call 19 [.tmp 19, .tmp 20]), .N 8 21]) (.seq (.reg [] [] [.M 22 0, .M 23 1, .T 24 (.call 21 [.tmp 22, .tmp 23]), .N 9 24]) (.seq (.seq (.reg [] [] [.M 25 9, .M 26 25, .MG 27 26 true 8, .TG 28 26 true (.not (.tmp 27)), .MG 29 26 true 28, .MG 30 29 false 1, .MG 31 29 false 0, .TG 32 29 false (.call 21 [.tmp 30, .tmp 31]), .TG 33 26 true (.pick (.tmp 29) (.const (.bool true)) (.tmp 32)), .T 34 (.pick (.tmp 26) (.tmp 33) (.const (.bool false))), .M 35 34, .MG 36 35 false 0, .MG 37 35 false 0, .TG 38 35 false (.call 19 [.tmp 36, .tmp 37]), .MG 39 35 false 0, .TG 40 35 false (.call 14 [.tmp 39, .const (.int .i64 1099511627776)]), .TG 41 35 false (.bin .eql (.tmp 40) (cI 0)), .TG 42 35 false (.binB .neq (.tmp 38) (.tmp 41)), .T 43 (.pick (.tmp 35) (.const (.bool true)) (.tmp 42)), .M 44 43, .MG 45 44 false 0, .MG 46 44 false 0, .TG 47 44 false (.call 21 [.tmp 45, .tmp 46]), .K 48 (.pick (.tmp 44) (.const (.bool true)) (.tmp 47))]) (.cond (.tmp 48) (some 48) (.seq (.reg [] [] [.K 6 (.mv (.const (.bool false)))]) (.ret)) (.skip))) (.seq (.reg [] [] [.M 50 0, .M 51 2, .T 52 (.call 28 [.tmp 50, .tmp 51]), .M 49 52, .T 53 (.ext (.tmp 49) 0), .T 54 (.ext (.tmp 49) 1), .N 10 53, .N 11 54]) (.seq (.seq (.reg [] [] [.M 55 8, .T 56 (.not (.tmp 55)), .M 57 56, .MG 58 57 false 11, .TG 59 57 false (.bin .neq (.tmp 58) (cI 0)), .K 60 (.pick (.tmp 57) (.const (.bool true)) (.tmp 59))]) (.cond (.tmp 60) (some 60) (.seq (.reg [] [] [.M 61 7, .N 6 61]) (.ret)) (.skip))) (.seq (.reg [] [] [.M 63 1, .M 64 2, .T 65 (.call 28 [.tmp 63, .tmp 64]), .M 62 65, .T 66 (.ext (.tmp 62) 0), .T 67 (.ext (.tmp 62) 1), .N 12 66, .N 13 67]) (.seq (.reg [] [] [.M 69 10, .M 70 12, .T 71 (.call 34 [.tmp 69, .tmp 70]), .M 68 71, .T 72 (.ext (.tmp 68) 0), .T 73 (.ext (.tmp 68) 1), .N 14 72, .N 15 73]) (.seq (.seq (.reg [] [] [.M 74 13, .K 75 (.bin .eql (.tmp 74) (cI 21))]) (.cond (.tmp 75) (some 75) (.seq (.reg [] [] [.K 6 (.mv (.const (.bool false)))]) (.ret)) (.skip))) (.seq (.reg [] [] [.M 76 7, .M 77 76, .MG 78 77 true 13, .TG 79 77 true (.bin .eql (.tmp 78) (cI 0)), .T 80 (.pick (.tmp 77) (.tmp 79) (.const (.bool false))), .M 81 80, .MG 82 81 true 15, .TG 83 81 true (.bin .eql (.tmp 82) (cI 0)), .T 84 (.pick (.tmp 81) (.tmp 83) (.const (.bool false))), .M 85 84, .MG 86 85 true 14, .TG 87 85 true (.bin .geq (.tmp 86) (cI 0)), .T 88 (.pick (.tmp 85) (.tmp 87) (.const (.bool false))), .M 89 88, .MG 90 89 true 9, .TG 91 89 true (.not (.tmp 90)), .MG 92 89 true 91, .MG 93 92 false 14, .TG 94 92 false (.bin .gtr (.tmp 93) (cI 0)), .TG 95 89 true (.pick (.tmp 92) (.const (.bool true)) (.tmp 94)), .T 96 (.pick (.tmp 89) (.tmp 95) (.const (.bool false))), .N 6 96]) (.ret))))))))))))
theorem is11 : IsF C 11 97 37780085065936745594823 c11 [.tmp 6] := ⟨⟨Try.f11, _, C_P ▸ Try.func11, rfl, rfl, rfl, by kernel_rfl, rfl⟩⟩
set_option maxHeartbeats 60000000 in
theorem qkI9 {a0 : List Mono} {a1 : List Mono} {a2 : List (List Int)} {r : Bool} (hr : qfw9 a0 a1 a2 = some r) : Res C 11 [.rd (a0.map qa9), .rd (a1.map qa9), .rd (a2.map (lsD qc9))] (PB r) := by
  simp only [qfw9] at hr
  obtain ⟨x1, h1, hr⟩ := bsome hr
  have h1k := (qjg9 h1).k rfl rfl rfl
  try simp only [go_sem] at h1k
  rcases iteB hr with ⟨h2, hr⟩ | ⟨h2, hr⟩
  simp only [h2] at hr
  obtain ⟨x2, h3, x3, h4, hr⟩ := bs2 hr
  have h3k := (qfJ9 h3).k rfl rfl rfl
  try simp only [go_sem] at h3k
  have h4k := (qfU9 h4).k rfl rfl rfl
  try simp only [go_sem] at h4k
  rcases iteB hr with ⟨h5, hr⟩ | ⟨h5, hr⟩
  rcases iteB hr with ⟨h6, hr⟩ | ⟨h6, hr⟩
  obtain ⟨x4, h7, hr⟩ := bsome hr
  have h7k := (qfU9 h7).k rfl rfl rfl
  try simp only [go_sem] at h7k
  rcases iteB hr with ⟨h8, hr⟩ | ⟨h8, hr⟩
  obtain rfl := oiA hr
  refine run_V is11 (nbA rfl) ?_
  rotate_left
  obtain ⟨x5, h9, x6, h10, hr⟩ := bs2 hr
  have h9k := (qfJ9 h9).k rfl rfl rfl
  try simp only [go_sem] at h9k
  have h10k := (qeN9 h10).k rfl rfl rfl
  try simp only [go_sem] at h10k
  rcases iteB hr with ⟨h11, hr⟩ | ⟨h11, hr⟩
  obtain rfl := oiA hr
  refine run_V is11 (nbA rfl) ?_
  rotate_left
  obtain ⟨x7, h12, hr⟩ := bsome hr
  have h12k := (qfU9 h12).k rfl rfl rfl
  try simp only [go_sem] at h12k
  rcases iteB hr with ⟨h13, hr⟩ | ⟨h13, hr⟩
  obtain rfl := oiA hr
  refine run_V is11 (nbA rfl) ?_
  rotate_left
  obtain ⟨x8, h14, hr⟩ := bsome hr
  have h14k := (qcp9 h14).k rfl rfl rfl
  try simp only [go_sem] at h14k
  rcases iteP hr with ⟨h15, hr⟩ | ⟨h15, hr⟩
  obtain ⟨x9, h16, x10, h17, hr⟩ := bs2 hr
  have h16k := (qcp9 h16).k rfl rfl rfl
  try simp only [go_sem] at h16k
  have h17k := (qiP9 h17).k rfl rfl rfl
  try simp only [go_sem] at h17k
  rcases iteP hr with ⟨h18, hr⟩ | ⟨h18, hr⟩
  obtain rfl := oiA hr
  refine run_V is11 (nbA rfl) ?_
  rotate_left
  rcases iteP hr with ⟨h19, hr⟩ | ⟨h19, hr⟩
  rcases iteP hr with ⟨h20, hr⟩ | ⟨h20, hr⟩
  rcases iteP hr with ⟨h21, hr⟩ | ⟨h21, hr⟩
  obtain rfl := oiA hr
  refine run_V is11 (nbA rfl) ?_
  rotate_left
  obtain rfl := oiA hr
  refine run_V is11 (nbA rfl) ?_
  rotate_left
  obtain rfl := oiA hr
  refine run_V is11 (nbA rfl) ?_
  rotate_left
  obtain rfl := oiA hr
  refine run_V is11 (nbA rfl) ?_
  rotate_left
  obtain rfl := oiA hr
  refine run_V is11 (nbA rfl) ?_
  rotate_left
  obtain rfl := oiA hr
  refine run_V is11 (nbA rfl) ?_
  rotate_left
  obtain ⟨x11, h22, x12, h23, hr⟩ := bs2 hr
  have h22k := (qfJ9 h22).k rfl rfl rfl
  try simp only [go_sem] at h22k
  have h23k := (qeN9 h23).k rfl rfl rfl
  try simp only [go_sem] at h23k
  rcases iteB hr with ⟨h24, hr⟩ | ⟨h24, hr⟩
  obtain rfl := oiA hr
  refine run_V is11 (nbA rfl) ?_
  rotate_left
  obtain ⟨x13, h25, hr⟩ := bsome hr
  have h25k := (qfU9 h25).k rfl rfl rfl
  try simp only [go_sem] at h25k
  rcases iteB hr with ⟨h26, hr⟩ | ⟨h26, hr⟩
  obtain rfl := oiA hr
  refine run_V is11 (nbA rfl) ?_
  rotate_left
  obtain ⟨x14, h27, hr⟩ := bsome hr
  have h27k := (qcp9 h27).k rfl rfl rfl
  try simp only [go_sem] at h27k
  rcases iteB hr with ⟨h28, hr⟩ | ⟨h28, hr⟩
  rcases iteP hr with ⟨h29, hr⟩ | ⟨h29, hr⟩
  obtain ⟨x15, h30, x16, h31, hr⟩ := bs2 hr
  have h30k := (qcp9 h30).k rfl rfl rfl
  try simp only [go_sem] at h30k
  have h31k := (qiP9 h31).k rfl rfl rfl
  try simp only [go_sem] at h31k
  rcases iteP hr with ⟨h32, hr⟩ | ⟨h32, hr⟩
  obtain rfl := oiA hr
  refine run_V is11 (nbA rfl) ?_
  rotate_left
  rcases iteP hr with ⟨h33, hr⟩ | ⟨h33, hr⟩
  rcases iteP hr with ⟨h34, hr⟩ | ⟨h34, hr⟩
  rcases iteP hr with ⟨h35, hr⟩ | ⟨h35, hr⟩
  obtain rfl := oiA hr
  refine run_V is11 (nbA rfl) ?_
  rotate_left
  obtain rfl := oiA hr
  refine run_V is11 (nbA rfl) ?_
  rotate_left
  obtain rfl := oiA hr
  refine run_V is11 (nbA rfl) ?_
  rotate_left
  obtain rfl := oiA hr
  refine run_V is11 (nbA rfl) ?_
  rotate_left
  obtain rfl := oiA hr
  refine run_V is11 (nbA rfl) ?_
  rotate_left
  obtain rfl := oiA hr
  refine run_V is11 (nbA rfl) ?_
  rotate_left
  obtain rfl := oiA hr
  refine run_V is11 (nbA rfl) ?_
  rotate_left
  all_goals (simp +decide only [go_sem, decide_not, c11, *])
end Ld

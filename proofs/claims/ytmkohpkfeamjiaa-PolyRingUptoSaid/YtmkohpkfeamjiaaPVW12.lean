import Derived.Test.YtmkohpkfeamjiaaPVW1
import Derived.Test.YtmkohpkfeamjiaaPVW11
import Derived.Test.YtmkohpkfeamjiaaPVW2
import Derived.Test.YtmkohpkfeamjiaaPVW4
import Derived.Test.YtmkohpkfeamjiaaPVW6
import Derived.Test.YtmkohpkfeamjiaaPVW9
set_option maxHeartbeats 4000000
set_option linter.unusedVariables false
set_option linter.unusedSimpArgs false
namespace Ld
open Go Go.Proofs Go.Abs
set_option maxRecDepth 8000
def c8 : ACode := .seq (.reg [] [] [.K 6 (.mv (.const (.bool false)))]) (.seq (.reg [] [] [.T 41 (.call 12 []), .N 7 41]) (.seq (.seq (.reg [] [] [.M 42 7, .K 43 (.not (.tmp 42))]) (.cond (.tmp 43) (some 43) (.seq (.reg [] [] [.K 6 (.mv (.const (.bool false)))]) (.ret)) (.skip))) (.seq (.reg [] [] [.M 45 0, .M 46 1, .T 47 (.call 17 [.tmp 45, .tmp 46]), .M 44 47, .T 48 (.ext (.tmp 44) 0), .T 49 (.ext (.tmp 44) 1), .N 8 48, .N 9 49]) (.seq (.reg [] [] [.M 51 1, .M 52 0, .T 53 (.call 17 [.tmp 51, .tmp 52]), .M 50 53, .T 54 (.ext (.tmp 50) 0), .T 55 (.ext (.tmp 50) 1), .N 10 54, .N 11 55]) (.seq (.reg [] [] [.M 57 0, .M 58 1, .T 59 (.call 24 [.tmp 57, .tmp 58]), .M 56 59, .T 60 (.ext (.tmp 56) 0), .T 61 (.ext (.tmp 56) 1), .N 12 60, .N 13 61]) (.seq (.reg [] [] [.M 63 1, .M 64 0, .T 65 (.call 24 [.tmp 63, .tmp 64]), .M 62 65, .T 66 (.ext (.tmp 62) 0), .T 67 (.ext (.tmp 62) 1), .N 14 66, .N 15 67]) (.seq (.reg [] [] [.M 68 0, .T 69 (.call 14 [.tmp 68, .const (.int .i64 1099511627776)]), .T 70 (.bin .eql (.tmp 69) (cI 0)), .M 71 70, .MG 72 71 true 1, .TG 73 71 true (.call 14 [.tmp 72, .const (.int .i64 1099511627776)]), .TG 74 71 true (.bin .eql (.tmp 73) (cI 0)), .T 75 (.pick (.tmp 71) (.tmp 74) (.const (.bool false))), .N 16 75]) (.seq (.seq (.reg [] [] [.M 76 16, .M 77 76, .MG 78 77 true 9, .MG 79 77 true 11, .TG 80 77 true (.bin .neq (.tmp 78) (.tmp 79)), .MG 81 77 true 80, .MG 82 81 false 13, .MG 83 81 false 15, .TG 84 81 false (.bin .neq (.tmp 82) (.tmp 83)), .TG 85 77 true (.pick (.tmp 81) (.const (.bool true)) (.tmp 84)), .MG 86 77 true 85, .MG 87 86 false 8, .MG 88 86 false 10, .TG 89 86 false (.call 16 [.tmp 87, .tmp 88]), .TG 90 86 false (.not (.tmp 89)), .TG 91 77 true (.pick (.tmp 86) (.const (.bool true)) (.tmp 90)), .MG 92 77 true 91, .MG 93 92 false 12, .MG 94 92 false 14, .TG 95 92 false (.call 16 [.tmp 93, .tmp 94]), .TG 96 92 false (.not (.tmp 95)), .TG 97 77 true (.pick (.tmp 92) (.const (.bool true)) (.tmp 96)), .K 98 (.pick (.tmp 77) (.tmp 97) (.const (.bool false)))]) (.cond (.tmp 98) (some 98) (.seq (.reg [] [] [.K 6 (.mv (.const (.bool false)))]) (.ret)) (.skip))) (.seq (.seq (.reg [] [] [.M 99 16, .T 100 (.not (.tmp 99)), .M 101 100, .MG 102 101 false 9, .TG 103 101 false (.bin .neq (.tmp 102) (cI 0)), .T 104 (.pick (.tmp 101) (.const (.bool true)) (.tmp 103)), .M 105 104, .MG 106 105 false 13, .TG 107 105 false (.bin .neq (.tmp 106) (cI 0)), .T 108 (.pick (.tmp 105) (.const (.bool true)) (.tmp 107)), .M 109 108, .MG 110 109 false 2, .TG 111 109 false (.call 14 [.tmp 110, .const (.int .i64 1099511627776)]), .TG 112 109 false (.bin .neq (.tmp 111) (cI 0)), .K 113 (.pick (.tmp 109) (.const (.bool true)) (.tmp 112))]) (.cond (.tmp 113) (some 113) (.seq (.reg [] [] [.M 114 7, .M 115 114, .MG 116 115 true 16, .MG 117 115 true 116, .MG 118 117 false 9, .TG 119 117 false (.bin .neq (.tmp 118) (cI 0)), .MG 120 117 false 119, .MG 121 120 true 13, .TG 122 120 true (.bin .neq (.tmp 121) (cI 0)), .TG 123 117 false (.pick (.tmp 120) (.tmp 122) (.const (.bool false))), .MG 124 117 false 123, .MG 125 124 true 8, .TG 126 124 true (.len (.tmp 125)), .TG 127 124 true (.bin .eql (.tmp 126) (cI 0)), .TG 128 117 false (.pick (.tmp 124) (.tmp 127) (.const (.bool false))), .MG 129 117 false 128, .MG 130 129 true 12, .TG 131 129 true (.len (.tmp 130)), .TG 132 129 true (.bin .eql (.tmp 131) (cI 0)), .TG 133 117 false (.pick (.tmp 129) (.tmp 132) (.const (.bool false))), .TG 134 115 true (.pick (.tmp 117) (.const (.bool true)) (.tmp 133)), .T 135 (.pick (.tmp 115) (.tmp 134) (.const (.bool false))), .N 6 135]) (.ret)) (.skip))) (.seq (.reg [] [] [.M 137 0, .T 138 (.lit 2 []), .T 139 (.call 17 [.tmp 137, .tmp 138]), .M 136 139, .T 140 (.ext (.tmp 136) 0), .T 141 (.ext (.tmp 136) 1), .N 17 140, .N 18 141]) (.seq (.reg [] [] [.M 143 0, .T 144 (.call 31 []), .T 145 (.call 24 [.tmp 143, .tmp 144]), .M 142 145, .T 146 (.ext (.tmp 142) 0), .T 147 (.ext (.tmp 142) 1), .N 19 146, .N 20 147]) (.seq (.reg [] [] [.M 149 0, .T 150 (.lit 2 []), .T 151 (.call 24 [.tmp 149, .tmp 150]), .M 148 151, .T 152 (.ext (.tmp 148) 0), .T 153 (.ext (.tmp 148) 1), .N 21 152, .N 22 153]) (.seq (.seq (.reg [] [] [.M 154 18, .T 155 (.bin .neq (.tmp 154) (cI 0)), .M 156 155, .MG 157 156 false 20, .TG 158 156 false (.bin .neq (.tmp 157) (cI 0)), .T 159 (.pick (.tmp 156) (.const (.bool true)) (.tmp 158)), .M 160 159, .MG 161 160 false 22, .TG 162 160 false (.bin .neq (.tmp 161) (cI 0)), .T 163 (.pick (.tmp 160) (.const (.bool true)) (.tmp 162)), .M 164 163, .MG 165 164 false 17, .MG 166 164 false 0, .TG 167 164 false (.call 16 [.tmp 165, .tmp 166]), .TG 168 164 false (.not (.tmp 167)), .T 169 (.pick (.tmp 164) (.const (.bool true)) (.tmp 168)), .M 170 169, .MG 171 170 false 19, .MG 172 170 false 0, .TG 173 170 false (.call 16 [.tmp 171, .tmp 172]), .TG 174 170 false (.not (.tmp 173)), .T 175 (.pick (.tmp 170) (.const (.bool true)) (.tmp 174)), .M 176 175, .MG 177 176 false 21, .TG 178 176 false (.len (.tmp 177)), .TG 179 176 false (.bin .neq (.tmp 178) (cI 0)), .K 180 (.pick (.tmp 176) (.const (.bool true)) (.tmp 179))]) (.cond (.tmp 180) (some 180) (.seq (.reg [] [] [.K 6 (.mv (.const (.bool false)))]) (.ret)) (.skip))) (.seq (.reg [] [] [.M 182 8, .M 183 2, .T 184 (.call 17 [.tmp 182, .tmp 183]), .M 181 184, .T 185 (.ext (.tmp 181) 0), .T 186 (.ext (.tmp 181) 1), .N 23 185, .N 24 186]) (.seq (.reg [] [] [.M 188 1, .M 189 2, .T 190 (.call 17 [.tmp 188, .tmp 189]), .M 187 190, .T 191 (.ext (.tmp 187) 0), .T 192 (.ext (.tmp 187) 1), .N 25 191, .N 26 192]) (.seq (.reg [] [] [.M 194 0, .M 195 25, .T 196 (.call 17 [.tmp 194, .tmp 195]), .M 193 196, .T 197 (.ext (.tmp 193) 0), .T 198 (.ext (.tmp 193) 1), .N 27 197, .N 28 198]) (.seq (.seq (.reg [] [] [.M 199 24, .T 200 (.bin .eql (.tmp 199) (cI 0)), .M 201 200, .MG 202 201 true 26, .TG 203 201 true (.bin .neq (.tmp 202) (cI 0)), .MG 204 201 true 203, .MG 205 204 false 28, .TG 206 204 false (.bin .neq (.tmp 205) (cI 0)), .TG 207 201 true (.pick (.tmp 204) (.const (.bool true)) (.tmp 206)), .MG 208 201 true 207, .MG 209 208 false 23, .MG 210 208 false 27, .TG 211 208 false (.call 16 [.tmp 209, .tmp 210]), .TG 212 208 false (.not (.tmp 211)), .TG 213 201 true (.pick (.tmp 208) (.const (.bool true)) (.tmp 212)), .K 214 (.pick (.tmp 201) (.tmp 213) (.const (.bool false)))]) (.cond (.tmp 214) (some 214) (.seq (.reg [] [] [.K 6 (.mv (.const (.bool false)))]) (.ret)) (.skip))) (.seq (.reg [] [] [.M 216 12, .M 217 2, .T 218 (.call 24 [.tmp 216, .tmp 217]), .M 215 218, .T 219 (.ext (.tmp 215) 0), .T 220 (.ext (.tmp 215) 1), .N 29 219, .N 30 220]) (.seq (.reg [] [] [.M 222 1, .M 223 2, .T 224 (.call 24 [.tmp 222, .tmp 223]), .M 221 224, .T 225 (.ext (.tmp 221) 0), .T 226 (.ext (.tmp 221) 1), .N 31 225, .N 32 226]) (.seq (.reg [] [] [.M 228 0, .M 229 31, .T 230 (.call 24 [.tmp 228, .tmp 229]), .M 227 230, .T 231 (.ext (.tmp 227) 0), .T 232 (.ext (.tmp 227) 1), .N 33 231, .N 34 232]) (.seq (.seq (.reg [] [] [.M 233 30, .T 234 (.bin .eql (.tmp 233) (cI 0)), .M 235 234, .MG 236 235 true 32, .TG 237 235 true (.bin .eql (.tmp 236) (cI 0)), .T 238 (.pick (.tmp 235) (.tmp 237) (.const (.bool false))), .M 239 238, .MG 240 239 true 34, .TG 241 239 true (.bin .neq (.tmp 240) (cI 0)), .MG 242 239 true 241, .MG 243 242 false 29, .MG 244 242 false 33, .TG 245 242 false (.call 16 [.tmp 243, .tmp 244]), .TG 246 242 false (.not (.tmp 245)), .TG 247 239 true (.pick (.tmp 242) (.const (.bool true)) (.tmp 246)), .K 248 (.pick (.tmp 239) (.tmp 247) (.const (.bool false)))]) (.cond (.tmp 248) (some 248) (.seq (.reg [] [] [.K 6 (.mv (.const (.bool false)))]) (.ret)) (.skip))) (.seq (.reg [] [] [.M 250 8, .M 251 2, .T 252 (.call 24 [.tmp 250, .tmp 251]), .M 249 252, .T 253 (.ext (.tmp 249) 0), .T 254 (.ext (.tmp 249) 1), .N 35 253, .N 36 254]) (.seq (.reg [] [] [.M 256 0, .M 257 2, .T 258 (.call 24 [.tmp 256, .tmp 257]), .M 255 258, .T 259 (.ext (.tmp 255) 0), .T 260 (.ext (.tmp 255) 1), .N 37 259, .N 38 260]) (.seq (.seq (.reg [] [] [.M 261 36, .T 262 (.bin .eql (.tmp 261) (cI 0)), .M 263 262, .MG 264 263 true 38, .TG 265 263 true (.bin .neq (.tmp 264) (cI 0)), .MG 266 263 true 265, .MG 267 266 false 32, .TG 268 266 false (.bin .neq (.tmp 267) (cI 0)), .TG 269 263 true (.pick (.tmp 266) (.const (.bool true)) (.tmp 268)), .K 270 (.pick (.tmp 263) (.tmp 269) (.const (.bool false)))]) (.cond (.tmp 270) (some 270) (.seq (.reg [] [] [.K 6 (.mv (.const (.bool false)))]) (.ret)) (.skip))) (.seq (.reg [] [] [.M 272 37, .M 273 31, .T 274 (.call 17 [.tmp 272, .tmp 273]), .M 271 274, .T 275 (.ext (.tmp 271) 0), .T 276 (.ext (.tmp 271) 1), .N 39 275, .N 40 276]) (.seq (.reg [] [] [.M 277 7, .M 278 277, .MG 279 278 true 36, .TG 280 278 true (.bin .neq (.tmp 279) (cI 0)), .MG 281 278 true 280, .MG 282 281 false 40, .TG 283 281 false (.bin .eql (.tmp 282) (cI 0)), .MG 284 281 false 283, .MG 285 284 true 35, .MG 286 284 true 39, .TG 287 284 true (.call 16 [.tmp 285, .tmp 286]), .TG 288 281 false (.pick (.tmp 284) (.tmp 287) (.const (.bool false))), .TG 289 278 true (.pick (.tmp 281) (.const (.bool true)) (.tmp 288)), .T 290 (.pick (.tmp 278) (.tmp 289) (.const (.bool false))), .N 6 290]) (.ret)))))))))))))))))))))))))))
theorem is8 : IsF C 8 291 1897138042377037155414248310378295087800511259884072618884729081587275544643239879 c8 [.tmp 6] := ⟨⟨Try.f8, _, C_P ▸ Try.func8, rfl, rfl, rfl, by kernel_rfl, rfl⟩⟩
set_option exponentiation.threshold 4096 in
set_option maxHeartbeats 60000000 in
theorem qmk9 {a0 : List Mono} {a1 : List Mono} {a2 : List Mono} {r : Bool} (hr : qgF9 a0 a1 a2 = some r) : Res C 8 [.rd (a0.map qa9), .rd (a1.map qa9), .rd (a2.map qa9)] (PB r) := by
  simp only [qgF9] at hr
  obtain ⟨x1, h1, hr⟩ := bsome hr
  have h1k := (qqb9 h1).k rfl rfl rfl
  try simp only [go_sem] at h1k
  rcases iteB hr with ⟨h2, hr⟩ | ⟨h2, hr⟩
  obtain ⟨x2, h3, x3, h4, x4, h5, x5, h6, hr⟩ := bs4 hr
  have h3k := (qca9 h3).k rfl rfl rfl
  try simp only [go_sem] at h3k
  have h4k := (qca9 h4).k rfl rfl rfl
  try simp only [go_sem] at h4k
  have h5k := (qbJ9 h5).k rfl rfl rfl
  try simp only [go_sem] at h5k
  have h6k := (qbJ9 h6).k rfl rfl rfl
  try simp only [go_sem] at h6k
  obtain ⟨x6, h7, hr⟩ := bsome hr
  have h7k := (qdM9 h7).k rfl rfl rfl
  try simp only [go_sem] at h7k
  rcases iteP hr with ⟨h8, hr⟩ | ⟨h8, hr⟩
  obtain ⟨x7, h9, hr⟩ := bsome hr
  have h9k := (qdM9 h9).k rfl rfl rfl
  try simp only [go_sem] at h9k
  rcases iteP hr with ⟨h10, hr⟩ | ⟨h10, hr⟩
  rcases iteP hr with ⟨h11, hr⟩ | ⟨h11, hr⟩
  rcases iteP hr with ⟨h12, hr⟩ | ⟨h12, hr⟩
  obtain ⟨x8, h13, hr⟩ := bsome hr
  have h13k := (qde9 h13).k rfl rfl rfl
  try simp only [go_sem] at h13k
  rcases iteB hr with ⟨h14, hr⟩ | ⟨h14, hr⟩
  obtain ⟨x9, h15, hr⟩ := bsome hr
  have h15k := (qde9 h15).k rfl rfl rfl
  try simp only [go_sem] at h15k
  rcases iteB hr with ⟨h16, hr⟩ | ⟨h16, hr⟩
  rcases iteP hr with ⟨h17, hr⟩ | ⟨h17, hr⟩
  rcases iteP hr with ⟨h18, hr⟩ | ⟨h18, hr⟩
  obtain ⟨x10, h19, hr⟩ := bsome hr
  have h19k := (qdM9 h19).k rfl rfl rfl
  try simp only [go_sem] at h19k
  rcases iteP hr with ⟨h20, hr⟩ | ⟨h20, hr⟩
  obtain ⟨x11, h21, x12, h22, x13, h23, x14, h24, hr⟩ := bs4 hr
  have h21k := fun h => (qca9 h21).o rfl rfl rfl (h := h) (args := [.d (.rd (a0.map qa9)), .im true []]) rfl
  try simp only [go_sem] at h21k
  have h22k := (qng9 h22).k rfl rfl rfl
  try simp only [go_sem] at h22k
  have h23k := (qbJ9 h23).k rfl rfl rfl
  try simp only [go_sem] at h23k
  have h24k := fun h => (qbJ9 h24).o rfl rfl rfl (h := h) (args := [.d (.rd (a0.map qa9)), .im true []]) rfl
  try simp only [go_sem] at h24k
  rcases iteP hr with ⟨h25, hr⟩ | ⟨h25, hr⟩
  rcases iteP hr with ⟨h26, hr⟩ | ⟨h26, hr⟩
  rcases iteP hr with ⟨h27, hr⟩ | ⟨h27, hr⟩
  obtain ⟨x15, h28, hr⟩ := bsome hr
  have h28k := (qde9 h28).k rfl rfl rfl
  try simp only [go_sem] at h28k
  rcases iteB hr with ⟨h29, hr⟩ | ⟨h29, hr⟩
  obtain ⟨x16, h30, hr⟩ := bsome hr
  have h30k := (qde9 h30).k rfl rfl rfl
  try simp only [go_sem] at h30k
  rcases iteB hr with ⟨h31, hr⟩ | ⟨h31, hr⟩
  rcases iteP hr with ⟨h32, hr⟩ | ⟨h32, hr⟩
  obtain ⟨x17, h33, x18, h34, x19, h35, hr⟩ := bs3 hr
  have h33k := (qca9 h33).k rfl rfl rfl
  try simp only [go_sem] at h33k
  have h34k := (qca9 h34).k rfl rfl rfl
  try simp only [go_sem] at h34k
  have h35k := (qca9 h35).k rfl rfl rfl
  try simp only [go_sem] at h35k
  rcases iteP hr with ⟨h36, hr⟩ | ⟨h36, hr⟩
  rcases iteP hr with ⟨h37, hr⟩ | ⟨h37, hr⟩
  rcases iteP hr with ⟨h38, hr⟩ | ⟨h38, hr⟩
  obtain ⟨x20, h39, hr⟩ := bsome hr
  have h39k := (qde9 h39).k rfl rfl rfl
  try simp only [go_sem] at h39k
  rcases iteB hr with ⟨h40, hr⟩ | ⟨h40, hr⟩
  obtain ⟨x21, h41, x22, h42, x23, h43, hr⟩ := bs3 hr
  have h41k := (qbJ9 h41).k rfl rfl rfl
  try simp only [go_sem] at h41k
  have h42k := (qbJ9 h42).k rfl rfl rfl
  try simp only [go_sem] at h42k
  have h43k := (qbJ9 h43).k rfl rfl rfl
  try simp only [go_sem] at h43k
  rcases iteP hr with ⟨h44, hr⟩ | ⟨h44, hr⟩
  rcases iteP hr with ⟨h45, hr⟩ | ⟨h45, hr⟩
  rcases iteP hr with ⟨h46, hr⟩ | ⟨h46, hr⟩
  obtain ⟨x24, h47, hr⟩ := bsome hr
  have h47k := (qde9 h47).k rfl rfl rfl
  try simp only [go_sem] at h47k
  rcases iteB hr with ⟨h48, hr⟩ | ⟨h48, hr⟩
  obtain ⟨x25, h49, x26, h50, hr⟩ := bs2 hr
  have h49k := (qbJ9 h49).k rfl rfl rfl
  try simp only [go_sem] at h49k
  have h50k := (qbJ9 h50).k rfl rfl rfl
  try simp only [go_sem] at h50k
  rcases iteP hr with ⟨h51, hr⟩ | ⟨h51, hr⟩
  rcases iteP hr with ⟨h52, hr⟩ | ⟨h52, hr⟩
  obtain ⟨x27, h53, hr⟩ := bsome hr
  have h53k := (qca9 h53).k rfl rfl rfl
  try simp only [go_sem] at h53k
  rcases iteP hr with ⟨h54, hr⟩ | ⟨h54, hr⟩
  obtain ⟨x28, h55, hr⟩ := bsome hr
  have h55k := (qde9 h55).k rfl rfl rfl
  try simp only [go_sem] at h55k
  obtain rfl := oiA hr
  refine run_V is8 (nbA rfl) ?_
  rotate_left
  obtain rfl := oiA hr
  refine run_V is8 (nbA rfl) ?_
  rotate_left
  obtain rfl := oiA hr
  refine run_V is8 (nbA rfl) ?_
  rotate_left
  obtain ⟨x29, h56, hr⟩ := bsome hr
  have h56k := (qca9 h56).k rfl rfl rfl
  try simp only [go_sem] at h56k
  obtain rfl := oiA hr
  refine run_V is8 (nbA rfl) ?_
  rotate_left
  obtain rfl := oiA hr
  refine run_V is8 (nbA rfl) ?_
  rotate_left
  obtain rfl := oiA hr
  refine run_V is8 (nbA rfl) ?_
  rotate_left
  obtain ⟨x30, h57, x31, h58, hr⟩ := bs2 hr
  have h57k := (qbJ9 h57).k rfl rfl rfl
  try simp only [go_sem] at h57k
  have h58k := (qbJ9 h58).k rfl rfl rfl
  try simp only [go_sem] at h58k
  rcases iteP hr with ⟨h59, hr⟩ | ⟨h59, hr⟩
  rcases iteP hr with ⟨h60, hr⟩ | ⟨h60, hr⟩
  obtain rfl := oiA hr
  refine run_V is8 (nbA rfl) ?_
  rotate_left
  obtain rfl := oiA hr
  refine run_V is8 (nbA rfl) ?_
  rotate_left
  obtain ⟨x32, h61, hr⟩ := bsome hr
  have h61k := (qca9 h61).k rfl rfl rfl
  try simp only [go_sem] at h61k
  obtain rfl := oiA hr
  refine run_V is8 (nbA rfl) ?_
  rotate_left
  obtain ⟨x33, h62, x34, h63, hr⟩ := bs2 hr
  have h62k := (qbJ9 h62).k rfl rfl rfl
  try simp only [go_sem] at h62k
  have h63k := (qbJ9 h63).k rfl rfl rfl
  try simp only [go_sem] at h63k
  rcases iteP hr with ⟨h64, hr⟩ | ⟨h64, hr⟩
  rcases iteP hr with ⟨h65, hr⟩ | ⟨h65, hr⟩
  rcases iteP hr with ⟨h66, hr⟩ | ⟨h66, hr⟩
  obtain ⟨x35, h67, hr⟩ := bsome hr
  have h67k := (qca9 h67).k rfl rfl rfl
  try simp only [go_sem] at h67k
  rcases iteP hr with ⟨h68, hr⟩ | ⟨h68, hr⟩
  obtain ⟨x36, h69, hr⟩ := bsome hr
  have h69k := (qde9 h69).k rfl rfl rfl
  try simp only [go_sem] at h69k
  obtain rfl := oiA hr
  refine run_V is8 (nbA rfl) ?_
  rotate_left
  obtain rfl := oiA hr
  refine run_V is8 (nbA rfl) ?_
  rotate_left
  obtain rfl := oiA hr
  refine run_V is8 (nbA rfl) ?_
  rotate_left
  obtain rfl := oiA hr
  refine run_V is8 (nbA rfl) ?_
  rotate_left
  obtain ⟨x37, h70, hr⟩ := bsome hr
  have h70k := (qca9 h70).k rfl rfl rfl
  try simp only [go_sem] at h70k
  obtain rfl := oiA hr
  refine run_V is8 (nbA rfl) ?_
  rotate_left
  obtain rfl := oiA hr
  refine run_V is8 (nbA rfl) ?_
  rotate_left
  obtain rfl := oiA hr
  refine run_V is8 (nbA rfl) ?_
  rotate_left
  obtain rfl := oiA hr
  refine run_V is8 (nbA rfl) ?_
  rotate_left
  obtain ⟨x38, h71, x39, h72, x40, h73, hr⟩ := bs3 hr
  have h71k := (qbJ9 h71).k rfl rfl rfl
  try simp only [go_sem] at h71k
  have h72k := (qbJ9 h72).k rfl rfl rfl
  try simp only [go_sem] at h72k
  have h73k := (qbJ9 h73).k rfl rfl rfl
  try simp only [go_sem] at h73k
  rcases iteP hr with ⟨h74, hr⟩ | ⟨h74, hr⟩
  rcases iteP hr with ⟨h75, hr⟩ | ⟨h75, hr⟩
  rcases iteP hr with ⟨h76, hr⟩ | ⟨h76, hr⟩
  obtain ⟨x41, h77, hr⟩ := bsome hr
  have h77k := (qde9 h77).k rfl rfl rfl
  try simp only [go_sem] at h77k
  rcases iteB hr with ⟨h78, hr⟩ | ⟨h78, hr⟩
  obtain ⟨x42, h79, x43, h80, hr⟩ := bs2 hr
  have h79k := (qbJ9 h79).k rfl rfl rfl
  try simp only [go_sem] at h79k
  have h80k := (qbJ9 h80).k rfl rfl rfl
  try simp only [go_sem] at h80k
  rcases iteP hr with ⟨h81, hr⟩ | ⟨h81, hr⟩
  rcases iteP hr with ⟨h82, hr⟩ | ⟨h82, hr⟩
  obtain ⟨x44, h83, hr⟩ := bsome hr
  have h83k := (qca9 h83).k rfl rfl rfl
  try simp only [go_sem] at h83k
  rcases iteP hr with ⟨h84, hr⟩ | ⟨h84, hr⟩
  obtain ⟨x45, h85, hr⟩ := bsome hr
  have h85k := (qde9 h85).k rfl rfl rfl
  try simp only [go_sem] at h85k
  obtain rfl := oiA hr
  refine run_V is8 (nbA rfl) ?_
  rotate_left
  obtain rfl := oiA hr
  refine run_V is8 (nbA rfl) ?_
  rotate_left
  obtain rfl := oiA hr
  refine run_V is8 (nbA rfl) ?_
  rotate_left
  obtain ⟨x46, h86, hr⟩ := bsome hr
  have h86k := (qca9 h86).k rfl rfl rfl
  try simp only [go_sem] at h86k
  obtain rfl := oiA hr
  refine run_V is8 (nbA rfl) ?_
  rotate_left
  obtain rfl := oiA hr
  refine run_V is8 (nbA rfl) ?_
  rotate_left
  obtain rfl := oiA hr
  refine run_V is8 (nbA rfl) ?_
  rotate_left
  obtain ⟨x47, h87, x48, h88, hr⟩ := bs2 hr
  have h87k := (qbJ9 h87).k rfl rfl rfl
  try simp only [go_sem] at h87k
  have h88k := (qbJ9 h88).k rfl rfl rfl
  try simp only [go_sem] at h88k
  rcases iteP hr with ⟨h89, hr⟩ | ⟨h89, hr⟩
  rcases iteP hr with ⟨h90, hr⟩ | ⟨h90, hr⟩
  obtain rfl := oiA hr
  refine run_V is8 (nbA rfl) ?_
  rotate_left
  obtain rfl := oiA hr
  refine run_V is8 (nbA rfl) ?_
  rotate_left
  obtain ⟨x49, h91, hr⟩ := bsome hr
  have h91k := (qca9 h91).k rfl rfl rfl
  try simp only [go_sem] at h91k
  obtain rfl := oiA hr
  refine run_V is8 (nbA rfl) ?_
  rotate_left
  obtain ⟨x50, h92, x51, h93, hr⟩ := bs2 hr
  have h92k := (qbJ9 h92).k rfl rfl rfl
  try simp only [go_sem] at h92k
  have h93k := (qbJ9 h93).k rfl rfl rfl
  try simp only [go_sem] at h93k
  rcases iteP hr with ⟨h94, hr⟩ | ⟨h94, hr⟩
  rcases iteP hr with ⟨h95, hr⟩ | ⟨h95, hr⟩
  rcases iteP hr with ⟨h96, hr⟩ | ⟨h96, hr⟩
  obtain ⟨x52, h97, hr⟩ := bsome hr
  have h97k := (qca9 h97).k rfl rfl rfl
  try simp only [go_sem] at h97k
  rcases iteP hr with ⟨h98, hr⟩ | ⟨h98, hr⟩
  obtain ⟨x53, h99, hr⟩ := bsome hr
  have h99k := (qde9 h99).k rfl rfl rfl
  try simp only [go_sem] at h99k
  obtain rfl := oiA hr
  refine run_V is8 (nbA rfl) ?_
  rotate_left
  obtain rfl := oiA hr
  refine run_V is8 (nbA rfl) ?_
  rotate_left
  obtain rfl := oiA hr
  refine run_V is8 (nbA rfl) ?_
  rotate_left
  obtain rfl := oiA hr
  refine run_V is8 (nbA rfl) ?_
  rotate_left
  obtain ⟨x54, h100, hr⟩ := bsome hr
  have h100k := (qca9 h100).k rfl rfl rfl
  try simp only [go_sem] at h100k
  obtain rfl := oiA hr
  refine run_V is8 (nbA rfl) ?_
  rotate_left
  obtain rfl := oiA hr
  refine run_V is8 (nbA rfl) ?_
  rotate_left
  obtain rfl := oiA hr
  refine run_V is8 (nbA rfl) ?_
  rotate_left
  obtain rfl := oiA hr
  refine run_V is8 (nbA rfl) ?_
  rotate_left
  obtain rfl := oiA hr
  refine run_V is8 (nbA rfl) ?_
  rotate_left
  obtain rfl := oiA hr
  refine run_V is8 (nbA rfl) ?_
  rotate_left
  obtain rfl := oiA hr
  refine run_V is8 (nbA rfl) ?_
  rotate_left
  obtain rfl := oiA hr
  refine run_V is8 (nbA rfl) ?_
  rotate_left
  obtain rfl := oiA hr
  refine run_V is8 (nbA rfl) ?_
  rotate_left
  obtain rfl := oiA hr
  refine run_V is8 (nbA rfl) ?_
  rotate_left
  obtain rfl := oiA hr
  refine run_V is8 (nbA rfl) ?_
  rotate_left
  obtain rfl := oiA hr
  refine run_V is8 (nbA rfl) ?_
  rotate_left
  obtain rfl := oiA hr
  refine run_V is8 (nbA rfl) ?_
  rotate_left
  obtain rfl := oiA hr
  refine run_V is8 (nbA rfl) ?_
  rotate_left
  rcases iteP hr with ⟨h101, hr⟩ | ⟨h101, hr⟩
  obtain rfl := oiA hr
  refine run_V is8 (nbA rfl) ?_
  rotate_left
  rcases iteP hr with ⟨h102, hr⟩ | ⟨h102, hr⟩
  obtain rfl := oiA hr
  refine run_V is8 (nbA rfl) ?_
  rotate_left
  rcases iteP hr with ⟨h103, hr⟩ | ⟨h103, hr⟩
  obtain rfl := oiA hr
  refine run_V is8 (nbA rfl) ?_
  rotate_left
  obtain rfl := oiA hr
  refine run_V is8 (nbA rfl) ?_
  rotate_left
  rcases iteP hr with ⟨h104, hr⟩ | ⟨h104, hr⟩
  obtain rfl := oiA hr
  refine run_V is8 (nbA rfl) ?_
  rotate_left
  rcases iteP hr with ⟨h105, hr⟩ | ⟨h105, hr⟩
  obtain rfl := oiA hr
  refine run_V is8 (nbA rfl) ?_
  rotate_left
  rcases iteP hr with ⟨h106, hr⟩ | ⟨h106, hr⟩
  obtain rfl := oiA hr
  refine run_V is8 (nbA rfl) ?_
  rotate_left
  obtain rfl := oiA hr
  refine run_V is8 (nbA rfl) ?_
  rotate_left
  obtain rfl := oiA hr
  refine run_V is8 (nbA rfl) ?_
  rotate_left
  all_goals (simp +decide only [go_sem, decide_not, c8, *])
end Ld

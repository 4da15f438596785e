import Derived.Test.YtfjgfcnhklopdaaDoorWKW1
import Derived.Test.YtfjgfcnhklopdaaDoorWKW2
import Derived.Test.YtfjgfcnhklopdaaDoorWKW5
set_option maxHeartbeats 4000000
set_option linter.unusedVariables false
set_option linter.unusedSimpArgs false
namespace Ld
open Go Go.Proofs Go.Abs
set_option maxRecDepth 8000
def lb5_1 : ACode := .seq (.seq (.reg [] [] [.M 211 22, .T 212 (.fa 0 (.tmp 21)), .T 213 (.load none (.tmp 212)), .T 214 (.len (.tmp 213)), .K 215 (.bin .lss (.tmp 211) (.tmp 214))]) (.cond (.tmp 215) (some 215) (.skip) (.exit 2))) (.seq (.block 3 6901799002936398066028104821290867287667268419718086829718151379288064 (.seq (.reg [] [] [.T 218 (.fa 0 (.tmp 21)), ⟨some (219, false), .load none (.tmp 218), none, true, false⟩, .M 220 22, ⟨some (221, false), .ix 2 (.tmp 219) (.tmp 220), none, true, false⟩, ⟨some (222, false), .load (some 2) (.tmp 221), none, true, false⟩, .T 223 (.fa 0 (.tmp 12)), ⟨some (224, false), .load none (.tmp 223), none, true, false⟩, .T 225 (.fa 0 (.tmp 14)), ⟨some (226, false), .load none (.tmp 225), none, true, false⟩, ⟨some (227, false), .len (.tmp 226), none, true, false⟩, .M 228 22, .T 229 (.bin .add (.tmp 227) (.tmp 228)), ⟨some (230, false), .ix 2 (.tmp 224) (.tmp 229), none, true, false⟩, ⟨some (231, false), .load (some 2) (.tmp 230), none, true, false⟩, .K 232 (.raw ({ dst := some 232, op := Go.Op.binOp Go.BinOp.neq 33 (.tmp 222) (.tmp 231) 33, type := 4, pos := "law.go:123", after := #[{ on := 4, ground := Go.Ground.data }, { on := 13, ground := Go.Ground.data }], guard := none }))]) (.cond (.tmp 232) (some 232) (.seq (.reg [] [] [.K 6 (.mv (.const (.bool false)))]) (.ret)) (.skip)))) (.reg [] [] [.M 216 22, .T 217 (.bin .add (.tmp 216) (cI 1)), .N 22 217]))
def lb5_0 : ACode := .seq (.seq (.reg [] [] [.M 150 20, .T 151 (.fa 0 (.tmp 14)), .T 152 (.load none (.tmp 151)), .T 153 (.len (.tmp 152)), .K 154 (.bin .lss (.tmp 150) (.tmp 153))]) (.cond (.tmp 154) (some 154) (.skip) (.exit 0))) (.seq (.block 1 187095045541438868888168591163195418438141489446912 (.seq (.reg [] [] [.T 157 (.fa 0 (.tmp 14)), ⟨some (158, false), .load none (.tmp 157), none, true, false⟩, .M 159 20, ⟨some (160, false), .ix 2 (.tmp 158) (.tmp 159), none, true, false⟩, ⟨some (161, false), .load (some 2) (.tmp 160), none, true, false⟩, .T 162 (.fa 0 (.tmp 12)), ⟨some (163, false), .load none (.tmp 162), none, true, false⟩, .M 164 20, ⟨some (165, false), .ix 2 (.tmp 163) (.tmp 164), none, true, false⟩, ⟨some (166, false), .load (some 2) (.tmp 165), none, true, false⟩, .K 167 (.raw ({ dst := some 167, op := Go.Op.binOp Go.BinOp.neq 33 (.tmp 161) (.tmp 166) 33, type := 4, pos := "law.go:113", after := #[{ on := 4, ground := Go.Ground.data }, { on := 9, ground := Go.Ground.data }], guard := none }))]) (.cond (.tmp 167) (some 167) (.seq (.reg [] [] [.K 6 (.mv (.const (.bool false)))]) (.ret)) (.skip)))) (.reg [] [] [.M 155 20, .T 156 (.bin .add (.tmp 155) (cI 1)), .N 20 156]))
def c5 : ACode := .seq (.reg [] [] [.K 3 (.box (.tmp 0)), .K 5 (.box (.tmp 2)), .K 6 (.mv (.const (.bool false)))]) (.seq (.reg [] [] [.T 25 (.call 20 []), .N 7 25]) (.seq (.reg [] [] [.T 26 (.load (some 2) (.tmp 3)), .T 27 (.call 21 [.tmp 26]), .N 8 27]) (.seq (.reg [] [] [.T 28 (.fa 0 (.tmp 3)), .T 29 (.load none (.tmp 28)), .M 30 1, .T 31 (.call 22 [.tmp 29, .tmp 30]), .N 9 31]) (.seq (.seq (.reg [] [] [.M 32 7, .T 33 (.not (.tmp 32)), .M 34 33, .MG 35 34 false 8, .TG 36 34 false (.not (.tmp 35)), .T 37 (.pick (.tmp 34) (.const (.bool true)) (.tmp 36)), .M 38 37, .MG 39 38 false 9, .TG 40 38 false (.bin .neq (.tmp 39) (cI 0)), .K 41 (.pick (.tmp 38) (.const (.bool true)) (.tmp 40))]) (.cond (.tmp 41) (some 41) (.seq (.reg [] [] [.M 42 7, .N 6 42]) (.ret)) (.skip))) (.seq (.reg [] [] [.T 43 (.ixArr 2 1 (.tmp 5) (cI 0)), .T 44 (.load none (.tmp 43)), .T 45 (.call 23 [.tmp 44, .const (.int .i64 300)]), .N 10 45]) (.seq (.reg [] [] [.T 46 (.ixArr 2 1 (.tmp 5) (cI 1)), .T 47 (.load none (.tmp 46)), .M 48 10, .T 49 (.bin .add (.tmp 48) (cI 1)), .T 50 (.call 23 [.tmp 47, .tmp 49]), .N 11 50]) (.seq (.reg [] [] [.T 52 (.load (some 2) (.tmp 3)), .M 53 1, .M 54 10, .T 55 (.call 24 [.tmp 52, .tmp 53, .tmp 54]), .M 51 55, .T 56 (.ext (.tmp 51) 0), .T 57 (.ext (.tmp 51) 1), .K 12 (.alloc [.im true [], .im true [], .d (.v (.bool false))] 3), ⟨none, .store 3 (.tmp 12) (.tmp 56), none, false, false⟩, .N 13 57]) (.seq (.reg [] [] [.T 59 (.load (some 2) (.tmp 3)), .M 60 1, .M 61 11, .T 62 (.call 24 [.tmp 59, .tmp 60, .tmp 61]), .M 58 62, .T 63 (.ext (.tmp 58) 0), .T 64 (.ext (.tmp 58) 1), .K 14 (.alloc [.im true [], .im true [], .d (.v (.bool false))] 3), ⟨none, .store 3 (.tmp 14) (.tmp 63), none, false, false⟩, .N 15 64]) (.seq (.seq (.reg [] [] [.M 65 13, .K 66 (.bin .neq (.tmp 65) (cI 0))]) (.cond (.tmp 66) (some 66) (.seq (.reg [] [] [.M 67 13, .T 68 (.bin .eql (.tmp 67) (cI 2)), .M 69 68, .TG 70 69 true (.fa 1 (.tmp 12)), .TG 71 69 true (.load none (.tmp 70)), .TG 72 69 true (.len (.tmp 71)), .TG 73 69 true (.bin .eql (.tmp 72) (cI 0)), .T 74 (.pick (.tmp 69) (.tmp 73) (.const (.bool false))), .M 75 74, .MG 76 75 true 15, .TG 77 75 true (.bin .eql (.tmp 76) (cI 0)), .MG 78 75 true 77, .MG 79 78 false 15, .TG 80 78 false (.bin .eql (.tmp 79) (cI 2)), .TG 81 75 true (.pick (.tmp 78) (.const (.bool true)) (.tmp 80)), .T 82 (.pick (.tmp 75) (.tmp 81) (.const (.bool false))), .N 6 82]) (.ret)) (.skip))) (.seq (.reg [] [] [.T 84 (.load (some 2) (.tmp 3)), .M 85 1, .T 86 (.fa 0 (.tmp 12)), .T 87 (.load none (.tmp 86)), .T 88 (.call 25 [.tmp 84, .tmp 85, .tmp 87]), .M 83 88, .T 89 (.ext (.tmp 83) 0), .T 90 (.ext (.tmp 83) 1), .T 91 (.ext (.tmp 83) 2), .N 16 89, .N 17 90, .M 18 91]) (.seq (.reg [] [] [.M 92 16, .T 93 (.fa 1 (.tmp 12)), .T 94 (.load none (.tmp 93)), .T 95 (.call 26 [.tmp 92, .tmp 94]), .N 19 95]) (.seq (.seq (.reg [] [] [.M 96 15, .T 97 (.bin .neq (.tmp 96) (cI 0)), .M 98 97, .MG 99 98 false 17, .TG 100 98 false (.bin .neq (.tmp 99) (cI 0)), .T 101 (.pick (.tmp 98) (.const (.bool true)) (.tmp 100)), .M 102 101, .MG 103 102 false 19, .TG 104 102 false (.not (.tmp 103)), .T 105 (.pick (.tmp 102) (.const (.bool true)) (.tmp 104)), .M 106 105, .TG 107 106 false (.fa 0 (.tmp 12)), .TG 108 106 false (.load none (.tmp 107)), .TG 109 106 false (.len (.tmp 108)), .MG 110 106 false 10, .TG 111 106 false (.bin .gtr (.tmp 109) (.tmp 110)), .T 112 (.pick (.tmp 106) (.const (.bool true)) (.tmp 111)), .M 113 112, .TG 114 113 false (.fa 0 (.tmp 14)), .TG 115 113 false (.load none (.tmp 114)), .TG 116 113 false (.len (.tmp 115)), .TG 117 113 false (.fa 0 (.tmp 12)), .TG 118 113 false (.load none (.tmp 117)), .TG 119 113 false (.len (.tmp 118)), .TG 120 113 false (.bin .gtr (.tmp 116) (.tmp 119)), .T 121 (.pick (.tmp 113) (.const (.bool true)) (.tmp 120)), .M 122 121, .TG 123 122 false (.fa 0 (.tmp 14)), .TG 124 122 false (.load none (.tmp 123)), .TG 125 122 false (.len (.tmp 124)), .TG 126 122 false (.fa 0 (.tmp 12)), .TG 127 122 false (.load none (.tmp 126)), .TG 128 122 false (.len (.tmp 127)), .TG 129 122 false (.bin .lss (.tmp 125) (.tmp 128)), .MG 130 122 false 129, .TG 131 130 true (.fa 0 (.tmp 14)), .TG 132 130 true (.load none (.tmp 131)), .TG 133 130 true (.len (.tmp 132)), .MG 134 130 true 11, .TG 135 130 true (.bin .neq (.tmp 133) (.tmp 134)), .TG 136 122 false (.pick (.tmp 130) (.tmp 135) (.const (.bool false))), .T 137 (.pick (.tmp 122) (.const (.bool true)) (.tmp 136)), .M 138 137, .TG 139 138 false (.fa 2 (.tmp 12)), .TG 140 138 false (.load none (.tmp 139)), .TG 141 138 false (.not (.tmp 140)), .MG 142 138 false 141, .TG 143 142 true (.fa 0 (.tmp 12)), .TG 144 142 true (.load none (.tmp 143)), .TG 145 142 true (.len (.tmp 144)), .MG 146 142 true 10, .TG 147 142 true (.bin .neq (.tmp 145) (.tmp 146)), .TG 148 138 false (.pick (.tmp 142) (.tmp 147) (.const (.bool false))), .K 149 (.pick (.tmp 138) (.const (.bool true)) (.tmp 148))]) (.cond (.tmp 149) (some 149) (.seq (.reg [] [] [.K 6 (.mv (.const (.bool false)))]) (.ret)) (.skip))) (.seq (.seq (.reg [] [] [.K 20 (.mv (cI 0))]) (.block 0 187095045541438868888168591163195418438141489446912 (.loop lb5_0))) (.seq (.reg [] [] [.T 169 (.load (some 2) (.tmp 3)), .T 170 (.fa 1 (.tmp 14)), .T 171 (.load none (.tmp 170)), .M 172 10, .T 173 (.fa 0 (.tmp 14)), .T 174 (.load none (.tmp 173)), .T 175 (.len (.tmp 174)), .T 176 (.bin .sub (.tmp 172) (.tmp 175)), .T 177 (.call 24 [.tmp 169, .tmp 171, .tmp 176]), .M 168 177, .T 178 (.ext (.tmp 168) 0), .T 179 (.ext (.tmp 168) 1), .K 21 (.alloc [.im true [], .im true [], .d (.v (.bool false))] 3), ⟨none, .store 3 (.tmp 21) (.tmp 178), none, false, false⟩, .N 13 179]) (.seq (.reg [] [] [.T 180 (.fa 1 (.tmp 21)), .T 181 (.load none (.tmp 180)), .T 182 (.fa 1 (.tmp 12)), .T 183 (.load none (.tmp 182)), .T 184 (.call 26 [.tmp 181, .tmp 183]), .N 19 184]) (.seq (.seq (.reg [] [] [.M 185 13, .T 186 (.bin .neq (.tmp 185) (cI 0)), .M 187 186, .MG 188 187 false 19, .TG 189 187 false (.not (.tmp 188)), .T 190 (.pick (.tmp 187) (.const (.bool true)) (.tmp 189)), .M 191 190, .TG 192 191 false (.fa 0 (.tmp 21)), .TG 193 191 false (.load none (.tmp 192)), .TG 194 191 false (.len (.tmp 193)), .TG 195 191 false (.fa 0 (.tmp 12)), .TG 196 191 false (.load none (.tmp 195)), .TG 197 191 false (.len (.tmp 196)), .TG 198 191 false (.fa 0 (.tmp 14)), .TG 199 191 false (.load none (.tmp 198)), .TG 200 191 false (.len (.tmp 199)), .TG 201 191 false (.bin .sub (.tmp 197) (.tmp 200)), .TG 202 191 false (.bin .neq (.tmp 194) (.tmp 201)), .T 203 (.pick (.tmp 191) (.const (.bool true)) (.tmp 202)), .M 204 203, .TG 205 204 false (.fa 2 (.tmp 21)), .TG 206 204 false (.load none (.tmp 205)), .TG 207 204 false (.fa 2 (.tmp 12)), .TG 208 204 false (.load none (.tmp 207)), .TG 209 204 false (.binB .neq (.tmp 206) (.tmp 208)), .K 210 (.pick (.tmp 204) (.const (.bool true)) (.tmp 209))]) (.cond (.tmp 210) (some 210) (.seq (.reg [] [] [.K 6 (.mv (.const (.bool false)))]) (.ret)) (.skip))) (.seq (.seq (.reg [] [] [.K 22 (.mv (cI 0))]) (.block 2 6901799002936398066028104821290867287667268419718086829718151379288064 (.loop lb5_1))) (.seq (.reg [] [] [.T 234 (.load (some 2) (.tmp 3)), .T 235 (.fa 1 (.tmp 12)), .T 236 (.load none (.tmp 235)), .T 237 (.call 27 [.tmp 234, .tmp 236]), .M 233 237, .T 238 (.ext (.tmp 233) 0), .T 239 (.ext (.tmp 233) 1), .T 23 (.alloc [.d (.v (.int .i64 0)), .d (.v (.int .i64 0))] 2), ⟨none, .store 2 (.tmp 23) (.tmp 238), none, false, false⟩, .N 24 239]) (.seq (.reg [] [] [.M 240 24, .T 241 (.fa 2 (.tmp 12)), .T 242 (.load none (.tmp 241)), .T 243 (.not (.tmp 242)), .T 244 (.binB .eql (.tmp 240) (.tmp 243)), .N 6 244]) (.ret))))))))))))))))))))
theorem is5 : IsF C 5 245 6901800648440955387421242735425335066885882522760206393462218295082991 c5 [.tmp 6] := ⟨⟨Tryd.f5, _, C_P ▸ Tryd.func5, rfl, rfl, rfl, by kernel_rfl, rfl⟩⟩
def qbh9 (s0 : System) (s1 : List Int) (s2 : Int × Int) (s7 : Bool) (s8 : Bool) (s9 : Int) (s10 : Int) (s11 : Int) (s13 : Int) (s15 : Int) (s16 : List Int) (s17 : Int) (s19 : Bool) (s20 : Int) (b3_0 : List Symbol) (b3_1 : List Rule) (b5_0 : Int) (b5_1 : Int) (b12_0 : List Redex) (b12_1 : List Int) (b12_2 : Bool) (b14_0 : List Redex) (b14_1 : List Int) (b14_2 : Bool) (b21_0 : List Redex) (b21_1 : List Int) (b21_2 : Bool) : Int → Unit → St := fun s22 _ => ⟨[(0, .d (.ag (qg9 s0))), (1, .d (.rd (s1.map intD))), (2, .d (.ag ((ar2D intD) s2))), (3, .ptr 0 0 0 0), (5, .ptr 1 0 0 0), (6, PB false), (7, PB s7), (8, PB s8), (9, PI s9), (10, PI s10), (11, PI s11), (12, .ptr 2 0 0 0), (13, PI s13), (14, .ptr 3 0 0 0), (15, PI s15), (16, .d (.rd (s16.map intD))), (17, PI s17), (19, PB s19), (20, PI s20), (21, .ptr 4 0 0 0), (22, PI s22)], (.row false 0 2 [[.d (.rd (b3_0.map qb9)), .d (.rd (b3_1.map qd9))]] :: (.row false 0 2 [[PI b5_0, PI b5_1]] :: (.row false 0 3 [[.d (.rd (b12_0.map qm9)), .d (.rd (b12_1.map intD)), PB b12_2]] :: (.row false 0 3 [[.d (.rd (b14_0.map qm9)), .d (.rd (b14_1.map intD)), PB b14_2]] :: (.row false 0 3 [[.d (.rd (b21_0.map qm9)), .d (.rd (b21_1.map intD)), PB b21_2]] :: [])))))⟩
def qkW9 (s0 : System) (s1 : List Int) (s2 : Int × Int) (s7 : Bool) (s8 : Bool) (s9 : Int) (s10 : Int) (s11 : Int) (s13 : Int) (s15 : Int) (s16 : List Int) (s17 : Int) (s19 : Bool) (s20 : Int) (b3_0 : List Symbol) (b3_1 : List Rule) (b5_0 : Int) (b5_1 : Int) (b12_0 : List Redex) (b12_1 : List Int) (b12_2 : Bool) (b14_0 : List Redex) (b14_1 : List Int) (b14_2 : Bool) (b21_0 : List Redex) (b21_1 : List Int) (b21_2 : Bool) : (Bool ⊕ Int) → AExit × St → Prop
  | .inl r, q => XV C [.tmp 6] (PB r) q
  | .inr s22, q => ∃ g, q = (.exit 2, qbh9 s0 s1 s2 s7 s8 s9 s10 s11 s13 s15 s16 s17 s19 s20 b3_0 b3_1 b5_0 b5_1 b12_0 b12_1 b12_2 b14_0 b14_1 b14_2 b21_0 b21_1 b21_2 s22 g)
set_option maxHeartbeats 60000000 in
theorem qem9 {s0 : System} {s1 : List Int} {s2 : Int × Int} {s7 : Bool} {s8 : Bool} {s9 : Int} {s10 : Int} {s11 : Int} {s13 : Int} {s15 : Int} {s16 : List Int} {s17 : Int} {s19 : Bool} {s20 : Int} {b3_0 : List Symbol} {b3_1 : List Rule} {b5_0 : Int} {b5_1 : Int} {b12_0 : List Redex} {b12_1 : List Int} {b12_2 : Bool} {b14_0 : List Redex} {b14_1 : List Int} {b14_2 : Bool} {b21_0 : List Redex} {b21_1 : List Int} {b21_2 : Bool} : Sim C 6901800648440955387421242735425335066885882522760206393462218295082991 lb5_1 (qT9 s0 s1 s2 s7 s8 s9 s10 s11 s13 s15 s16 s17 s19 s20 b3_0 b3_1 b5_0 b5_1 b12_0 b12_1 b12_2 b14_0 b14_1 b14_2 b21_0 b21_1 b21_2) (qbh9 s0 s1 s2 s7 s8 s9 s10 s11 s13 s15 s16 s17 s19 s20 b3_0 b3_1 b5_0 b5_1 b12_0 b12_1 b12_2 b14_0 b14_1 b14_2 b21_0 b21_1 b21_2) (qkW9 s0 s1 s2 s7 s8 s9 s10 s11 s13 s15 s16 s17 s19 s20 b3_0 b3_1 b5_0 b5_1 b12_0 b12_1 b12_2 b14_0 b14_1 b14_2 b21_0 b21_1 b21_2) := by
  intro s g r hr
  have ⟨s22, hs0⟩ : ∃ y, y = s := ⟨_, rfl⟩
  subst hs0
  simp only [qT9] at hr
  rcases iteP hr with ⟨h1, hr⟩ | ⟨h1, hr⟩
  obtain ⟨x56, h2, x57, h3, hr⟩ := bs2 hr
  rcases iteB hr with ⟨h4, hr⟩ | ⟨h4, hr⟩
  obtain rfl := oiA hr
  refine ⟨(), ?_⟩
  rotate_left
  obtain rfl := oiA hr
  refine xv_of ?_
  rotate_left
  obtain rfl := oiA hr
  refine xe_of ⟨(), rfl⟩ ?_
  rotate_left
  all_goals (simp +decide only [go_sem, qbh9, lb5_1, *])
def qbi9 (s0 : System) (s1 : List Int) (s2 : Int × Int) (s7 : Bool) (s8 : Bool) (s9 : Int) (s10 : Int) (s11 : Int) (s13 : Int) (s15 : Int) (s16 : List Int) (s17 : Int) (s19 : Bool) (b3_0 : List Symbol) (b3_1 : List Rule) (b5_0 : Int) (b5_1 : Int) (b12_0 : List Redex) (b12_1 : List Int) (b12_2 : Bool) (b14_0 : List Redex) (b14_1 : List Int) (b14_2 : Bool) : Int → Unit → St := fun s20 _ => ⟨[(0, .d (.ag (qg9 s0))), (1, .d (.rd (s1.map intD))), (2, .d (.ag ((ar2D intD) s2))), (3, .ptr 0 0 0 0), (5, .ptr 1 0 0 0), (6, PB false), (7, PB s7), (8, PB s8), (9, PI s9), (10, PI s10), (11, PI s11), (12, .ptr 2 0 0 0), (13, PI s13), (14, .ptr 3 0 0 0), (15, PI s15), (16, .d (.rd (s16.map intD))), (17, PI s17), (19, PB s19), (20, PI s20)], (.row false 0 2 [[.d (.rd (b3_0.map qb9)), .d (.rd (b3_1.map qd9))]] :: (.row false 0 2 [[PI b5_0, PI b5_1]] :: (.row false 0 3 [[.d (.rd (b12_0.map qm9)), .d (.rd (b12_1.map intD)), PB b12_2]] :: (.row false 0 3 [[.d (.rd (b14_0.map qm9)), .d (.rd (b14_1.map intD)), PB b14_2]] :: []))))⟩
def qkY9 (s0 : System) (s1 : List Int) (s2 : Int × Int) (s7 : Bool) (s8 : Bool) (s9 : Int) (s10 : Int) (s11 : Int) (s13 : Int) (s15 : Int) (s16 : List Int) (s17 : Int) (s19 : Bool) (b3_0 : List Symbol) (b3_1 : List Rule) (b5_0 : Int) (b5_1 : Int) (b12_0 : List Redex) (b12_1 : List Int) (b12_2 : Bool) (b14_0 : List Redex) (b14_1 : List Int) (b14_2 : Bool) : (Bool ⊕ Int) → AExit × St → Prop
  | .inl r, q => XV C [.tmp 6] (PB r) q
  | .inr s20, q => ∃ g, q = (.exit 0, qbi9 s0 s1 s2 s7 s8 s9 s10 s11 s13 s15 s16 s17 s19 b3_0 b3_1 b5_0 b5_1 b12_0 b12_1 b12_2 b14_0 b14_1 b14_2 s20 g)
set_option maxHeartbeats 60000000 in
theorem qet9 {s0 : System} {s1 : List Int} {s2 : Int × Int} {s7 : Bool} {s8 : Bool} {s9 : Int} {s10 : Int} {s11 : Int} {s13 : Int} {s15 : Int} {s16 : List Int} {s17 : Int} {s19 : Bool} {b3_0 : List Symbol} {b3_1 : List Rule} {b5_0 : Int} {b5_1 : Int} {b12_0 : List Redex} {b12_1 : List Int} {b12_2 : Bool} {b14_0 : List Redex} {b14_1 : List Int} {b14_2 : Bool} : Sim C 6901800648440955387421242735425335066885882522760206393462218295082991 lb5_0 (qV9 s0 s1 s2 s7 s8 s9 s10 s11 s13 s15 s16 s17 s19 b3_0 b3_1 b5_0 b5_1 b12_0 b12_1 b12_2 b14_0 b14_1 b14_2) (qbi9 s0 s1 s2 s7 s8 s9 s10 s11 s13 s15 s16 s17 s19 b3_0 b3_1 b5_0 b5_1 b12_0 b12_1 b12_2 b14_0 b14_1 b14_2) (qkY9 s0 s1 s2 s7 s8 s9 s10 s11 s13 s15 s16 s17 s19 b3_0 b3_1 b5_0 b5_1 b12_0 b12_1 b12_2 b14_0 b14_1 b14_2) := by
  intro s g r hr
  have ⟨s20, hs0⟩ : ∃ y, y = s := ⟨_, rfl⟩
  subst hs0
  simp only [qV9] at hr
  rcases iteP hr with ⟨h1, hr⟩ | ⟨h1, hr⟩
  obtain ⟨x49, h2, x50, h3, hr⟩ := bs2 hr
  rcases iteB hr with ⟨h4, hr⟩ | ⟨h4, hr⟩
  obtain rfl := oiA hr
  refine ⟨(), ?_⟩
  rotate_left
  obtain rfl := oiA hr
  refine xv_of ?_
  rotate_left
  obtain rfl := oiA hr
  refine xe_of ⟨(), rfl⟩ ?_
  rotate_left
  all_goals (simp +decide only [go_sem, qbi9, lb5_0, *])
set_option maxHeartbeats 60000000 in
theorem qlL9 {a0 : System} {a1 : List Int} {a2 : Int × Int} {r : Bool} (hr : qey9 a0 a1 a2 = some r) : Res C 5 [.ag (qg9 a0), .rd (a1.map intD), .ag ((ar2D intD) a2)] (PB r) := by
  simp only [qey9] at hr
  obtain ⟨x1, h1, x2, h2, x3, h3, hr⟩ := bs3 hr
  have h1k := (qqB9 h1).k rfl rfl rfl
  try simp only [go_sem] at h1k
  have h2k := fun h => (qqX9 h2).o rfl rfl rfl (h := h) (args := [.ag [.d (.rd (a0.Sig.map qb9)), .d (.rd (a0.Rules.map qd9))]]) rfl
  try simp only [go_sem] at h2k
  have h3k := (qqF9 h3).k rfl rfl rfl
  try simp only [go_sem] at h3k
  rcases iteB hr with ⟨h4, hr⟩ | ⟨h4, hr⟩
  simp only [h4] at hr
  rcases iteB hr with ⟨h5, hr⟩ | ⟨h5, hr⟩
  simp only [h5] at hr
  rcases iteP hr with ⟨h6, hr⟩ | ⟨h6, hr⟩
  obtain ⟨x4, h7, x5, h8, x6, h9, x7, h10, hr⟩ := bs4 hr
  have h7k := (qkM9 h7).k rfl rfl rfl
  try simp only [go_sem] at h7k
  have h8k := (qkM9 h8).k rfl rfl rfl
  try simp only [go_sem] at h8k
  have h9k := fun h => (qdx9 h9).o rfl rfl rfl (h := h) (args := [.ag [.d (.rd (a0.Sig.map qb9)), .d (.rd (a0.Rules.map qd9))], .d (.rd (a1.map intD)), PI x4]) rfl
  try simp only [go_sem] at h9k
  have h10k := fun h => (qdx9 h10).o rfl rfl rfl (h := h) (args := [.ag [.d (.rd (a0.Sig.map qb9)), .d (.rd (a0.Rules.map qd9))], .d (.rd (a1.map intD)), PI x5]) rfl
  try simp only [go_sem] at h10k
  rcases iteP hr with ⟨h11, hr⟩ | ⟨h11, hr⟩
  obtain ⟨x8, h12, x9, h13, hr⟩ := bs2 hr
  have h12k := fun h => (qic9 h12).o rfl rfl rfl (h := h) (args := [.ag [.d (.rd (a0.Sig.map qb9)), .d (.rd (a0.Rules.map qd9))], .d (.rd (a1.map intD)), .d (.rd (x6.1.Steps.map qm9))]) rfl
  try simp only [go_sem] at h12k
  have h13k := (qdf9 h13).k rfl rfl rfl
  try simp only [go_sem] at h13k
  rcases iteP hr with ⟨h14, hr⟩ | ⟨h14, hr⟩
  rcases iteP hr with ⟨h15, hr⟩ | ⟨h15, hr⟩
  rcases iteB hr with ⟨h16, hr⟩ | ⟨h16, hr⟩
  simp only [h16] at hr
  rcases iteP hr with ⟨h17, hr⟩ | ⟨h17, hr⟩
  obtain rfl := oiA hr
  refine run_V is5 (nbA rfl) ?_
  rotate_left
  rcases iteP hr with ⟨h18, hr⟩ | ⟨h18, hr⟩
  obtain rfl := oiA hr
  refine run_V is5 (nbA rfl) ?_
  rotate_left
  rcases iteP hr with ⟨h19, hr⟩ | ⟨h19, hr⟩
  rcases iteP hr with ⟨h20, hr⟩ | ⟨h20, hr⟩
  rcases iteB hr with ⟨h21, hr⟩ | ⟨h21, hr⟩
  simp only [h21] at hr
  obtain ⟨x12, h22, hr⟩ := bsome hr
  obtain ⟨q22, h22L, h22X⟩ := qet9.L (g := ()) h22
  rcases x12 with x13 | x14
  try dsimp only at hr
  obtain ⟨st22, rfl, h22R⟩ := h22X
  simp only [qbi9, go_sem] at h22L
  obtain rfl := oiA hr
  refine run_V is5 (nbA rfl) ?_
  rotate_left
  try dsimp only at hr
  obtain ⟨⟨⟩, rfl⟩ := h22X
  simp only [qbi9, go_sem] at h22L
  obtain ⟨x15, h23, x16, h24, hr⟩ := bs2 hr
  have h23k := fun h => (qdx9 h23).o rfl rfl rfl (h := h) (args := [.ag [.d (.rd (a0.Sig.map qb9)), .d (.rd (a0.Rules.map qd9))], .d (.rd (x7.1.End.map intD)), PI (w64 (x4 - (x7.1.Steps.length : Int)))]) rfl
  try simp only [go_sem] at h23k
  have h24k := (qdf9 h24).k rfl rfl rfl
  try simp only [go_sem] at h24k
  rcases iteP hr with ⟨h25, hr⟩ | ⟨h25, hr⟩
  rcases iteB hr with ⟨h26, hr⟩ | ⟨h26, hr⟩
  simp only [h26] at hr
  rcases iteP hr with ⟨h27, hr⟩ | ⟨h27, hr⟩
  rcases iteB hr with ⟨h28, hr⟩ | ⟨h28, hr⟩
  obtain rfl := oiA hr
  refine run_V is5 (nbA rfl) ?_
  rotate_left
  obtain ⟨x19, h29, hr⟩ := bsome hr
  obtain ⟨q29, h29L, h29X⟩ := qem9.L (g := ()) h29
  rcases x19 with x20 | x21
  try dsimp only at hr
  obtain ⟨st29, rfl, h29R⟩ := h29X
  simp only [qbh9, go_sem] at h29L
  obtain rfl := oiA hr
  refine run_V is5 (nbA rfl) ?_
  rotate_left
  try dsimp only at hr
  obtain ⟨⟨⟩, rfl⟩ := h29X
  simp only [qbh9, go_sem] at h29L
  obtain ⟨x22, h30, hr⟩ := bsome hr
  have h30k := fun h => (qeJ9 h30).o rfl rfl rfl (h := h) (args := [.ag [.d (.rd (a0.Sig.map qb9)), .d (.rd (a0.Rules.map qd9))], .d (.rd (x6.1.End.map intD))]) rfl
  try simp only [go_sem] at h30k
  obtain rfl := oiA hr
  refine run_V is5 (nbA rfl) ?_
  rotate_left
  obtain rfl := oiA hr
  refine run_V is5 (nbA rfl) ?_
  rotate_left
  obtain rfl := oiA hr
  refine run_V is5 (nbA rfl) ?_
  rotate_left
  obtain rfl := oiA hr
  refine run_V is5 (nbA rfl) ?_
  rotate_left
  simp only [h21] at hr
  rcases iteP hr with ⟨h31, hr⟩ | ⟨h31, hr⟩
  obtain ⟨x25, h32, hr⟩ := bsome hr
  obtain ⟨q32, h32L, h32X⟩ := qet9.L (g := ()) h32
  rcases x25 with x26 | x27
  try dsimp only at hr
  obtain ⟨st32, rfl, h32R⟩ := h32X
  simp only [qbi9, go_sem] at h32L
  obtain rfl := oiA hr
  refine run_V is5 (nbA rfl) ?_
  rotate_left
  try dsimp only at hr
  obtain ⟨⟨⟩, rfl⟩ := h32X
  simp only [qbi9, go_sem] at h32L
  obtain ⟨x28, h33, x29, h34, hr⟩ := bs2 hr
  have h33k := fun h => (qdx9 h33).o rfl rfl rfl (h := h) (args := [.ag [.d (.rd (a0.Sig.map qb9)), .d (.rd (a0.Rules.map qd9))], .d (.rd (x7.1.End.map intD)), PI (w64 (x4 - (x7.1.Steps.length : Int)))]) rfl
  try simp only [go_sem] at h33k
  have h34k := (qdf9 h34).k rfl rfl rfl
  try simp only [go_sem] at h34k
  rcases iteP hr with ⟨h35, hr⟩ | ⟨h35, hr⟩
  rcases iteB hr with ⟨h36, hr⟩ | ⟨h36, hr⟩
  simp only [h36] at hr
  rcases iteP hr with ⟨h37, hr⟩ | ⟨h37, hr⟩
  rcases iteB hr with ⟨h38, hr⟩ | ⟨h38, hr⟩
  obtain rfl := oiA hr
  refine run_V is5 (nbA rfl) ?_
  rotate_left
  obtain ⟨x32, h39, hr⟩ := bsome hr
  obtain ⟨q39, h39L, h39X⟩ := qem9.L (g := ()) h39
  rcases x32 with x33 | x34
  try dsimp only at hr
  obtain ⟨st39, rfl, h39R⟩ := h39X
  simp only [qbh9, go_sem] at h39L
  obtain rfl := oiA hr
  refine run_V is5 (nbA rfl) ?_
  rotate_left
  try dsimp only at hr
  obtain ⟨⟨⟩, rfl⟩ := h39X
  simp only [qbh9, go_sem] at h39L
  obtain ⟨x35, h40, hr⟩ := bsome hr
  have h40k := fun h => (qeJ9 h40).o rfl rfl rfl (h := h) (args := [.ag [.d (.rd (a0.Sig.map qb9)), .d (.rd (a0.Rules.map qd9))], .d (.rd (x6.1.End.map intD))]) rfl
  try simp only [go_sem] at h40k
  obtain rfl := oiA hr
  refine run_V is5 (nbA rfl) ?_
  rotate_left
  obtain rfl := oiA hr
  refine run_V is5 (nbA rfl) ?_
  rotate_left
  obtain rfl := oiA hr
  refine run_V is5 (nbA rfl) ?_
  rotate_left
  obtain rfl := oiA hr
  refine run_V is5 (nbA rfl) ?_
  rotate_left
  obtain rfl := oiA hr
  refine run_V is5 (nbA rfl) ?_
  rotate_left
  obtain rfl := oiA hr
  refine run_V is5 (nbA rfl) ?_
  rotate_left
  rcases iteB hr with ⟨h41, hr⟩ | ⟨h41, hr⟩
  simp only [h41] at hr
  obtain ⟨x38, h42, hr⟩ := bsome hr
  obtain ⟨q42, h42L, h42X⟩ := qet9.L (g := ()) h42
  rcases x38 with x39 | x40
  try dsimp only at hr
  obtain ⟨st42, rfl, h42R⟩ := h42X
  simp only [qbi9, go_sem] at h42L
  obtain rfl := oiA hr
  refine run_V is5 (nbA rfl) ?_
  rotate_left
  try dsimp only at hr
  obtain ⟨⟨⟩, rfl⟩ := h42X
  simp only [qbi9, go_sem] at h42L
  obtain ⟨x41, h43, x42, h44, hr⟩ := bs2 hr
  have h43k := fun h => (qdx9 h43).o rfl rfl rfl (h := h) (args := [.ag [.d (.rd (a0.Sig.map qb9)), .d (.rd (a0.Rules.map qd9))], .d (.rd (x7.1.End.map intD)), PI (w64 (x4 - (x7.1.Steps.length : Int)))]) rfl
  try simp only [go_sem] at h43k
  have h44k := (qdf9 h44).k rfl rfl rfl
  try simp only [go_sem] at h44k
  rcases iteP hr with ⟨h45, hr⟩ | ⟨h45, hr⟩
  rcases iteB hr with ⟨h46, hr⟩ | ⟨h46, hr⟩
  simp only [h46] at hr
  rcases iteP hr with ⟨h47, hr⟩ | ⟨h47, hr⟩
  rcases iteB hr with ⟨h48, hr⟩ | ⟨h48, hr⟩
  obtain rfl := oiA hr
  refine run_V is5 (nbA rfl) ?_
  rotate_left
  obtain ⟨x45, h49, hr⟩ := bsome hr
  obtain ⟨q49, h49L, h49X⟩ := qem9.L (g := ()) h49
  rcases x45 with x46 | x47
  try dsimp only at hr
  obtain ⟨st49, rfl, h49R⟩ := h49X
  simp only [qbh9, go_sem] at h49L
  obtain rfl := oiA hr
  refine run_V is5 (nbA rfl) ?_
  rotate_left
  try dsimp only at hr
  obtain ⟨⟨⟩, rfl⟩ := h49X
  simp only [qbh9, go_sem] at h49L
  obtain ⟨x48, h50, hr⟩ := bsome hr
  have h50k := fun h => (qeJ9 h50).o rfl rfl rfl (h := h) (args := [.ag [.d (.rd (a0.Sig.map qb9)), .d (.rd (a0.Rules.map qd9))], .d (.rd (x6.1.End.map intD))]) rfl
  try simp only [go_sem] at h50k
  obtain rfl := oiA hr
  refine run_V is5 (nbA rfl) ?_
  rotate_left
  obtain rfl := oiA hr
  refine run_V is5 (nbA rfl) ?_
  rotate_left
  obtain rfl := oiA hr
  refine run_V is5 (nbA rfl) ?_
  rotate_left
  obtain rfl := oiA hr
  refine run_V is5 (nbA rfl) ?_
  rotate_left
  simp only [h41] at hr
  rcases iteP hr with ⟨h51, hr⟩ | ⟨h51, hr⟩
  obtain ⟨x51, h52, hr⟩ := bsome hr
  obtain ⟨q52, h52L, h52X⟩ := qet9.L (g := ()) h52
  rcases x51 with x52 | x53
  try dsimp only at hr
  obtain ⟨st52, rfl, h52R⟩ := h52X
  simp only [qbi9, go_sem] at h52L
  obtain rfl := oiA hr
  refine run_V is5 (nbA rfl) ?_
  rotate_left
  try dsimp only at hr
  obtain ⟨⟨⟩, rfl⟩ := h52X
  simp only [qbi9, go_sem] at h52L
  obtain ⟨x54, h53, x55, h54, hr⟩ := bs2 hr
  have h53k := fun h => (qdx9 h53).o rfl rfl rfl (h := h) (args := [.ag [.d (.rd (a0.Sig.map qb9)), .d (.rd (a0.Rules.map qd9))], .d (.rd (x7.1.End.map intD)), PI (w64 (x4 - (x7.1.Steps.length : Int)))]) rfl
  try simp only [go_sem] at h53k
  have h54k := (qdf9 h54).k rfl rfl rfl
  try simp only [go_sem] at h54k
  rcases iteP hr with ⟨h55, hr⟩ | ⟨h55, hr⟩
  rcases iteB hr with ⟨h56, hr⟩ | ⟨h56, hr⟩
  simp only [h56] at hr
  rcases iteP hr with ⟨h57, hr⟩ | ⟨h57, hr⟩
  rcases iteB hr with ⟨h58, hr⟩ | ⟨h58, hr⟩
  obtain rfl := oiA hr
  refine run_V is5 (nbA rfl) ?_
  rotate_left
  obtain ⟨x58, h59, hr⟩ := bsome hr
  obtain ⟨q59, h59L, h59X⟩ := qem9.L (g := ()) h59
  rcases x58 with x59 | x60
  try dsimp only at hr
  obtain ⟨st59, rfl, h59R⟩ := h59X
  simp only [qbh9, go_sem] at h59L
  obtain rfl := oiA hr
  refine run_V is5 (nbA rfl) ?_
  rotate_left
  try dsimp only at hr
  obtain ⟨⟨⟩, rfl⟩ := h59X
  simp only [qbh9, go_sem] at h59L
  obtain ⟨x61, h60, hr⟩ := bsome hr
  have h60k := fun h => (qeJ9 h60).o rfl rfl rfl (h := h) (args := [.ag [.d (.rd (a0.Sig.map qb9)), .d (.rd (a0.Rules.map qd9))], .d (.rd (x6.1.End.map intD))]) rfl
  try simp only [go_sem] at h60k
  obtain rfl := oiA hr
  refine run_V is5 (nbA rfl) ?_
  rotate_left
  obtain rfl := oiA hr
  refine run_V is5 (nbA rfl) ?_
  rotate_left
  obtain rfl := oiA hr
  refine run_V is5 (nbA rfl) ?_
  rotate_left
  obtain rfl := oiA hr
  refine run_V is5 (nbA rfl) ?_
  rotate_left
  obtain rfl := oiA hr
  refine run_V is5 (nbA rfl) ?_
  rotate_left
  obtain rfl := oiA hr
  refine run_V is5 (nbA rfl) ?_
  rotate_left
  obtain rfl := oiA hr
  refine run_V is5 (nbA rfl) ?_
  rotate_left
  obtain rfl := oiA hr
  refine run_V is5 (nbA rfl) ?_
  rotate_left
  rcases iteP hr with ⟨h61, hr⟩ | ⟨h61, hr⟩
  rcases iteP hr with ⟨h62, hr⟩ | ⟨h62, hr⟩
  rcases iteP hr with ⟨h63, hr⟩ | ⟨h63, hr⟩
  obtain rfl := oiA hr
  refine run_V is5 (nbA rfl) ?_
  rotate_left
  obtain rfl := oiA hr
  refine run_V is5 (nbA rfl) ?_
  rotate_left
  obtain rfl := oiA hr
  refine run_V is5 (nbA rfl) ?_
  rotate_left
  obtain rfl := oiA hr
  refine run_V is5 (nbA rfl) ?_
  rotate_left
  obtain rfl := oiA hr
  refine run_V is5 (nbA rfl) ?_
  rotate_left
  obtain rfl := oiA hr
  refine run_V is5 (nbA rfl) ?_
  rotate_left
  simp only [h4] at hr
  obtain rfl := oiA hr
  refine run_V is5 (nbA rfl) ?_
  rotate_left
  all_goals (simp +decide only [go_sem, c5, *])
end Ld

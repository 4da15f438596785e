import Derived.Test.YtfjgfcnhklopdaaDoorSPP
import Derived.Lib.BitFns
import Derived.Test.YtfjgfcnhklopdaaDoorProg
set_option maxHeartbeats 400000
set_option linter.unusedVariables false
set_option linter.unusedSimpArgs false
namespace Ld
open Go Go.Proofs Go.Abs
noncomputable def qbp9 : List PV → AHeap → Option (PV × AHeap) := fun args h => match args with
  | [.d (.v (.string s))] => (match qbi9 s with | some b => some (.d (.v (.bool b)), h) | none => none)
  | _ => none






noncomputable def qcX9 : List PV → AHeap → Option (PV × AHeap) := fun args h => match args with
  | [.d (.v (.int .u64 n))] => if 0 ≤ n ∧ n ≤ 18446744073709551615 then some (.d (.v (.int .i64 ((Go.Lib.bitLen n.toNat : Nat) : Int))), h) else none
  | _ => none






noncomputable def h8 : Hint := ⟨935361137094779929420783573686730614830427558379511, 0, [(0, 1125899906842624), (1, 1125899906842624), (2, 935361137094779929420783573686728307861518295234560), (3, 935361137094779929420783573686728307861518295234560), (4, 935361137094779929420783573686728307861518295234560), (5, 935361137094779929420783572477765594758741701394432)], [], [], []⟩
noncomputable def h13 : Hint := ⟨10991, 0, [], [], [], []⟩
noncomputable def h14 : Hint := ⟨493815, 0, [(0, 262336), (1, 262336)], [(7, [6])], [], [(0, [(4, 0)]), (2, [(4, 0)]), (3, [(5, 2)]), (9, [(4, 0)])]⟩
noncomputable def h16 : Hint := ⟨33571891, 0, [(0, 33570816), (1, 33570816)], [], [], []⟩
noncomputable def h17 : Hint := ⟨33571891, 0, [(0, 33570816), (1, 33570816)], [], [], []⟩
noncomputable def h18 : Hint := ⟨162340826167080219680178532745199, 0, [(0, 34376515584), (1, 162339742931766913109446453559296), (2, 162339742931766913109446453559296)], [], [], [(0, [(6, 0)]), (3, [(6, 0)]), (5, [(6, 0)]), (7, [(6, 0)]), (12, [(6, 0)]), (18, [(17, 0)]), (22, [(6, 0)]), (25, [(6, 0)])]⟩
noncomputable def h22 : Hint := ⟨563, 0, [], [], [], []⟩
noncomputable def h27 : Hint := ⟨9215, 0, [], [], [], []⟩
noncomputable def h30 : Hint := ⟨55, 0, [], [], [], []⟩
noncomputable def h31 : Hint := ⟨8254960745927, 0, [(0, 4398046543872), (1, 4398046543872)], [], [], [(7, [(13, 1)])]⟩
noncomputable def h32 : Hint := ⟨1050055, 0, [], [], [], []⟩
noncomputable def h33 : Hint := ⟨584149655311, 0, [(0, 584115552256)], [], [], []⟩
noncomputable def h41 : Hint := ⟨1, 0, [], [], [], []⟩
noncomputable def h42 : Hint := ⟨8247, 0, [], [], [], []⟩
noncomputable def h43 : Hint := ⟨127, 0, [], [], [], [(0, [(4, 0)]), (5, [(4, 0)])]⟩
noncomputable def h44 : Hint := ⟨4398113682895, 0, [(0, 4398113654144), (1, 4398113654144)], [], [], []⟩
noncomputable def h45 : Hint := ⟨23, 0, [], [], [], []⟩
noncomputable def h49 : Hint := ⟨604467521783620459559879, 0, [(0, 604467521783612674930688), (1, 604467521783612674930688), (2, 604467521783612674865152)], [], [], [(0, [(6, 0)]), (2, [(6, 0)]), (4, [(9, 2)]), (12, [(6, 0)]), (16, [(17, 0)]), (21, [(6, 0)]), (25, [(6, 0)])]⟩
noncomputable def h50 : Hint := ⟨133075, 0, [(0, 132160), (1, 132160)], [], [], [(0, [(4, 0)]), (7, [(4, 0)])]⟩
noncomputable def h54 : Hint := ⟨8592099455, 0, [(0, 8592031808), (1, 8592031808)], [], [], []⟩
noncomputable def h55 : Hint := ⟨576539917677496477, 0, [(0, 576539917677496336), (1, 576539917677496336), (2, 576539917677496336), (3, 576531121047601152)], [], [], []⟩
noncomputable def h56 : Hint := ⟨18014433137672563, 0, [(0, 18014433137672448), (1, 18014433137672448)], [], [], []⟩
noncomputable def h59 : Hint := ⟨8454655, 0, [(0, 8454144), (1, 8454144)], [(6, [9])], [], []⟩
noncomputable def h60 : Hint := ⟨23, 0, [], [], [], []⟩
noncomputable def h62 : Hint := ⟨83, 0, [], [], [], []⟩
noncomputable def h65 : Hint := ⟨1161365891418472391, 0, [(0, 71303168), (1, 1161365891347161088), (2, 1161365891347161088), (3, 1161365891347161088), (4, 1157425104234250240)], [], [], [(6, [(11, 1)])]⟩
noncomputable def h66 : Hint := ⟨504373101, 0, [(0, 1052704), (1, 1052704), (2, 268435712), (3, 268435712)], [], [], [(0, [(2, 0)]), (15, [(2, 0)])]⟩
noncomputable def h69 : Hint := ⟨18049582882103101, 0, [(0, 18049582882099256), (1, 18049582882099256), (2, 18049582882099256)], [], [], []⟩
noncomputable def h77 : Hint := ⟨2155483391, 0, [(0, 2151678176), (1, 2151678176)], [], [], []⟩
noncomputable def h78 : Hint := ⟨29376735, 0, [(0, 16777216), (1, 16777216)], [], [], []⟩
noncomputable def h80 : Hint := ⟨21, 0, [], [], [], [(0, [(2, 0)]), (2, [(2, 0)]), (3, [(2, 0)])]⟩
noncomputable def h81 : Hint := ⟨131827, 0, [(0, 131712), (1, 131712)], [], [], []⟩
noncomputable def h82 : Hint := ⟨16806963, 0, [(0, 16793632), (1, 16793632)], [], [], []⟩
noncomputable def h83 : Hint := ⟨19, 0, [], [], [], []⟩
noncomputable def h84 : Hint := ⟨31, 0, [], [], [], []⟩
noncomputable def h85 : Hint := ⟨604275, 0, [], [], [], []⟩
noncomputable def h87 : Hint := ⟨16847133, 0, [(0, 16842752), (1, 16842752)], [], [], []⟩
noncomputable def h88 : Hint := ⟨72198473262318075, 0, [(0, 72198331526283264), (1, 72198331526283264)], [], [], []⟩
noncomputable def h89 : Hint := ⟨17181769757, 0, [(0, 17181442072), (1, 17181442072)], [], [], []⟩
noncomputable def h90 : Hint := ⟨5, 0, [], [], [], []⟩
noncomputable def h91 : Hint := ⟨1139, 0, [], [], [], []⟩
noncomputable def h93 : Hint := ⟨77398045, 0, [(0, 77070360), (1, 77070360), (2, 77070360)], [], [], []⟩
noncomputable def h94 : Hint := ⟨19, 0, [], [], [], []⟩
noncomputable def h95 : Hint := ⟨15, 0, [], [], [], []⟩
noncomputable def h100 : Hint := ⟨10381, 0, [], [], [], []⟩
noncomputable def h101 : Hint := ⟨9271090656346875, 0, [(0, 8606711808), (1, 9147936743096832), (2, 9147936743096832)], [], [], []⟩
noncomputable def h105 : Hint := ⟨42535296023574879666274036850519702559, 0, [(0, 42535296023574879666274036850519699456), (1, 42535296023574879666274036850519699456)], [], [], []⟩
noncomputable def h107 : Hint := ⟨5, 0, [], [], [], []⟩
noncomputable def h108 : Hint := ⟨274880005245, 0, [(0, 274880005216), (1, 274880005216), (2, 2098240), (3, 2097152)], [], [], [(0, [(2, 0)]), (1, [(3, 1)]), (12, [(2, 0)])]⟩
noncomputable def h109 : Hint := ⟨131635, 0, [(0, 131584), (1, 131584)], [], [], []⟩
noncomputable def h110 : Hint := ⟨941, 0, [(0, 800), (1, 800)], [], [], []⟩
noncomputable def h111 : Hint := ⟨5, 0, [], [], [], []⟩
noncomputable def h112 : Hint := ⟨5, 0, [], [], [], []⟩
noncomputable def h113 : Hint := ⟨134217971, 0, [], [], [], []⟩
noncomputable def h115 : Hint := ⟨5, 0, [], [], [], []⟩
noncomputable def h116 : Hint := ⟨66483, 0, [(0, 66080), (1, 66080)], [], [], []⟩
noncomputable def h117 : Hint := ⟨7, 0, [], [], [], []⟩
noncomputable def h118 : Hint := ⟨19, 0, [], [], [], []⟩
noncomputable def h119 : Hint := ⟨83, 0, [], [], [], []⟩
noncomputable def h120 : Hint := ⟨268451197, 0, [(0, 268444000), (1, 268444000)], [], [], [(0, [(2, 0)]), (2, [(4, 1)]), (11, [(2, 0)])]⟩
noncomputable def h121 : Hint := ⟨19, 0, [], [], [], []⟩
noncomputable def h122 : Hint := ⟨17179886351, 0, [(0, 17179886080), (1, 17179886080), (2, 17179886080), (3, 17179869184)], [(6, [15, 17])], [], []⟩
noncomputable def h123 : Hint := ⟨8592039695, 0, [(0, 2097152), (1, 2097152), (2, 8589934592), (3, 8589934592)], [(10, [17, 19])], [], []⟩
noncomputable def h124 : Hint := ⟨35218731966215, 0, [(0, 35218731831296), (1, 35218731831296)], [(10, [17, 19])], [], []⟩
noncomputable def h125 : Hint := ⟨1333065575601045263, 0, [(0, 1297036692682702848)], [], [], []⟩
noncomputable def h126 : Hint := ⟨33543, 0, [(0, 32768), (1, 32768)], [(3, [13, 15])], [], []⟩
noncomputable def h127 : Hint := ⟨21268317252094917911888073248812900111, 0, [(0, 21268317252094917911888073248812898304), (1, 21268317252094917911888073248812898304), (2, 68719542272), (3, 68719476736), (4, 19343440303170025034942464), (5, 19343403409644425500950528), (6, 21268317252094917911888073248812898304), (7, 21268296969665970819914479276526665728)], [(11, [15, 17]), (17, [15, 17]), (23, [15, 17])], [], []⟩
noncomputable def h128 : Hint := ⟨1217485249602318769183, 0, [(0, 1217485249602318761984), (1, 1217485249602318761984), (2, 140737488355328), (3, 140737488355328), (4, 36893628884907458560), (5, 36893488147419103232)], [(1, [13, 15]), (8, [13, 15])], [], []⟩
noncomputable def h129 : Hint := ⟨22997644815212700899627017342834150232570911, 0, [(0, 140737488355328), (1, 140737488355328), (2, 73786976294838206464), (3, 73786976294838206464), (4, 22997644815212700899624582372475683083386880), (5, 22997644815212700899624582372475683083386880), (6, 1329227995784915872903807060280344576), (7, 1329227995784915872903807060280344576), (8, 696899616682077758088864099827321577406464), (9, 696898287454081973172991196020261297061888)], [(1, [13, 15]), (8, [13, 15]), (10, [13, 15]), (18, [13, 15]), (21, [13, 15])], [], []⟩
noncomputable def h132 : Hint := ⟨1083197534392722413924130941, 0, [(0, 8256), (1, 18014673387388928), (2, 618970019642690137449562144), (3, 618970019642690137449562144)], [(19, [9])], [], []⟩
noncomputable def h134 : Hint := ⟨19, 0, [], [], [], []⟩
noncomputable def h135 : Hint := ⟨66483, 0, [(0, 66080), (1, 66080)], [], [], []⟩
noncomputable def h136 : Hint := ⟨288231475663604767, 0, [(0, 288231475663603712), (1, 288231475663603712)], [(6, [21, 23])], [], []⟩
noncomputable def h137 : Hint := ⟨5, 0, [], [], [], []⟩
noncomputable def h138 : Hint := ⟨5, 0, [], [(1, [9]), (2, [9]), (3, [9])], [], []⟩
noncomputable def h139 : Hint := ⟨271, 0, [], [], [], []⟩
noncomputable def h140 : Hint := ⟨4159, 0, [], [], [], []⟩
noncomputable def h141 : Hint := ⟨4197407, 0, [], [], [], []⟩
noncomputable def h157 : Hint := ⟨5, 0, [], [], [], []⟩
noncomputable def h160 : Hint := ⟨4, 0, [], [], [], []⟩
noncomputable def hint : FuncId → Hint
  | 8 => h8
  | 13 => h13
  | 14 => h14
  | 16 => h16
  | 17 => h17
  | 18 => h18
  | 22 => h22
  | 27 => h27
  | 30 => h30
  | 31 => h31
  | 32 => h32
  | 33 => h33
  | 41 => h41
  | 42 => h42
  | 43 => h43
  | 44 => h44
  | 45 => h45
  | 49 => h49
  | 50 => h50
  | 54 => h54
  | 55 => h55
  | 56 => h56
  | 59 => h59
  | 60 => h60
  | 62 => h62
  | 65 => h65
  | 66 => h66
  | 69 => h69
  | 77 => h77
  | 78 => h78
  | 80 => h80
  | 81 => h81
  | 82 => h82
  | 83 => h83
  | 84 => h84
  | 85 => h85
  | 87 => h87
  | 88 => h88
  | 89 => h89
  | 90 => h90
  | 91 => h91
  | 93 => h93
  | 94 => h94
  | 95 => h95
  | 100 => h100
  | 101 => h101
  | 105 => h105
  | 107 => h107
  | 108 => h108
  | 109 => h109
  | 110 => h110
  | 111 => h111
  | 112 => h112
  | 113 => h113
  | 115 => h115
  | 116 => h116
  | 117 => h117
  | 118 => h118
  | 119 => h119
  | 120 => h120
  | 121 => h121
  | 122 => h122
  | 123 => h123
  | 124 => h124
  | 125 => h125
  | 126 => h126
  | 127 => h127
  | 128 => h128
  | 129 => h129
  | 132 => h132
  | 134 => h134
  | 135 => h135
  | 136 => h136
  | 137 => h137
  | 138 => h138
  | 139 => h139
  | 140 => h140
  | 141 => h141
  | 157 => h157
  | 160 => h160
  | _ => ⟨0, 0, [], [], [], []⟩
def mode : FuncId → Nat
  | 44 => 1
  | 45 => 1
  | 59 => 1
  | 60 => 1
  | 65 => 1
  | 78 => 1
  | 83 => 1
  | 91 => 1
  | 105 => 1
  | 113 => 1
  | 122 => 1
  | 123 => 1
  | 124 => 1
  | 125 => 1
  | 126 => 1
  | 127 => 1
  | 128 => 1
  | 129 => 1
  | 132 => 1
  | 136 => 1
  | 138 => 1
  | 139 => 1
  | 140 => 1
  | 141 => 1
  | 157 => 1
  | _ => 0
noncomputable def prim : FuncId → Option (List PV → AHeap → Option (PV × AHeap))
  | 58 => some (qgU9 1 8)
  | 92 => some (qhC9 1 8)
  | 106 => some qcX9
  | 114 => some qbp9
  | _ => none
def uses : List FuncId := [8, 13, 14, 16, 17, 18, 22, 27, 30, 31, 32, 33, 41, 42, 43, 44, 45, 49, 50, 54, 55, 56, 59, 60, 62, 65, 66, 69, 77, 78, 80, 81, 82, 83, 84, 85, 87, 88, 89, 90, 91, 93, 94, 95, 100, 101, 105, 107, 108, 109, 110, 111, 112, 113, 115, 116, 117, 118, 119, 120, 121, 122, 123, 124, 125, 126, 127, 128, 129, 132, 134, 135, 136, 137, 138, 139, 140, 141, 157, 160]
def settles : List (Nat × String) := [(4, "law.go:16"), (5, "law.go:16"), (6, "law.go:16"), (8, "law.go:16"), (9, "law.go:16"), (11, "law.go:16"), (75, "match.go:55")]
noncomputable def C : Cfg := { P := Tryd.prog, mode := mode, prim := prim, hint := hint, use := fun g => uses.contains g, settle := fun o => settles.any fun p => o.dst == some p.1 && o.pos == p.2 }
theorem C_P : C.P = Tryd.prog := rfl





theorem qBF9 {args : List PV} {h : AHeap} : callP C (Lim C) 58 args h = qgU9 1 8 args h := rfl
theorem qAt9 (W0 : World) : FSound W0 C.P 58 (qgU9 1 8) := qst9 (P := Tryd.prog) (hint := ⟨21, 0, [], [], [], []⟩) Tryd.func58 (by kernel_rfl) ⟨rfl, rfl, rfl, rfl, ⟨_, rfl⟩, rfl, rfl, ⟨_, Tryd.underlying26⟩, rfl, rfl, by kernel_rfl, by kernel_rfl, by kernel_rfl, by kernel_rfl, by kernel_rfl, by kernel_rfl, rfl, by decide⟩




noncomputable def Cg92 : Cfg := { P := Tryd.prog, mode := fun _ => 1, prim := fun _ => none, hint := fun _ => ⟨65619, 0, [], [], [], []⟩, use := fun g => g == 92 }
def gc92 : ACode := .seq (.reg [] [] [.K 4 (.mv (.const (.slice none 0 0)))]) (.seq (.seq (.reg [] [] [.M 5 1, .K 6 (.bin .lss (.tmp 5) (cI 0))]) (.cond (.tmp 6) (some 6) (.reg [] [] [.T 7 (.mkI 9 (.const (.string { data := #[99, 97, 110, 110, 111, 116, 32, 98, 101, 32, 110, 101, 103, 97, 116, 105, 118, 101] }))), ⟨none, .raw ({ dst := none, op := Go.Op.panic (.tmp 7), type := 0, pos := "slices.go:424", after := #[{ on := 0, ground := Go.Ground.data }], guard := none }), none, false, false⟩]) (.skip))) (.seq (.seq (.reg [] [] [.M 8 1, .M 9 0, .T 10 (.raw ({ dst := some 10, op := Go.Op.call { callee := Go.Callee.builtin Go.Builtin.cap, args := #[.tmp 9], argTypes := #[26] }, type := 3, pos := "slices.go:426", after := #[{ on := 1, ground := Go.Ground.data }], guard := none })), .M 11 0, .T 12 (.len (.tmp 11)), .T 13 (.bin .sub (.tmp 10) (.tmp 12)), .T 14 (.bin .sub (.tmp 8) (.tmp 13)), .N 1 14]) (.seq (.reg [] [] [.M 15 1, .K 16 (.bin .gtr (.tmp 15) (cI 0))]) (.cond (.tmp 16) (some 16) (.reg [] [] [.M 17 0, .M 18 0, .T 19 (.raw ({ dst := some 19, op := Go.Op.call { callee := Go.Callee.builtin Go.Builtin.cap, args := #[.tmp 18], argTypes := #[26] }, type := 3, pos := "slices.go:428", after := #[{ on := 1, ground := Go.Ground.data }], guard := none })), .T 20 (.cut 1 (.tmp 17) none (some (.tmp 19))), .M 21 1, .T 22 (.raw ({ dst := some 22, op := Go.Op.call { callee := Go.Callee.builtin Go.Builtin.append, args := #[.tmp 20, .tmp 21], argTypes := #[26, 3] }, type := 26, pos := "slices.go:428", after := #[{ on := 3, ground := Go.Ground.data }, { on := 4, ground := Go.Ground.data }], guard := none })), .M 23 0, .T 24 (.len (.tmp 23)), .T 25 (.cut 1 (.tmp 22) none (some (.tmp 24))), .N 0 25]) (.skip)))) (.seq (.reg [] [] [.M 26 0, .N 4 26]) (.ret))))
theorem gis92 : IsF Cg92 92 27 65619 gc92 [.tmp 4] := ⟨⟨Tryd.f92, _, (rfl : Cg92.P = Tryd.prog) ▸ Tryd.func92, rfl, rfl, rfl, by kernel_rfl, rfl⟩⟩
theorem gcap92 {h : AHeap} : qbl9 Cg92 h .cap #[26] 3 [.im true []] = some (.d (.v (.int .i64 0)), h) := by
  have hu : Cg92.P.underlying 26 = some (.slice 3) := by kernel_rfl
  simp [qbl9, hu]
theorem gapp92 {h : AHeap} {n : Int} (h0 : 0 < n) (hn : n * 8 ≤ 140737488355328) : qbl9 Cg92 h .append #[26, 3] 26 [.im true [], .d (.v (.int .i64 n))] = some (.ref h.length 0 0 n.toNat, h ++ [.row false 0 1 (List.replicate n.toNat [.d (.v (.int .i64 0))])]) := by
  have hu : Cg92.P.underlying 3 = some (.int .i64) := by kernel_rfl
  have hs : qM9 Cg92.P 26 = some 3 := by kernel_rfl
  have hs2 : qM9 Cg92.P 3 = none := by kernel_rfl
  have hz : zeroCells Cg92.P 3 = some [.d (.v (.int .i64 0))] := by kernel_rfl
  have hi : (Cg92.P.info? 3).map (fun i => (i.size, i.bytes)) = some (1, 8) := by kernel_rfl
  obtain ⟨i, hi1, hi2⟩ := Option.map_eq_some_iff.1 hi
  simp only [Prod.mk.injEq] at hi2
  simp only [qbl9, List.getElem?_toArray, List.getElem?_cons_zero, List.getElem?_cons_succ, hs2, qhq9, hs, hu, hi1, hz, hi2.1, hi2.2]
  rw [if_pos ⟨h0, by simpa using hn, by decide, by decide⟩]
  rfl
theorem gzero92 (h : AHeap) : Lim Cg92 92 [.im true [], .d (.v (.int .i64 0))] h = some (resOf [.im true []], h) := by
  have e1 : w64 (0 - w64 (0 - 0)) = 0 := by decide
  refine run_L gis92 (nbA rfl) ?_
  simp +decide only [go_sem, gc92, qtk9, gcap92, e1]
theorem gpos92 {n : Int} (h0 : 0 < n) (hn : n * 8 ≤ 140737488355328) (h : AHeap) : Lim Cg92 92 [.im true [], .d (.v (.int .i64 n))] h = some (resOf [.ref h.length 0 0 0], h ++ [.row false 0 1 (List.replicate n.toNat [.d (.v (.int .i64 0))])]) := by
  have e0 : (n < 0) = False := eq_false (by omega)
  have e1 : w64 (n - w64 (0 - 0)) = n := by
    have : w64 (0 - 0) = 0 := by decide
    rw [this, qe9 (by omega) (by omega)]; omega
  have e2 : (0 < n) = True := eq_true h0
  have e3 := gapp92 (h := h) h0 hn
  have e4 : cutA 1 h (.im true []) none (some (.d (.v (.int .i64 0)))) = some (.im true []) := rfl
  have e5 : ∀ es, cutA 1 (h ++ [.row false 0 1 es]) (.ref h.length 0 0 n.toNat) none (some (.d (.v (.int .i64 0)))) = some (.ref h.length 0 0 0) := fun es => by
    simp [cutA, lenP, bnd, qbR9, szOk, cutP]
    try omega
  refine run_L gis92 (nbA rfl) ?_
  simp +decide only [semA, gc92, qL9, qtk9, qxc9, gcap92, e0, e1, e2, e3, e4, e5, go_sem]
theorem gall92 : okTF Cg92.P (Cg92.hint 92) 92 = true := by kernel_rfl
theorem gok92 (W0 : World) : COk W0 Cg92 where
  use := fun g hg => by
    have : g = 92 := by simpa [Cg92] using hg
    subst this
    exact ⟨Tryd.f92, Tryd.func92, of_decide_eq_true (by kernel_rfl), rfl⟩
  prim := fun g p hg => by cases hg
  orders := by kernel_rfl
  hints := fun g fn c hg hf hc => by
    have : g = 92 := by simpa [Cg92] using hg
    subst this
    exact qBa9 gall92 hf hc
theorem qAN9 (W0 : World) : FSound W0 C.P 92 (qhC9 1 8) := qva9 (by decide) (qpg9 (gok92 W0) 92 rfl) gzero92 (fun h k hk hb => ⟨_, gpos92 hk hb h⟩)
theorem gr_92 {args : List PV} {h : AHeap} : callP C (Lim C) 92 args h = qhC9 1 8 args h := rfl

attribute [go_sem] qBF9 qgU9
attribute [go_sem] gr_92 qhC9
theorem two33 : Two C.P 33 := Two.of (by kernel_rfl)
theorem neq33aa {h : AHeap} {x y : Operand} {a b c d : Int} : opBin C.P h .neq 33 x y (.ag [.d (.v (.int .i64 a)), .d (.v (.int .i64 b))]) (.ag [.d (.v (.int .i64 c)), .d (.v (.int .i64 d))]) = some (.d (.v (.bool (!(decide (a = c) && decide (b = d))))), h) := qlZ9 two33 rfl rfl
theorem neq33ad {h : AHeap} {x y : Operand} {a b c d : Int} : opBin C.P h .neq 33 x y (.ag [.d (.v (.int .i64 a)), .d (.v (.int .i64 b))]) (.d (.ag [.v (.int .i64 c), .v (.int .i64 d)])) = some (.d (.v (.bool (!(decide (a = c) && decide (b = d))))), h) := qlZ9 two33 rfl rfl
theorem neq33da {h : AHeap} {x y : Operand} {a b c d : Int} : opBin C.P h .neq 33 x y (.d (.ag [.v (.int .i64 a), .v (.int .i64 b)])) (.ag [.d (.v (.int .i64 c)), .d (.v (.int .i64 d))]) = some (.d (.v (.bool (!(decide (a = c) && decide (b = d))))), h) := qlZ9 two33 rfl rfl
theorem neq33dd {h : AHeap} {x y : Operand} {a b c d : Int} : opBin C.P h .neq 33 x y (.d (.ag [.v (.int .i64 a), .v (.int .i64 b)])) (.d (.ag [.v (.int .i64 c), .v (.int .i64 d)])) = some (.d (.v (.bool (!(decide (a = c) && decide (b = d))))), h) := qlZ9 two33 rfl rfl
theorem eql33aa {h : AHeap} {x y : Operand} {a b c d : Int} : opBin C.P h .eql 33 x y (.ag [.d (.v (.int .i64 a)), .d (.v (.int .i64 b))]) (.ag [.d (.v (.int .i64 c)), .d (.v (.int .i64 d))]) = some (.d (.v (.bool (decide (a = c) && decide (b = d)))), h) := qlX9 two33 rfl rfl
theorem eql33ad {h : AHeap} {x y : Operand} {a b c d : Int} : opBin C.P h .eql 33 x y (.ag [.d (.v (.int .i64 a)), .d (.v (.int .i64 b))]) (.d (.ag [.v (.int .i64 c), .v (.int .i64 d)])) = some (.d (.v (.bool (decide (a = c) && decide (b = d)))), h) := qlX9 two33 rfl rfl
theorem eql33da {h : AHeap} {x y : Operand} {a b c d : Int} : opBin C.P h .eql 33 x y (.d (.ag [.v (.int .i64 a), .v (.int .i64 b)])) (.ag [.d (.v (.int .i64 c)), .d (.v (.int .i64 d))]) = some (.d (.v (.bool (decide (a = c) && decide (b = d)))), h) := qlX9 two33 rfl rfl
theorem eql33dd {h : AHeap} {x y : Operand} {a b c d : Int} : opBin C.P h .eql 33 x y (.d (.ag [.v (.int .i64 a), .v (.int .i64 b)])) (.d (.ag [.v (.int .i64 c), .v (.int .i64 d)])) = some (.d (.v (.bool (decide (a = c) && decide (b = d)))), h) := qlX9 two33 rfl rfl
attribute [go_sem] neq33aa neq33ad neq33da neq33dd eql33aa eql33ad eql33da eql33dd
theorem rc_25 {s : St} {a : Nat} : resP C.P s (.cell a 25) = rcA s a 2 := qvw9 (by kernel_rfl) (by kernel_rfl)
theorem rc_33 {s : St} {a : Nat} : resP C.P s (.cell a 33) = rcA s a 2 := qvw9 (by kernel_rfl) (by kernel_rfl)
attribute [go_sem] rc_25 rc_33
end Ld

import Derived.Test.YtfjgfcnhklopdaaDoorWKP
import Derived.Lib.BitFns
import Derived.Test.YtfjgfcnhklopdaaDoorProg
set_option maxHeartbeats 400000
set_option linter.unusedVariables false
set_option linter.unusedSimpArgs false
namespace Ld
open Go Go.Proofs Go.Abs
noncomputable def qbp9 : List PV → AHeap → Option (PV × AHeap) := fun args h => match args with
  | [.d (.v (.string s))] => (match qbg9 s with | some b => some (.d (.v (.bool b)), h) | none => none)
  | _ => none






noncomputable def qcU9 : List PV → AHeap → Option (PV × AHeap) := fun args h => match args with
  | [.d (.v (.int .u64 n))] => if 0 ≤ n ∧ n ≤ 18446744073709551615 then some (.d (.v (.int .i64 ((Go.Lib.bitLen n.toNat : Nat) : Int))), h) else none
  | _ => none

noncomputable def h5 : Hint := ⟨6901800648440955387421242735425335066885882522760206393462218295082991, 0, [(0, 187095045541438868888168591163195418438141489446912), (1, 187095045541438868888168591163195418438141489446912), (2, 6901799002936398066028104821290867287667268419718086829718151379288064), (3, 6901799002936398066028104821290867287667268419718086829718151379288064)], [], [], []⟩
noncomputable def h18 : Hint := ⟨162340826167080219680178532745199, 0, [(0, 34376515584), (1, 162339742931766913109446453559296), (2, 162339742931766913109446453559296)], [], [], [(0, [(6, 0)]), (3, [(6, 0)]), (5, [(6, 0)]), (7, [(6, 0)]), (12, [(6, 0)]), (18, [(17, 0)]), (22, [(6, 0)]), (25, [(6, 0)])]⟩
noncomputable def h20 : Hint := ⟨64511, 0, [], [], [], [(2, [(2, 0)])]⟩
noncomputable def h21 : Hint := ⟨15, 0, [], [], [], []⟩
noncomputable def h22 : Hint := ⟨563, 0, [], [], [], []⟩
noncomputable def h23 : Hint := ⟨83, 0, [], [], [], []⟩
noncomputable def h24 : Hint := ⟨36895739964480045007, 0, [(4096, 36895739964412673024)], [], [], [(0, [(6, 4095)]), (3, [(6, 4095)]), (5, [(6, 4095)]), (6, [(9, 2)]), (8, [(6, 4095)]), (15, [(6, 4095)])]⟩
noncomputable def h25 : Hint := ⟨1100019417039, 0, [(0, 1099780078592), (1, 1099780078592)], [], [], [(0, [(6, 0)]), (3, [(6, 0)]), (5, [(6, 0)]), (6, [(1, 0)]), (12, [(6, 0)])]⟩
noncomputable def h26 : Hint := ⟨33571891, 0, [(0, 33570816), (1, 33570816)], [], [], []⟩
noncomputable def h27 : Hint := ⟨9215, 0, [], [], [], []⟩
noncomputable def h42 : Hint := ⟨8247, 0, [], [], [], []⟩
noncomputable def h43 : Hint := ⟨127, 0, [], [], [], [(0, [(4, 0)]), (5, [(4, 0)])]⟩
noncomputable def h44 : Hint := ⟨4398113682895, 0, [(0, 4398113654144), (1, 4398113654144)], [], [], []⟩
noncomputable def h49 : Hint := ⟨604467521783620459559879, 0, [(0, 604467521783612674930688), (1, 604467521783612674930688), (2, 604467521783612674865152)], [], [], [(0, [(6, 0)]), (2, [(6, 0)]), (4, [(9, 2)]), (12, [(6, 0)]), (16, [(17, 0)]), (21, [(6, 0)]), (25, [(6, 0)])]⟩
noncomputable def h50 : Hint := ⟨133075, 0, [(0, 132160), (1, 132160)], [], [], [(0, [(4, 0)]), (7, [(4, 0)])]⟩
noncomputable def h52 : Hint := ⟨1, 0, [], [], [], []⟩
noncomputable def h53 : Hint := ⟨140755205095551, 0, [(0, 140754668224512), (1, 140754668224512)], [], [], []⟩
noncomputable def h54 : Hint := ⟨8592099455, 0, [(0, 8592031808), (1, 8592031808)], [], [], []⟩
noncomputable def h55 : Hint := ⟨576539917677496477, 0, [(0, 576539917677496336), (1, 576539917677496336), (2, 576539917677496336), (3, 576531121047601152)], [], [], []⟩
noncomputable def h56 : Hint := ⟨18014433137672563, 0, [(0, 18014433137672448), (1, 18014433137672448)], [], [], []⟩
noncomputable def h57 : Hint := ⟨8247, 0, [], [], [], []⟩
noncomputable def h59 : Hint := ⟨8454655, 0, [(0, 8454144), (1, 8454144)], [(6, [9])], [], []⟩
noncomputable def h60 : Hint := ⟨23, 0, [], [], [], []⟩
noncomputable def h62 : Hint := ⟨83, 0, [], [], [], []⟩
noncomputable def h69 : Hint := ⟨18049582882103101, 0, [(0, 18049582882099256), (1, 18049582882099256), (2, 18049582882099256)], [], [], []⟩
noncomputable def h77 : Hint := ⟨2155483391, 0, [(0, 2151678176), (1, 2151678176)], [], [], []⟩
noncomputable def h78 : Hint := ⟨29376735, 0, [(0, 16777216), (1, 16777216)], [], [], []⟩
noncomputable def h80 : Hint := ⟨21, 0, [], [], [], [(0, [(2, 0)]), (2, [(2, 0)]), (3, [(2, 0)])]⟩
noncomputable def h81 : Hint := ⟨131827, 0, [(0, 131712), (1, 131712)], [], [], []⟩
noncomputable def h82 : Hint := ⟨16806963, 0, [(0, 16793632), (1, 16793632)], [], [], []⟩
noncomputable def h83 : Hint := ⟨19, 0, [], [], [], []⟩
noncomputable def h84 : Hint := ⟨31, 0, [], [], [], []⟩
noncomputable def h85 : Hint := ⟨604275, 0, [], [], [], []⟩
noncomputable def h87 : Hint := ⟨16847133, 0, [(0, 16842752), (1, 16842752)], [], [], []⟩
noncomputable def h88 : Hint := ⟨72198473262318075, 0, [(0, 72198331526283264), (1, 72198331526283264)], [], [], []⟩
noncomputable def h89 : Hint := ⟨17181769757, 0, [(0, 17181442072), (1, 17181442072)], [], [], []⟩
noncomputable def h90 : Hint := ⟨5, 0, [], [], [], []⟩
noncomputable def h91 : Hint := ⟨1139, 0, [], [], [], []⟩
noncomputable def h93 : Hint := ⟨77398045, 0, [(0, 77070360), (1, 77070360), (2, 77070360)], [], [], []⟩
noncomputable def h94 : Hint := ⟨19, 0, [], [], [], []⟩
noncomputable def h95 : Hint := ⟨15, 0, [], [], [], []⟩
noncomputable def h100 : Hint := ⟨10381, 0, [], [], [], []⟩
noncomputable def h101 : Hint := ⟨9271090656346875, 0, [(0, 8606711808), (1, 9147936743096832), (2, 9147936743096832)], [], [], []⟩
noncomputable def h105 : Hint := ⟨42535296023574879666274036850519702559, 0, [(0, 42535296023574879666274036850519699456), (1, 42535296023574879666274036850519699456)], [], [], []⟩
noncomputable def h107 : Hint := ⟨5, 0, [], [], [], []⟩
noncomputable def h108 : Hint := ⟨274880005245, 0, [(0, 274880005216), (1, 274880005216), (2, 2098240), (3, 2097152)], [], [], [(0, [(2, 0)]), (1, [(3, 1)]), (12, [(2, 0)])]⟩
noncomputable def h109 : Hint := ⟨131635, 0, [(0, 131584), (1, 131584)], [], [], []⟩
noncomputable def h110 : Hint := ⟨941, 0, [(0, 800), (1, 800)], [], [], []⟩
noncomputable def h111 : Hint := ⟨5, 0, [], [], [], []⟩
noncomputable def h112 : Hint := ⟨5, 0, [], [], [], []⟩
noncomputable def h113 : Hint := ⟨134217971, 0, [], [], [], []⟩
noncomputable def h115 : Hint := ⟨5, 0, [], [], [], []⟩
noncomputable def h116 : Hint := ⟨66483, 0, [(0, 66080), (1, 66080)], [], [], []⟩
noncomputable def h117 : Hint := ⟨7, 0, [], [], [], []⟩
noncomputable def h118 : Hint := ⟨19, 0, [], [], [], []⟩
noncomputable def h119 : Hint := ⟨83, 0, [], [], [], []⟩
noncomputable def h120 : Hint := ⟨268451197, 0, [(0, 268444000), (1, 268444000)], [], [], [(0, [(2, 0)]), (2, [(4, 1)]), (11, [(2, 0)])]⟩
noncomputable def h121 : Hint := ⟨19, 0, [], [], [], []⟩
noncomputable def h122 : Hint := ⟨17179886351, 0, [(0, 17179886080), (1, 17179886080), (2, 17179886080), (3, 17179869184)], [(6, [15, 17])], [], []⟩
noncomputable def h123 : Hint := ⟨8592039695, 0, [(0, 2097152), (1, 2097152), (2, 8589934592), (3, 8589934592)], [(10, [17, 19])], [], []⟩
noncomputable def h124 : Hint := ⟨35218731966215, 0, [(0, 35218731831296), (1, 35218731831296)], [(10, [17, 19])], [], []⟩
noncomputable def h125 : Hint := ⟨1333065575601045263, 0, [(0, 1297036692682702848)], [], [], []⟩
noncomputable def h126 : Hint := ⟨33543, 0, [(0, 32768), (1, 32768)], [(3, [13, 15])], [], []⟩
noncomputable def h127 : Hint := ⟨21268317252094917911888073248812900111, 0, [(0, 21268317252094917911888073248812898304), (1, 21268317252094917911888073248812898304), (2, 68719542272), (3, 68719476736), (4, 19343440303170025034942464), (5, 19343403409644425500950528), (6, 21268317252094917911888073248812898304), (7, 21268296969665970819914479276526665728)], [(11, [15, 17]), (17, [15, 17]), (23, [15, 17])], [], []⟩
noncomputable def h128 : Hint := ⟨1217485249602318769183, 0, [(0, 1217485249602318761984), (1, 1217485249602318761984), (2, 140737488355328), (3, 140737488355328), (4, 36893628884907458560), (5, 36893488147419103232)], [(1, [13, 15]), (8, [13, 15])], [], []⟩
noncomputable def h129 : Hint := ⟨22997644815212700899627017342834150232570911, 0, [(0, 140737488355328), (1, 140737488355328), (2, 73786976294838206464), (3, 73786976294838206464), (4, 22997644815212700899624582372475683083386880), (5, 22997644815212700899624582372475683083386880), (6, 1329227995784915872903807060280344576), (7, 1329227995784915872903807060280344576), (8, 696899616682077758088864099827321577406464), (9, 696898287454081973172991196020261297061888)], [(1, [13, 15]), (8, [13, 15]), (10, [13, 15]), (18, [13, 15]), (21, [13, 15])], [], []⟩
noncomputable def h132 : Hint := ⟨1083197534392722413924130941, 0, [(0, 8256), (1, 18014673387388928), (2, 618970019642690137449562144), (3, 618970019642690137449562144)], [(19, [9])], [], []⟩
noncomputable def h134 : Hint := ⟨19, 0, [], [], [], []⟩
noncomputable def h135 : Hint := ⟨66483, 0, [(0, 66080), (1, 66080)], [], [], []⟩
noncomputable def h136 : Hint := ⟨288231475663604767, 0, [(0, 288231475663603712), (1, 288231475663603712)], [(6, [21, 23])], [], []⟩
noncomputable def h137 : Hint := ⟨5, 0, [], [], [], []⟩
noncomputable def h138 : Hint := ⟨5, 0, [], [(1, [9]), (2, [9]), (3, [9])], [], []⟩
noncomputable def h139 : Hint := ⟨271, 0, [], [], [], []⟩
noncomputable def h140 : Hint := ⟨4159, 0, [], [], [], []⟩
noncomputable def h141 : Hint := ⟨4197407, 0, [], [], [], []⟩
noncomputable def h157 : Hint := ⟨5, 0, [], [], [], []⟩
noncomputable def h160 : Hint := ⟨4, 0, [], [], [], []⟩
noncomputable def hint : FuncId → Hint
  | 5 => h5
  | 18 => h18
  | 20 => h20
  | 21 => h21
  | 22 => h22
  | 23 => h23
  | 24 => h24
  | 25 => h25
  | 26 => h26
  | 27 => h27
  | 42 => h42
  | 43 => h43
  | 44 => h44
  | 49 => h49
  | 50 => h50
  | 52 => h52
  | 53 => h53
  | 54 => h54
  | 55 => h55
  | 56 => h56
  | 57 => h57
  | 59 => h59
  | 60 => h60
  | 62 => h62
  | 69 => h69
  | 77 => h77
  | 78 => h78
  | 80 => h80
  | 81 => h81
  | 82 => h82
  | 83 => h83
  | 84 => h84
  | 85 => h85
  | 87 => h87
  | 88 => h88
  | 89 => h89
  | 90 => h90
  | 91 => h91
  | 93 => h93
  | 94 => h94
  | 95 => h95
  | 100 => h100
  | 101 => h101
  | 105 => h105
  | 107 => h107
  | 108 => h108
  | 109 => h109
  | 110 => h110
  | 111 => h111
  | 112 => h112
  | 113 => h113
  | 115 => h115
  | 116 => h116
  | 117 => h117
  | 118 => h118
  | 119 => h119
  | 120 => h120
  | 121 => h121
  | 122 => h122
  | 123 => h123
  | 124 => h124
  | 125 => h125
  | 126 => h126
  | 127 => h127
  | 128 => h128
  | 129 => h129
  | 132 => h132
  | 134 => h134
  | 135 => h135
  | 136 => h136
  | 137 => h137
  | 138 => h138
  | 139 => h139
  | 140 => h140
  | 141 => h141
  | 157 => h157
  | 160 => h160
  | _ => ⟨0, 0, [], [], [], []⟩
def mode : FuncId → Nat
  | 44 => 1
  | 59 => 1
  | 60 => 1
  | 78 => 1
  | 83 => 1
  | 91 => 1
  | 105 => 1
  | 113 => 1
  | 122 => 1
  | 123 => 1
  | 124 => 1
  | 125 => 1
  | 126 => 1
  | 127 => 1
  | 128 => 1
  | 129 => 1
  | 132 => 1
  | 136 => 1
  | 138 => 1
  | 139 => 1
  | 140 => 1
  | 141 => 1
  | 157 => 1
  | _ => 0
noncomputable def prim : FuncId → Option (List PV → AHeap → Option (PV × AHeap))
  | 58 => some (qgg9 1 8)
  | 106 => some qcU9
  | 114 => some qbp9
  | _ => none
def uses : List FuncId := [5, 18, 20, 21, 22, 23, 24, 25, 26, 27, 42, 43, 44, 49, 50, 52, 53, 54, 55, 56, 57, 59, 60, 62, 69, 77, 78, 80, 81, 82, 83, 84, 85, 87, 88, 89, 90, 91, 93, 94, 95, 100, 101, 105, 107, 108, 109, 110, 111, 112, 113, 115, 116, 117, 118, 119, 120, 121, 122, 123, 124, 125, 126, 127, 128, 129, 132, 134, 135, 136, 137, 138, 139, 140, 141, 157, 160]
def settles : List (Nat × String) := [(4, "law.go:16"), (5, "law.go:16"), (6, "law.go:16"), (8, "law.go:16"), (9, "law.go:16"), (11, "law.go:16"), (29, "walk.go:29"), (52, "law.go:27"), (53, "law.go:27"), (58, "law.go:28"), (59, "law.go:28"), (75, "match.go:55")]
noncomputable def C : Cfg := { P := Tryd.prog, mode := mode, prim := prim, hint := hint, use := fun g => uses.contains g, settle := fun o => settles.any fun p => o.dst == some p.1 && o.pos == p.2 }
theorem C_P : C.P = Tryd.prog := rfl





theorem qzM9 {args : List PV} {h : AHeap} : callP C (Lim C) 58 args h = qgg9 1 8 args h := rfl
theorem qzu9 (W0 : World) : FSound W0 C.P 58 (qgg9 1 8) := qqZ9 (P := Tryd.prog) (hint := ⟨21, 0, [], [], [], []⟩) Tryd.func58 (by kernel_rfl) ⟨rfl, rfl, rfl, rfl, ⟨_, rfl⟩, rfl, rfl, ⟨_, Tryd.underlying26⟩, rfl, rfl, by kernel_rfl, by kernel_rfl, by kernel_rfl, by kernel_rfl, by kernel_rfl, by kernel_rfl, rfl, by decide⟩

attribute [go_sem] qzM9 qgg9
theorem two33 : Two C.P 33 := Two.of (by kernel_rfl)
theorem neq33aa {h : AHeap} {x y : Operand} {a b c d : Int} : opBin C.P h .neq 33 x y (.ag [.d (.v (.int .i64 a)), .d (.v (.int .i64 b))]) (.ag [.d (.v (.int .i64 c)), .d (.v (.int .i64 d))]) = some (.d (.v (.bool (!(decide (a = c) && decide (b = d))))), h) := qkz9 two33 rfl rfl
theorem neq33ad {h : AHeap} {x y : Operand} {a b c d : Int} : opBin C.P h .neq 33 x y (.ag [.d (.v (.int .i64 a)), .d (.v (.int .i64 b))]) (.d (.ag [.v (.int .i64 c), .v (.int .i64 d)])) = some (.d (.v (.bool (!(decide (a = c) && decide (b = d))))), h) := qkz9 two33 rfl rfl
theorem neq33da {h : AHeap} {x y : Operand} {a b c d : Int} : opBin C.P h .neq 33 x y (.d (.ag [.v (.int .i64 a), .v (.int .i64 b)])) (.ag [.d (.v (.int .i64 c)), .d (.v (.int .i64 d))]) = some (.d (.v (.bool (!(decide (a = c) && decide (b = d))))), h) := qkz9 two33 rfl rfl
theorem neq33dd {h : AHeap} {x y : Operand} {a b c d : Int} : opBin C.P h .neq 33 x y (.d (.ag [.v (.int .i64 a), .v (.int .i64 b)])) (.d (.ag [.v (.int .i64 c), .v (.int .i64 d)])) = some (.d (.v (.bool (!(decide (a = c) && decide (b = d))))), h) := qkz9 two33 rfl rfl
theorem eql33aa {h : AHeap} {x y : Operand} {a b c d : Int} : opBin C.P h .eql 33 x y (.ag [.d (.v (.int .i64 a)), .d (.v (.int .i64 b))]) (.ag [.d (.v (.int .i64 c)), .d (.v (.int .i64 d))]) = some (.d (.v (.bool (decide (a = c) && decide (b = d)))), h) := qkn9 two33 rfl rfl
theorem eql33ad {h : AHeap} {x y : Operand} {a b c d : Int} : opBin C.P h .eql 33 x y (.ag [.d (.v (.int .i64 a)), .d (.v (.int .i64 b))]) (.d (.ag [.v (.int .i64 c), .v (.int .i64 d)])) = some (.d (.v (.bool (decide (a = c) && decide (b = d)))), h) := qkn9 two33 rfl rfl
theorem eql33da {h : AHeap} {x y : Operand} {a b c d : Int} : opBin C.P h .eql 33 x y (.d (.ag [.v (.int .i64 a), .v (.int .i64 b)])) (.ag [.d (.v (.int .i64 c)), .d (.v (.int .i64 d))]) = some (.d (.v (.bool (decide (a = c) && decide (b = d)))), h) := qkn9 two33 rfl rfl
theorem eql33dd {h : AHeap} {x y : Operand} {a b c d : Int} : opBin C.P h .eql 33 x y (.d (.ag [.v (.int .i64 a), .v (.int .i64 b)])) (.d (.ag [.v (.int .i64 c), .v (.int .i64 d)])) = some (.d (.v (.bool (decide (a = c) && decide (b = d)))), h) := qkn9 two33 rfl rfl
attribute [go_sem] neq33aa neq33ad neq33da neq33dd eql33aa eql33ad eql33da eql33dd
theorem rc_25 {s : St} {a : Nat} : resP C.P s (.cell a 25) = rcA s a 2 := qpG9 (by kernel_rfl) (by kernel_rfl)
theorem rc_33 {s : St} {a : Nat} : resP C.P s (.cell a 33) = rcA s a 2 := qpG9 (by kernel_rfl) (by kernel_rfl)
theorem rc_44 {s : St} {a : Nat} : resP C.P s (.cell a 44) = rcA s a 3 := qpG9 (by kernel_rfl) (by kernel_rfl)
attribute [go_sem] rc_25 rc_33 rc_44
end Ld

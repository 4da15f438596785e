import Derived.Test.YtigabemldjdlhaaDoorMIP
import Derived.Lib.BitFns
import Derived.Test.YtigabemldjdlhaaDoorProg
set_option maxHeartbeats 400000
set_option linter.unusedVariables false
set_option linter.unusedSimpArgs false
namespace Ld
open Go Go.Proofs Go.Abs
noncomputable def prim_unicode_utf8_ValidString : List PV → AHeap → Option (PV × AHeap) := fun args h => match args with
  | [.d (.v (.string s))] => (match unicode_utf8_ValidString s with | some b => some (.d (.v (.bool b)), h) | none => none)
  | _ => none




noncomputable def prim_math_bits_Len : List PV → AHeap → Option (PV × AHeap) := fun args h => match args with
  | [.d (.v (.int .u64 n))] => if 0 ≤ n ∧ n ≤ 18446744073709551615 then some (.d (.v (.int .i64 ((Go.Lib.bitLen n.toNat : Nat) : Int))), h) else none
  | _ => none


noncomputable def h6 : Hint := ⟨87729372280629842946065023502244642759, 0, [(0, 87729372280629842946064319814802849792), (1, 87729372280629842946064319814802849792), (2, 2658780550395227080220667956860796928), (3, 2658780550356541449309256210804375552), (4, 324558786709703501642090243162112), (5, 324558167739683858951952792551424)], [], [], []⟩
noncomputable def h14 : Hint := ⟨495, 0, [], [], [], []⟩
noncomputable def h15 : Hint := ⟨604467521783620459559879, 0, [(0, 604467521783612674930688), (1, 604467521783612674930688), (2, 604467521783612674865152)], [], [], [(0, [(6, 0)]), (2, [(6, 0)]), (4, [(9, 2)]), (12, [(6, 0)]), (16, [(17, 0)]), (21, [(6, 0)]), (25, [(6, 0)])]⟩
noncomputable def h17 : Hint := ⟨8796093057139, 0, [(0, 8796093055040), (1, 8796093055040)], [], [], []⟩
noncomputable def h18 : Hint := ⟨33571891, 0, [(0, 33570816), (1, 33570816)], [], [], []⟩
noncomputable def h19 : Hint := ⟨276301687, 0, [(0, 272630016), (1, 272630016)], [], [], [(1, [(19, 0)])]⟩
noncomputable def h21 : Hint := ⟨563, 0, [], [], [], []⟩
noncomputable def h23 : Hint := ⟨66247, 0, [(0, 66048), (1, 66048)], [], [], []⟩
noncomputable def h36 : Hint := ⟨1, 0, [], [], [], [(0, [(0, 0)]), (1, [(0, 0)])]⟩
noncomputable def h37 : Hint := ⟨83, 0, [], [], [], []⟩
noncomputable def h38 : Hint := ⟨21, 0, [], [], [], [(0, [(2, 0)]), (2, [(2, 0)]), (3, [(2, 0)])]⟩
noncomputable def h39 : Hint := ⟨131827, 0, [(0, 131712), (1, 131712)], [], [], []⟩
noncomputable def h41 : Hint := ⟨16806963, 0, [(0, 16793632), (1, 16793632)], [], [], []⟩
noncomputable def h42 : Hint := ⟨19, 0, [], [], [], []⟩
noncomputable def h43 : Hint := ⟨31, 0, [], [], [], []⟩
noncomputable def h44 : Hint := ⟨604275, 0, [], [], [], []⟩
noncomputable def h46 : Hint := ⟨8832466519549, 0, [(0, 8832466290144), (1, 8832466290144), (2, 8832466290144), (3, 8831526503808)], [(14, [10])], [], []⟩
noncomputable def h48 : Hint := ⟨576539917677496477, 0, [(0, 576539917677496336), (1, 576539917677496336), (2, 576539917677496336), (3, 576531121047601152)], [], [], []⟩
noncomputable def h49 : Hint := ⟨18014433137672563, 0, [(0, 18014433137672448), (1, 18014433137672448)], [], [], []⟩
noncomputable def h63 : Hint := ⟨1139, 0, [], [], [], []⟩
noncomputable def h64 : Hint := ⟨42535296023574879666274036850519702559, 0, [(0, 42535296023574879666274036850519699456), (1, 42535296023574879666274036850519699456)], [], [], []⟩
noncomputable def h66 : Hint := ⟨5, 0, [], [], [], []⟩
noncomputable def h70 : Hint := ⟨17181769757, 0, [(0, 17181442072), (1, 17181442072)], [], [], []⟩
noncomputable def h71 : Hint := ⟨5, 0, [], [], [], []⟩
noncomputable def h83 : Hint := ⟨18049582882103101, 0, [(0, 18049582882099256), (1, 18049582882099256), (2, 18049582882099256)], [], [], []⟩
noncomputable def h84 : Hint := ⟨134217971, 0, [], [], [], []⟩
noncomputable def h85 : Hint := ⟨17179886351, 0, [(0, 17179886080), (1, 17179886080), (2, 17179886080), (3, 17179869184)], [(6, [15, 17])], [], []⟩
noncomputable def h86 : Hint := ⟨8592039695, 0, [(0, 2097152), (1, 2097152), (2, 8589934592), (3, 8589934592)], [(10, [17, 19])], [], []⟩
noncomputable def h87 : Hint := ⟨35218731966215, 0, [(0, 35218731831296), (1, 35218731831296)], [(10, [17, 19])], [], []⟩
noncomputable def h88 : Hint := ⟨1333065575601045263, 0, [(0, 1297036692682702848)], [], [], []⟩
noncomputable def h89 : Hint := ⟨33543, 0, [(0, 32768), (1, 32768)], [(3, [13, 15])], [], []⟩
noncomputable def h90 : Hint := ⟨21268317252094917911888073248812900111, 0, [(0, 21268317252094917911888073248812898304), (1, 21268317252094917911888073248812898304), (2, 68719542272), (3, 68719476736), (4, 19343440303170025034942464), (5, 19343403409644425500950528), (6, 21268317252094917911888073248812898304), (7, 21268296969665970819914479276526665728)], [(11, [15, 17]), (17, [15, 17]), (23, [15, 17])], [], []⟩
noncomputable def h91 : Hint := ⟨1217485249602318769183, 0, [(0, 1217485249602318761984), (1, 1217485249602318761984), (2, 140737488355328), (3, 140737488355328), (4, 36893628884907458560), (5, 36893488147419103232)], [(1, [13, 15]), (8, [13, 15])], [], []⟩
noncomputable def h92 : Hint := ⟨22997644815212700899627017342834150232570911, 0, [(0, 140737488355328), (1, 140737488355328), (2, 73786976294838206464), (3, 73786976294838206464), (4, 22997644815212700899624582372475683083386880), (5, 22997644815212700899624582372475683083386880), (6, 1329227995784915872903807060280344576), (7, 1329227995784915872903807060280344576), (8, 696899616682077758088864099827321577406464), (9, 696898287454081973172991196020261297061888)], [(1, [13, 15]), (8, [13, 15]), (10, [13, 15]), (18, [13, 15]), (21, [13, 15])], [], []⟩
noncomputable def h95 : Hint := ⟨941, 0, [(0, 800), (1, 800)], [], [], []⟩
noncomputable def h96 : Hint := ⟨5, 0, [], [], [], []⟩
noncomputable def h97 : Hint := ⟨5, 0, [], [], [], []⟩
noncomputable def h98 : Hint := ⟨77398045, 0, [(0, 77070360), (1, 77070360), (2, 77070360)], [], [], []⟩
noncomputable def h99 : Hint := ⟨19, 0, [], [], [], []⟩
noncomputable def h100 : Hint := ⟨15, 0, [], [], [], []⟩
noncomputable def h101 : Hint := ⟨1083197534392722413924130941, 0, [(0, 8256), (1, 18014673387388928), (2, 618970019642690137449562144), (3, 618970019642690137449562144)], [(19, [9])], [], []⟩
noncomputable def h102 : Hint := ⟨288231475663604767, 0, [(0, 288231475663603712), (1, 288231475663603712)], [(6, [21, 23])], [], []⟩
noncomputable def h103 : Hint := ⟨5, 0, [], [], [], []⟩
noncomputable def h104 : Hint := ⟨5, 0, [], [(1, [9]), (2, [9]), (3, [9])], [], []⟩
noncomputable def h105 : Hint := ⟨271, 0, [], [], [], []⟩
noncomputable def h106 : Hint := ⟨4159, 0, [], [], [], []⟩
noncomputable def h108 : Hint := ⟨5, 0, [], [], [], []⟩
noncomputable def h109 : Hint := ⟨66483, 0, [(0, 66080), (1, 66080)], [], [], []⟩
noncomputable def h110 : Hint := ⟨4197407, 0, [], [], [], []⟩
noncomputable def h131 : Hint := ⟨4, 0, [], [], [], []⟩
noncomputable def h132 : Hint := ⟨5, 0, [], [], [], []⟩
noncomputable def hint : FuncId → Hint
  | 6 => h6
  | 14 => h14
  | 15 => h15
  | 17 => h17
  | 18 => h18
  | 19 => h19
  | 21 => h21
  | 23 => h23
  | 36 => h36
  | 37 => h37
  | 38 => h38
  | 39 => h39
  | 41 => h41
  | 42 => h42
  | 43 => h43
  | 44 => h44
  | 46 => h46
  | 48 => h48
  | 49 => h49
  | 63 => h63
  | 64 => h64
  | 66 => h66
  | 70 => h70
  | 71 => h71
  | 83 => h83
  | 84 => h84
  | 85 => h85
  | 86 => h86
  | 87 => h87
  | 88 => h88
  | 89 => h89
  | 90 => h90
  | 91 => h91
  | 92 => h92
  | 95 => h95
  | 96 => h96
  | 97 => h97
  | 98 => h98
  | 99 => h99
  | 100 => h100
  | 101 => h101
  | 102 => h102
  | 103 => h103
  | 104 => h104
  | 105 => h105
  | 106 => h106
  | 108 => h108
  | 109 => h109
  | 110 => h110
  | 131 => h131
  | 132 => h132
  | _ => ⟨0, 0, [], [], [], []⟩
def mode : FuncId → Nat
  | 42 => 1
  | 63 => 1
  | 64 => 1
  | 84 => 1
  | 85 => 1
  | 86 => 1
  | 87 => 1
  | 88 => 1
  | 89 => 1
  | 90 => 1
  | 91 => 1
  | 92 => 1
  | 101 => 1
  | 102 => 1
  | 104 => 1
  | 105 => 1
  | 106 => 1
  | 110 => 1
  | 132 => 1
  | _ => 0
noncomputable def prim : FuncId → Option (List PV → AHeap → Option (PV × AHeap))
  | 40 => some (primClone 1 8)
  | 65 => some prim_math_bits_Len
  | 107 => some prim_unicode_utf8_ValidString
  | _ => none
def uses : List FuncId := [6, 14, 15, 17, 18, 19, 21, 23, 36, 37, 38, 39, 41, 42, 43, 44, 46, 48, 49, 63, 64, 66, 70, 71, 83, 84, 85, 86, 87, 88, 89, 90, 91, 92, 95, 96, 97, 98, 99, 100, 101, 102, 103, 104, 105, 106, 108, 109, 110, 131, 132]
def settles : List (Nat × String) := [(25, "law.go:23"), (27, "law.go:23"), (32, "law.go:24"), (33, "law.go:24"), (35, "law.go:24"), (36, "law.go:24"), (40, "law.go:25"), (41, "law.go:25"), (43, "law.go:25"), (44, "law.go:25"), (75, "match.go:55")]
noncomputable def C : Cfg := { P := Tryd.prog, mode := mode, prim := prim, hint := hint, use := fun g => uses.contains g, settle := fun o => settles.any fun p => o.dst == some p.1 && o.pos == p.2 }
theorem C_P : C.P = Tryd.prog := rfl



theorem cl_40 {args : List PV} {h : AHeap} : callP C (Lim C) 40 args h = primClone 1 8 args h := rfl
theorem cls_40 (W0 : World) : FSound W0 C.P 40 (primClone 1 8) := clone_sound (P := Tryd.prog) (hint := ⟨21, 0, [], [], [], []⟩) Tryd.func40 (by kernel_rfl) ⟨rfl, rfl, rfl, rfl, ⟨_, rfl⟩, rfl, rfl, ⟨_, Tryd.underlying23⟩, rfl, rfl, by kernel_rfl, by kernel_rfl, by kernel_rfl, by kernel_rfl, by kernel_rfl, by kernel_rfl, rfl, by decide⟩


attribute [go_sem] cl_40 primClone
end Ld

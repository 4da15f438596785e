import Derived.Test.YtmkohpkfeamjiaaPMP
import Derived.Lib.BitFns
import Derived.Test.YtmkohpkfeamjiaaProg
set_option maxHeartbeats 400000
set_option linter.unusedVariables false
set_option linter.unusedSimpArgs false
set_option linter.unusedSectionVars false
namespace Ld
open Go Go.Proofs Go.Abs

open Classical in
noncomputable def bagOf (kvs : List (Value × PV)) : Option (List (ByteArray × Mono)):=if h : ∃ L,kvs = mapP keyS qa9 L then some (Classical.choose h) else none
noncomputable def qcx9 : List PV→AHeap→Option (PV × AHeap):=fun args h=>match args with
 | [.mp id]=>(match h[id]? with
  | some (.map kvs)=>((bagOf kvs).bind toldP).map fun x=>(.d (.rd (x.map qa9)),h)
  | _=>none)
 | _=>none



open Classical in
noncomputable def qdt9 : List PV→AHeap→Option (PV × AHeap):=fun args h=>match args with
 | [.d (.rd xs)]=>if ∃ p : List Mono,xs = p.map qa9∧CopOK p then some (.d (.rd xs),h) else none
 | _=>none

noncomputable def h3 : Hint:=⟨627,0,[],[],[],[]⟩
noncomputable def h12 : Hint:=⟨87112285931760246646623899502532662390783,0,[],[],[],[(4,[(7,0)]),(9,[(16,0)]),(10,[(17,0)])]⟩
noncomputable def h14 : Hint:=⟨9042383626953459,0,[(0,35184372154560),(1,35184372154560)],[],[],[]⟩
noncomputable def h15 : Hint:=⟨20762157232131412339,0,[(0,562949953425408),(1,562949953425408),(2,2314850208468434944),(3,2314850208468434944)],[],[],[]⟩
noncomputable def h16 : Hint:=⟨2361187762626636056691,0,[(0,2361187762626636054592),(1,2361187762626636054592),(2,2361187762626636054592),(3,2361187745034449977344)],[],[],[]⟩
noncomputable def h17 : Hint:=⟨1105232627,0,[(0,1090519552),(1,1090519552)],[],[],[(0,[(4,0)]),(3,[(4,0)]),(9,[(4,0)])]⟩
noncomputable def h18 : Hint:=⟨274912004083,0,[(0,274911462912),(1,274911462912)],[],[],[(0,[(4,0)]),(3,[(4,0)]),(6,[(4,0)]),(13,[(4,0)])]⟩
noncomputable def h19 : Hint:=⟨23,0,[],[],[],[]⟩
noncomputable def h21 : Hint:=⟨1075,0,[],[],[],[]⟩
noncomputable def h24 : Hint:=⟨140741578341107,0,[(0,140741548456448),(1,140741548456448),(2,140741548456448),(3,140739635853312)],[],[],[(0,[(4,0)]),(3,[(4,0)]),(13,[(4,0)])]⟩
noncomputable def h25 : Hint:=⟨72339073377800179,0,[(0,72339073376718336),(1,72339073376718336),(2,72339073376718336),(3,72339073309608960)],[(14,[12,13,1002,1003,1006,1007,1008])],[],[(0,[(4,0)]),(3,[(4,0)]),(6,[(4,0)]),(7,[(7,0)]),(16,[(4,0)]),(19,[(4,0)])]⟩
noncomputable def h26 : Hint:=⟨75594789267607774592507,0,[(0,75594789267591651163136),(1,75594789267591651163136),(2,36925541677327737856),(3,36925294819787431936),(4,36925294819787431936),(5,36911502545928585216)],[],[],[(0,[(4,0)]),(3,[(4,0)]),(6,[(4,0)]),(8,[(4,0)]),(9,[(8,0)]),(14,[(11,0)]),(22,[(4,0)]),(27,[(4,0)])]⟩
noncomputable def h27 : Hint:=⟨42618382758534622637257028582515179507,0,[(0,4303355904),(1,4303355904),(2,42618382758534622637257028303333653504),(3,42618382758534622637257028303333653504),(4,9015995347765248),(5,9007199254740992),(6,83086893417314704335202374362622976),(7,83086893417239146462460464691429376),(8,83086893417239146462460464691429376),(9,83086890941359067891699914893164544)],[],[],[(0,[(4,0)]),(3,[(4,0)]),(9,[(4,0)]),(11,[(4,0)]),(12,[(8,0)]),(22,[(12,0)]),(31,[(4,0)]),(34,[(4,0)])]⟩
noncomputable def h28 : Hint:=⟨38686806837804113515003643,0,[(0,38686806837804112491331072),(1,38686806837804112491331072),(2,1180610135978900730368),(3,1180610132095176552448),(4,1180610132095176552448),(5,1180609916590897496064)],[],[],[(0,[(4,0)]),(3,[(4,0)]),(5,[(4,0)]),(7,[(4,0)]),(8,[(7,0)]),(20,[(4,0)]),(23,[(4,0)]),(28,[(4,0)]),(30,[(4,0)])]⟩
noncomputable def h30 : Hint:=⟨33571891,0,[(0,33570816),(1,33570816)],[],[],[]⟩
noncomputable def h31 : Hint:=⟨1,0,[],[],[],[(0,[(0,0)]),(1,[(0,0)])]⟩
noncomputable def h32 : Hint:=⟨8804150412275,0,[(0,8800387990272),(1,8800387990272)],[],[],[(0,[(4,0)]),(2,[(4,0)])]⟩
noncomputable def h33 : Hint:=⟨129856180211,0,[(0,129385893760),(1,129385893760),(2,129385893120),(3,68719479808)],[],[],[(0,[(4,0)]),(2,[(4,0)])]⟩
noncomputable def h34 : Hint:=⟨4398591836659,0,[(0,4398583382272),(1,4398583382272)],[],[],[]⟩
noncomputable def h35 : Hint:=⟨1,0,[],[],[],[(0,[(0,0)]),(1,[(0,0)])]⟩
noncomputable def h36 : Hint:=⟨1,0,[],[],[],[(0,[(0,0)]),(1,[(0,0)])]⟩
noncomputable def h37 : Hint:=⟨7,0,[],[],[],[]⟩
noncomputable def h38 : Hint:=⟨4201523,0,[(0,4198432),(1,4198432)],[],[],[]⟩
noncomputable def h39 : Hint:=⟨7,0,[],[],[],[]⟩
noncomputable def h40 : Hint:=⟨67379215,0,[(0,67371008),(1,67371008)],[],[],[]⟩
noncomputable def h41 : Hint:=⟨2416050419,0,[(0,2416050368),(1,2416050368)],[],[],[]⟩
noncomputable def h42 : Hint:=⟨65807,0,[(0,65792),(1,65792)],[],[],[]⟩
noncomputable def h43 : Hint:=⟨33781,0,[(0,33328),(1,33328)],[],[],[]⟩
noncomputable def h44 : Hint:=⟨504373101,0,[(0,1052704),(1,1052704),(2,268435712),(3,268435712)],[],[],[(0,[(2,0)]),(15,[(2,0)])]⟩
noncomputable def h45 : Hint:=⟨137443152891,0,[],[],[],[]⟩
noncomputable def h47 : Hint:=⟨37779508325942848671739,0,[(0,576462985686945280),(1,576462985686945280)],[],[],[(0,[(4,0)]),(2,[(4,0)]),(3,[(6,2)]),(15,[(4,0)]),(21,[(4,0)])]⟩
noncomputable def h48 : Hint:=⟨19,0,[],[],[],[]⟩
noncomputable def h49 : Hint:=⟨31,0,[],[],[],[]⟩
noncomputable def h50 : Hint:=⟨16499,0,[],[],[],[(0,[(4,0)]),(3,[(4,0)])]⟩
noncomputable def h53 : Hint:=⟨64458065919,0,[(0,34359739904),(1,34359739904)],[],[],[(0,[(4,4095)])]⟩
noncomputable def h54 : Hint:=⟨2147484671,0,[(0,2147483648),(1,2147483648)],[(6,[12,14]),(7,[7])],[],[(0,[(4,4095)]),(2,[(8,4097)])]⟩
noncomputable def h55 : Hint:=⟨2101111,0,[(0,2099296),(1,2099296)],[],[],[]⟩
noncomputable def h56 : Hint:=⟨11,0,[],[],[],[]⟩
noncomputable def h57 : Hint:=⟨19,0,[],[],[],[]⟩
noncomputable def h58 : Hint:=⟨5,0,[],[],[],[]⟩
noncomputable def h59 : Hint:=⟨13,0,[],[],[],[]⟩
noncomputable def h60 : Hint:=⟨11,0,[],[],[],[]⟩
noncomputable def h62 : Hint:=⟨5,0,[],[],[],[]⟩
noncomputable def h63 : Hint:=⟨9007474401215475,0,[(0,9007474401084160),(1,9007474401084160),(2,9007474401084160),(3,9007474132647936)],[],[],[(0,[(4,0)]),(2,[(4,0)])]⟩
noncomputable def h64 : Hint:=⟨17600910262771,0,[(0,17600910196736),(1,17600910196736)],[],[],[(0,[(4,0)]),(2,[(4,0)])]⟩
noncomputable def h65 : Hint:=⟨269,0,[],[],[],[(0,[(2,0)]),(3,[(2,0)])]⟩
noncomputable def h66 : Hint:=⟨604275,0,[],[],[],[]⟩
noncomputable def h67 : Hint:=⟨604275,0,[],[],[],[]⟩
noncomputable def h68 : Hint:=⟨19,0,[],[],[],[]⟩
noncomputable def h69 : Hint:=⟨5,0,[],[],[],[]⟩
noncomputable def h70 : Hint:=⟨5,0,[],[],[],[]⟩
noncomputable def h71 : Hint:=⟨275,0,[],[],[],[]⟩
noncomputable def h73 : Hint:=⟨7741,0,[(0,4144),(1,4144)],[],[(7,[(3,0)])],[]⟩
noncomputable def h77 : Hint:=⟨66483,0,[(0,66080),(1,66080)],[],[],[]⟩
noncomputable def h78 : Hint:=⟨2147618759,0,[(0,2147616768),(1,2147616768)],[],[],[]⟩
noncomputable def h79 : Hint:=⟨23,0,[],[],[],[]⟩
noncomputable def h80 : Hint:=⟨66483,0,[(0,66080),(1,66080)],[],[],[]⟩
noncomputable def h81 : Hint:=⟨269,0,[],[],[],[(0,[(2,0)]),(3,[(2,0)])]⟩
noncomputable def h82 : Hint:=⟨32781,0,[(0,32768),(1,32768)],[],[],[(0,[(2,0)])]⟩
noncomputable def h83 : Hint:=⟨5,0,[],[],[],[]⟩
noncomputable def h84 : Hint:=⟨5,0,[],[],[],[]⟩
noncomputable def h85 : Hint:=⟨66483,0,[(0,66080),(1,66080)],[],[],[]⟩
noncomputable def h88 : Hint:=⟨16389,0,[(0,16384),(1,16384)],[],[],[(0,[(2,0)])]⟩
noncomputable def hint : FuncId→Hint
 | 3=>h3
 | 12=>h12
 | 14=>h14
 | 15=>h15
 | 16=>h16
 | 17=>h17
 | 18=>h18
 | 19=>h19
 | 21=>h21
 | 24=>h24
 | 25=>h25
 | 26=>h26
 | 27=>h27
 | 28=>h28
 | 30=>h30
 | 31=>h31
 | 32=>h32
 | 33=>h33
 | 34=>h34
 | 35=>h35
 | 36=>h36
 | 37=>h37
 | 38=>h38
 | 39=>h39
 | 40=>h40
 | 41=>h41
 | 42=>h42
 | 43=>h43
 | 44=>h44
 | 45=>h45
 | 47=>h47
 | 48=>h48
 | 49=>h49
 | 50=>h50
 | 53=>h53
 | 54=>h54
 | 55=>h55
 | 56=>h56
 | 57=>h57
 | 58=>h58
 | 59=>h59
 | 60=>h60
 | 62=>h62
 | 63=>h63
 | 64=>h64
 | 65=>h65
 | 66=>h66
 | 67=>h67
 | 68=>h68
 | 69=>h69
 | 70=>h70
 | 71=>h71
 | 73=>h73
 | 77=>h77
 | 78=>h78
 | 79=>h79
 | 80=>h80
 | 81=>h81
 | 82=>h82
 | 83=>h83
 | 84=>h84
 | 85=>h85
 | 88=>h88
 | _=>⟨0,0,[],[],[],[]⟩
def mode : FuncId→Nat
 | 45=>1
 | _=>0
noncomputable def prim : FuncId→Option (List PV→AHeap→Option (PV × AHeap))
 | 13=>some qdt9
 | 46=>some qcx9
 | 61=>some (qbP9 1 4)
 | 72=>some (qgm9 2 48)
 | 74=>some (qbP9 1 8)
 | _=>none
def uses : List FuncId:=[3,12,14,15,16,17,18,19,21,24,25,26,27,28,30,31,32,33,34,35,36,37,38,39,40,41,42,43,44,45,47,48,49,50,53,54,55,56,57,58,59,60,62,63,64,65,66,67,68,69,70,71,73,77,78,79,80,81,82,83,84,85,88]
def settles : List (Nat × String) := [(1, "law.go:12"), (1, "law.go:14"), (1, "law.go:16"), (2, "law.go:14"), (2, "law.go:16"), (36, "law.go:23"), (38, "law.go:23"), (39, "law.go:23"), (48, "poly.go:126"), (52, "law.go:25"), (53, "law.go:25"), (59, "law.go:26"), (60, "law.go:26"), (63, "law.go:26"), (64, "law.go:26"), (66, "law.go:26"), (72, "law.go:27"), (73, "law.go:27"), (76, "law.go:27"), (77, "law.go:27"), (79, "law.go:27"), (85, "law.go:28"), (87, "law.go:28"), (88, "law.go:28"), (90, "law.go:28"), (91, "law.go:28"), (93, "law.go:28"), (94, "law.go:28"), (97, "law.go:29"), (99, "law.go:29"), (100, "law.go:29"), (102, "law.go:29"), (103, "law.go:29"), (167, "law.go:33"), (168, "law.go:33")]
noncomputable def C : Cfg:={ P:=Try.prog,mode:=mode,prim:=prim,hint:=hint,use:=fun g=>uses.contains g,settle:=fun o=>settles.any fun p=>o.dst == some p.1 && o.pos == p.2 }
theorem C_P : C.P = Try.prog:=rfl
noncomputable def Cg72 : Cfg:={ P:=Try.prog,mode:=fun _=>1,prim:=fun _=>none,hint:=fun _=>⟨65619,0,[],[],[],[]⟩,use:=fun g=>g == 72 }
def gc72 : ACode := .seq (.reg [] [] [.K 4 (.mv (.const (.slice none 0 0)))]) (.seq (.seq (.reg [] [] [.M 5 1, .K 6 (.bin .lss (.tmp 5) (cI 0))]) (.cond (.tmp 6) (some 6) (.reg [] [] [.T 7 (.mkI 9 (.const (.string { data := #[99, 97, 110, 110, 111, 116, 32, 98, 101, 32, 110, 101, 103, 97, 116, 105, 118, 101] }))), ⟨none, .raw ({ dst := none, op := Go.Op.panic (.tmp 7), type := 0, pos := "slices.go:424", after := #[{ on := 0, ground := Go.Ground.data }], guard := none }), none, false, false⟩]) (.skip))) (.seq (.seq (.reg [] [] [.M 8 1, .M 9 0, .T 10 (.raw ({ dst := some 10, op := Go.Op.call { callee := Go.Callee.builtin Go.Builtin.cap, args := #[.tmp 9], argTypes := #[22] }, type := 3, pos := "slices.go:426", after := #[{ on := 1, ground := Go.Ground.data }], guard := none })), .M 11 0, .T 12 (.len (.tmp 11)), .T 13 (.bin .sub (.tmp 10) (.tmp 12)), .T 14 (.bin .sub (.tmp 8) (.tmp 13)), .N 1 14]) (.seq (.reg [] [] [.M 15 1, .K 16 (.bin .gtr (.tmp 15) (cI 0))]) (.cond (.tmp 16) (some 16) (.reg [] [] [.M 17 0, .M 18 0, .T 19 (.raw ({ dst := some 19, op := Go.Op.call { callee := Go.Callee.builtin Go.Builtin.cap, args := #[.tmp 18], argTypes := #[22] }, type := 3, pos := "slices.go:428", after := #[{ on := 1, ground := Go.Ground.data }], guard := none })), .T 20 (.cut 2 (.tmp 17) none (some (.tmp 19))), .M 21 1, .T 22 (.raw ({ dst := some 22, op := Go.Op.call { callee := Go.Callee.builtin Go.Builtin.append, args := #[.tmp 20, .tmp 21], argTypes := #[22, 3] }, type := 22, pos := "slices.go:428", after := #[{ on := 3, ground := Go.Ground.data }, { on := 4, ground := Go.Ground.data }], guard := none })), .M 23 0, .T 24 (.len (.tmp 23)), .T 25 (.cut 2 (.tmp 22) none (some (.tmp 24))), .N 0 25]) (.skip)))) (.seq (.reg [] [] [.M 26 0, .N 4 26]) (.ret))))
theorem gis72 : IsF Cg72 72 27 65619 gc72 [.tmp 4]:=⟨⟨Try.f72,_,(rfl : Cg72.P = Try.prog) ▸ Try.func72,rfl,rfl,rfl,by kernel_rfl,rfl⟩⟩
theorem gcap72 {h : AHeap} : qbh9 Cg72 h .cap #[22] 3 [.im true []] = some (.d (.v (.int .i64 0)),h):=by
 have hu : Cg72.P.underlying 22 = some (.slice 51):=by kernel_rfl
 simp [qbh9,hu]
theorem gapp72 {h : AHeap} {n : Int} (h0 : 0 < n) (hn : n * 48≤140737488355328) : qbh9 Cg72 h .append #[22,3] 22 [.im true [],.d (.v (.int .i64 n))] = some (.ref h.length 0 0 n.toNat,h++[.row false 0 2 (List.replicate n.toNat [.d (.rd []),.d (.rd [])])]):=by
 have hu : Cg72.P.underlying 3 = some (.int .i64):=by kernel_rfl
 have hs : qt9 Cg72.P 22 = some 51:=by kernel_rfl
 have hs2 : qt9 Cg72.P 3 = none:=by kernel_rfl
 have hz : zeroCells Cg72.P 51 = some [.im true [],.im true []]:=by kernel_rfl
 have hi : (Cg72.P.info? 51).map (fun i=>(i.size,i.bytes)) = some (2,48):=by kernel_rfl
 obtain ⟨i,hi1,hi2⟩:=Option.map_eq_some_iff.1 hi
 simp only [Prod.mk.injEq] at hi2
 simp only [qbh9,List.getElem?_toArray,List.getElem?_cons_zero,List.getElem?_cons_succ,hs2,qgg9,hs,hu,hi1,hz,hi2.1,hi2.2]
 rw [if_pos ⟨h0,by simpa using hn,by decide,by decide⟩]
 rfl
theorem gzero72 (h : AHeap) : Lim Cg72 72 [.im true [],.d (.v (.int .i64 0))] h = some (resOf [.im true []],h):=by
 have e1 : w64 (0 - w64 (0 - 0)) = 0:=by decide
 refine run_L gis72 (nbA rfl) ?_
 simp +decide only [go_sem,gc72,qrz9,gcap72,e1]
theorem gpos72 {n : Int} (h0 : 0 < n) (hn : n * 48≤140737488355328) (h : AHeap) : Lim Cg72 72 [.im true [],.d (.v (.int .i64 n))] h = some (resOf [.ref h.length 0 0 0],h++[.row false 0 2 (List.replicate n.toNat [.d (.rd []),.d (.rd [])])]):=by
 have e0 : (n < 0) = False:=eq_false (by omega)
 have e1 : w64 (n - w64 (0 - 0)) = n:=by
  have : w64 (0 - 0) = 0:=by decide
  rw [this,qh9 (by omega) (by omega)]; omega
 have e2 : (0 < n) = True:=eq_true h0
 have e3:=gapp72 (h:=h) h0 hn
 have e4 : cutA 2 h (.im true []) none (some (.d (.v (.int .i64 0)))) = some (.im true []):=rfl
 have e5 : ∀ es,cutA 2 (h++[.row false 0 2 es]) (.ref h.length 0 0 n.toNat) none (some (.d (.v (.int .i64 0)))) = some (.ref h.length 0 0 0):=fun es=>by
  simp [cutA,lenP,bnd,qbj9,szOk,cutP]
  try omega
 refine run_L gis72 (nbA rfl) ?_
 simp +decide only [semA,gc72,qbt9,qrz9,qwu9,gcap72,e0,e1,e2,e3,e4,e5,go_sem]
theorem gall72 : okTF Cg72.P (Cg72.hint 72) 72 = true:=by kernel_rfl
theorem gok72 (W0 : World) : COk W0 Cg72 where
 use:=fun g hg=>by
  have : g = 72:=by simpa [Cg72] using hg
  subst this
  exact ⟨Try.f72,Try.func72,of_decide_eq_true (by kernel_rfl),rfl⟩
 prim:=fun g p hg=>by cases hg
 orders:=by kernel_rfl
 hints:=fun g fn c hg hf hc=>by
  have : g = 72:=by simpa [Cg72] using hg
  subst this
  exact qzM9 gall72 hf hc
theorem qzG9 (W0 : World) : FSound W0 C.P 72 (qgm9 2 48):=qte9 (by decide) (qbJ9 (gok72 W0) 72 rfl) gzero72 (fun h k hk hb=>⟨_,gpos72 hk hb h⟩)
theorem gr_72 {args : List PV} {h : AHeap} : callP C (Lim C) 72 args h = qgm9 2 48 args h:=rfl
theorem qkj9 {a b : Mono} (h : (qa9 a).map PV.d = (qa9 b).map PV.d) : a = b:=by
 obtain ⟨a1,a2⟩:=a
 obtain ⟨b1,b2⟩:=b
 simp only [qa9,List.map_cons,List.map_nil,List.cons.injEq,PV.d.injEq,D.rd.injEq,and_true] at h
 have inj32 : ∀ (x y : List Int),x.map qb9 = y.map qb9→x = y:=fun x y h=>List.map_inj_right (fun a b h=>by simpa [qb9] using h) |>.1 h
 have inj64 : ∀ (x y : List Int),x.map intD = y.map intD→x = y:=fun x y h=>List.map_inj_right (fun a b h=>by simpa [intD] using h) |>.1 h
 rw [inj32 _ _ h.1,inj64 _ _ h.2]
theorem qnP9 : ∀ {L M : List (ByteArray × Mono)},mapP keyS qa9 L = mapP keyS qa9 M→L = M
 | [],[],_=>rfl
 | [],_::_,h=>by simp [mapP] at h
 | _::_,[],h=>by simp [mapP] at h
 | (a,x)::L,(b,y)::M,h=>by
  simp only [mapP,List.map_cons,List.cons.injEq,Prod.mk.injEq,keyS,Value.string.injEq] at h
  have e1 : a = b:=h.1.1
  have e2 : x = y:=by
   refine qkj9 ?_
   have:=h.1.2
   simp only [qa9] at this ⊢
   exact PV.ag.inj this
  rw [e1,e2,qnP9 (L:=L) (M:=M) h.2]
theorem qkC9 (L : List (ByteArray × Mono)) : bagOf (mapP keyS qa9 L) = some L:=by
 have h : ∃ M,mapP keyS qa9 L = mapP keyS qa9 M:=⟨L,rfl⟩
 unfold bagOf
 rw [dif_pos h,← qnP9 (Classical.choose_spec h)]
theorem qtV9 {h : AHeap} {id : Nat} {L : List (ByteArray × Mono)} {x : List Mono} (hx : toldP L = some x) (ho : h[id]? = some (.map (mapP keyS qa9 L))) : callP C (Lim C) 46 [.mp id] h = some (.d (.rd (x.map qa9)),h):=by
 have e : callP C (Lim C) 46 [.mp id] h = qcx9 [.mp id] h:=rfl
 rw [e]
 simp only [qcx9,ho,qkC9,Option.bind_some,hx,Option.map_some]

theorem qsP9 {args : List PV} {h : AHeap} : callP C (Lim C) 74 args h = qbP9 1 8 args h:=rfl
theorem cls_74 (W0 : World) : FSound W0 C.P 74 (qbP9 1 8):=qkk9 (P:=Try.prog) (hint:=⟨21,0,[],[],[],[]⟩) Try.func74 (by kernel_rfl) ⟨rfl,rfl,rfl,rfl,⟨_,rfl⟩,rfl,rfl,⟨_,Try.underlying49⟩,rfl,rfl,by kernel_rfl,by kernel_rfl,by kernel_rfl,by kernel_rfl,by kernel_rfl,by kernel_rfl,rfl,by decide⟩
theorem qsG9 {args : List PV} {h : AHeap} : callP C (Lim C) 61 args h = qbP9 1 4 args h:=rfl
theorem cls_61 (W0 : World) : FSound W0 C.P 61 (qbP9 1 4):=qkk9 (P:=Try.prog) (hint:=⟨21,0,[],[],[],[]⟩) Try.func61 (by kernel_rfl) ⟨rfl,rfl,rfl,rfl,⟨_,rfl⟩,rfl,rfl,⟨_,Try.underlying36⟩,rfl,rfl,by kernel_rfl,by kernel_rfl,by kernel_rfl,by kernel_rfl,by kernel_rfl,by kernel_rfl,rfl,by decide⟩
theorem qix9 {h : AHeap} {p x : List Mono} (hx : qgp9 p = some x) : callP C (Lim C) 13 [.d (.rd (p.map qa9))] h = some (.d (.rd (x.map qa9)),h):=by
 have e : callP C (Lim C) 13 [.d (.rd (p.map qa9))] h = qdt9 [.d (.rd (p.map qa9))] h:=rfl
 rw [e]
 unfold qgp9 at hx
 split at hx
 ·rename_i hc
  cases hx
  unfold qdt9
  simp only []
  rw [if_pos ⟨p,rfl,hc⟩]
 ·cases hx

attribute [go_sem] qsP9 qsG9 qbP9
attribute [go_sem] gr_72 qgm9
theorem rc_51 {s : St} {a : Nat} : resP C.P s (.cell a 51) = rcA s a 2:=quK9 (by kernel_rfl) (by kernel_rfl)
attribute [go_sem] rc_51
theorem qwH9 {h : AHeap} {l : List Int} : qel9 C.P h 88 9 (.d (.rd (l.map qN9))) = some (.d (.v (.string (qbx9 l))),h):=qrI9 (e:=5) (by kernel_rfl) (by kernel_rfl) (by kernel_rfl)
attribute [go_sem] qwH9
theorem qyh9 : calm C 54 = true:=by rfl
attribute [go_sem] isC isD List.all_cons List.all_nil Bool.and_self Bool.and_true Bool.true_and qyh9
end Ld

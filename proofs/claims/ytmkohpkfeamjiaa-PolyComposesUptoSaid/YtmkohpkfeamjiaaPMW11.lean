import Derived.Test.YtmkohpkfeamjiaaPMW13
import Derived.Test.YtmkohpkfeamjiaaPMW2
import Derived.Test.YtmkohpkfeamjiaaPMW9
set_option maxHeartbeats 60000000
set_option linter.unusedVariables false
set_option linter.unusedSimpArgs false
set_option linter.unusedSectionVars false
namespace Ld
open Go Go.Proofs Go.Abs
set_option maxRecDepth 8000
def c19 : ACode:=.seq (.reg [] [] [.K 2 (.box (.tmp 0)),.K 4 (.mv (.const (.bool false)))]) (.seq (.reg [] [] [.T 5 (.load none (.tmp 2)),.M 6 1,.T 7 (.lit 1 [(0,.tmp 5),(1,.tmp 6)]),.T 8 (.call 43 [.tmp 7]),.T 9 (.bin .eql (.tmp 8) (cI 0)),.M 10 9,.MG 11 10 true 1,.TG 12 10 true (.mkF 49 [.tmp 2]),.TG 13 10 true (.call 48 [.tmp 11,.tmp 12]),.TG 14 10 true (.not (.tmp 13)),.T 15 (.pick (.tmp 10) (.tmp 14) (.const (.bool false))),.N 4 15]) (.ret))
theorem is19 : IsF C 19 16 23 c19 [.tmp 4]:=⟨⟨Try.f19,_,C_P ▸ Try.func19,rfl,rfl,rfl,by kernel_rfl,rfl⟩⟩
theorem qib9 {a0 : List Mono} {a1 : List Mono} {r : Bool} (hr : qcV9 a0 a1 = some r) : Res C 19 [.rd (a0.map qa9),.rd (a1.map qa9)] (PB r):=by
 simp only [qcV9] at hr
 obtain ⟨x1,h1,hr⟩:=bsome hr
 have h1k:=fun h=>(qbu9 h1).o rfl rfl rfl (h:=h) (args:=[.im true [[.d (.rd (a0.map qa9))],[.d (.rd (a1.map qa9))]]]) rfl
 try simp only [go_sem] at h1k
 rcases iteP hr with ⟨h2,hr⟩ | ⟨h2,hr⟩
 obtain ⟨x2,h3,hr⟩:=bsome hr
 have h3k:=fun h args=>(qca9 h3).o rfl rfl rfl (h:=h) (args:=args)
 try simp only [go_sem] at h3k
 obtain rfl:=oiA hr
 refine run_V is19 (nbA rfl) ?_
 rotate_left
 obtain rfl:=oiA hr
 refine run_V is19 (nbA rfl) ?_
 rotate_left
 all_goals (simp +decide only [go_sem,decide_not,c19, *])
def c21 : ACode:=.seq (.reg [] [] [.K 4 (.mv (.const (.bool false)))]) (.seq (.seq (.reg [] [] [.M 7 0,.M 8 1,.T 9 (.call 19 [.tmp 7,.tmp 8]),.K 10 (.not (.tmp 9))]) (.cond (.tmp 10) (some 10) (.seq (.reg [] [] [.K 4 (.mv (.const (.bool false)))]) (.ret)) (.skip))) (.seq (.reg [] [] [.M 12 0,.T 13 (.call 50 [.tmp 12,.const (.slice none 0 0)]),.M 14 1,.T 15 (.call 50 [.tmp 14,.const (.slice none 0 0)]),.T 16 (.call 34 [.tmp 13,.tmp 15]),.M 11 16,.T 17 (.ext (.tmp 11) 0),.T 18 (.ext (.tmp 11) 1),.N 5 17,.M 6 18]) (.seq (.reg [] [] [.M 19 5,.T 20 (.bin .gtr (.tmp 19) (cI 0)),.N 4 20]) (.ret))))
theorem is21 : IsF C 21 21 1075 c21 [.tmp 4]:=⟨⟨Try.f21,_,C_P ▸ Try.func21,rfl,rfl,rfl,by kernel_rfl,rfl⟩⟩
theorem qma9 {a0 : List Mono} {a1 : List Mono} {r : Bool} (hr : qdL9 a0 a1 = some r) : Res C 21 [.rd (a0.map qa9),.rd (a1.map qa9)] (PB r):=by
 simp only [qdL9] at hr
 obtain ⟨x1,h1,hr⟩:=bsome hr
 have h1k:=(qib9 h1).k rfl rfl rfl
 try simp only [go_sem] at h1k
 rcases iteB hr with ⟨h2,hr⟩ | ⟨h2,hr⟩
 obtain ⟨x2,h3,x3,h4,x4,h5,hr⟩:=bs3 hr
 have h3k:=fun h=>(qhV9 h3).o rfl rfl rfl (h:=h) (args:=[.d (.rd (a0.map qa9)),.im true []]) rfl
 try simp only [go_sem] at h3k
 have h4k:=fun h=>(qhV9 h4).o rfl rfl rfl (h:=h) (args:=[.d (.rd (a1.map qa9)),.im true []]) rfl
 try simp only [go_sem] at h4k
 have h5k:=(qmF9 h5).k rfl rfl rfl
 try simp only [go_sem] at h5k
 obtain rfl:=oiA hr
 refine run_V is21 (nbA rfl) ?_
 rotate_left
 obtain rfl:=oiA hr
 refine run_V is21 (nbA rfl) ?_
 rotate_left
 all_goals (simp +decide only [go_sem,decide_not,c21, *])
def c12 : ACode:=.seq (.reg [] [] [.K 0 (.mv (.const (.bool false)))]) (.seq (.reg [] [] [.T 19 (.call 35 []),.T 20 (.call 31 []),.T 21 (.call 17 [.tmp 19,.tmp 20]),.M 18 21,.T 22 (.ext (.tmp 18) 0),.T 23 (.ext (.tmp 18) 1),.N 1 22,.N 2 23]) (.seq (.reg [] [] [.T 25 (.call 36 []),.T 26 (.call 31 []),.T 27 (.call 17 [.tmp 25,.tmp 26]),.M 24 27,.T 28 (.ext (.tmp 24) 0),.T 29 (.ext (.tmp 24) 1),.N 3 28,.N 4 29]) (.seq (.reg [] [] [.M 31 1,.M 32 3,.T 33 (.call 24 [.tmp 31,.tmp 32]),.M 30 33,.T 34 (.ext (.tmp 30) 0),.T 35 (.ext (.tmp 30) 1),.N 5 34,.N 6 35]) (.seq (.reg [] [(7,0)] [⟨some (36,false),.lit 1 [(0,.const (.int .u32 3))],none,false,true⟩,.T 37 (.build [(0,1),(1,1)] [.im true [],.im true []] [(0,.tmp 36)]),⟨some (38,false),.lit 1 [(0,.const (.int .u32 2))],none,false,true⟩,⟨some (39,false),.lit 1 [(0,.const (.int .i64 1)),(1,.const (.int .i64 1))],none,false,true⟩,.T 40 (.build [(0,1),(1,1)] [.im true [],.im true []] [(0,.tmp 38),(1,.tmp 39)]),.T 41 (.lit 2 [(0,.tmp 37),(1,.tmp 40)]),.N 7 41]) (.seq (.reg [] [] [.M 43 7,.M 44 1,.T 45 (.call 35 []),.T 46 (.lit 1 [(0,.tmp 44),(1,.tmp 45)]),.T 47 (.call 26 [.tmp 43,.tmp 46]),.M 42 47,.T 48 (.ext (.tmp 42) 0),.T 49 (.ext (.tmp 42) 1),.N 8 48,.N 9 49]) (.seq (.reg [] [] [.M 51 7,⟨some (52,false),.lit 1 [(0,.const (.int .u32 5))],none,false,true⟩,⟨some (53,false),.lit 1 [(0,.const (.int .u32 7))],none,false,true⟩,.T 54 (.lit 1 [(0,.tmp 52),(1,.tmp 53)]),.T 55 (.call 28 [.tmp 51,.tmp 54]),.M 50 55,.T 56 (.ext (.tmp 50) 0),.T 57 (.ext (.tmp 50) 1),.N 10 56,.N 11 57]) (.seq (.reg [] [] [⟨some (59,false),.lit 1 [(0,.const (.int .u32 1))],none,false,true⟩,⟨some (60,false),.lit 1 [(0,.const (.int .i64 2))],none,false,true⟩,.T 61 (.build [(0,1),(1,1)] [.im true [],.im true []] [(0,.tmp 59),(1,.tmp 60)]),.T 62 (.lit 2 [(0,.tmp 61)]),⟨some (63,false),.lit 1 [(0,.const (.int .u32 1))],none,false,true⟩,⟨some (64,false),.lit 1 [(0,.const (.int .i64 40))],none,false,true⟩,.T 65 (.build [(0,1),(1,1)] [.im true [],.im true []] [(0,.tmp 63),(1,.tmp 64)]),⟨some (66,false),.lit 2 [(0,.tmp 65)],none,false,true⟩,.T 67 (.lit 1 [(0,.tmp 66)]),.T 68 (.call 26 [.tmp 62,.tmp 67]),.M 58 68,.T 69 (.ext (.tmp 58) 0),.T 70 (.ext (.tmp 58) 1),.M 12 69,.N 13 70]) (.seq (.reg [] [] [⟨some (72,false),.lit 1 [(0,.const (.int .u32 1))],none,false,true⟩,⟨some (73,false),.lit 1 [(0,.const (.int .i64 2)),(1,.const (.int .i64 1))],none,false,true⟩,.T 74 (.build [(0,1),(1,1)] [.im true [],.im true []] [(0,.tmp 72),(1,.tmp 73)]),.T 75 (.lit 2 [(0,.tmp 74)]),⟨some (76,false),.lit 1 [(0,.const (.int .u32 1))],none,false,true⟩,⟨some (77,false),.lit 1 [(0,.const (.int .i64 40))],none,false,true⟩,.T 78 (.build [(0,1),(1,1)] [.im true [],.im true []] [(0,.tmp 76),(1,.tmp 77)]),⟨some (79,false),.lit 2 [(0,.tmp 78)],none,false,true⟩,.T 80 (.lit 2 []),.T 81 (.lit 1 [(0,.tmp 79),(1,.tmp 80)]),.T 82 (.call 26 [.tmp 75,.tmp 81]),.M 71 82,.T 83 (.ext (.tmp 71) 0),.T 84 (.ext (.tmp 71) 1),.N 14 83,.N 15 84]) (.seq (.reg [] [(16,0)] [⟨some (85,false),.lit 1 [(0,.const (.int .u32 1))],none,false,true⟩,.T 86 (.build [(0,1),(1,1)] [.im true [],.im true []] [(0,.tmp 85)]),⟨some (87,false),.lit 1 [(0,.const (.int .u32 1))],none,false,true⟩,⟨some (88,false),.lit 1 [(0,.const (.int .i64 0)),(1,.const (.int .i64 1))],none,false,true⟩,.T 89 (.build [(0,1),(1,1)] [.im true [],.im true []] [(0,.tmp 87),(1,.tmp 88)]),⟨some (90,false),.lit 1 [(0,.const (.int .u32 1))],none,false,true⟩,⟨some (91,false),.lit 1 [(0,.const (.int .i64 1))],none,false,true⟩,.T 92 (.build [(0,1),(1,1)] [.im true [],.im true []] [(0,.tmp 90),(1,.tmp 91)]),⟨some (93,false),.lit 1 [(0,.const (.int .u32 1))],none,false,true⟩,⟨some (94,false),.lit 1 [(0,.const (.int .i64 1)),(1,.const (.int .i64 1))],none,false,true⟩,.T 95 (.build [(0,1),(1,1)] [.im true [],.im true []] [(0,.tmp 93),(1,.tmp 94)]),.T 96 (.lit 2 [(0,.tmp 86),(1,.tmp 89),(2,.tmp 92),(3,.tmp 95)]),.N 16 96]) (.seq (.reg [] [(17,0)] [⟨some (97,false),.lit 1 [(0,.const (.int .u32 3))],none,false,true⟩,.T 98 (.build [(0,1),(1,1)] [.im true [],.im true []] [(0,.tmp 97)]),⟨some (99,false),.lit 1 [(0,.const (.int .u32 2))],none,false,true⟩,⟨some (100,false),.lit 1 [(0,.const (.int .i64 1))],none,false,true⟩,.T 101 (.build [(0,1),(1,1)] [.im true [],.im true []] [(0,.tmp 99),(1,.tmp 100)]),⟨some (102,false),.lit 1 [(0,.const (.int .u32 2))],none,false,true⟩,⟨some (103,false),.lit 1 [(0,.const (.int .i64 2))],none,false,true⟩,.T 104 (.build [(0,1),(1,1)] [.im true [],.im true []] [(0,.tmp 102),(1,.tmp 103)]),.T 105 (.lit 2 [(0,.tmp 98),(1,.tmp 101),(2,.tmp 104)]),.N 17 105]) (.seq (.seq (.reg [] [] [.M 106 2,.T 107 (.bin .neq (.tmp 106) (cI 0)),.M 108 107,.MG 109 108 false 4,.TG 110 108 false (.bin .neq (.tmp 109) (cI 0)),.T 111 (.pick (.tmp 108) (.const (.bool true)) (.tmp 110)),.M 112 111,.MG 113 112 false 6,.TG 114 112 false (.bin .neq (.tmp 113) (cI 0)),.T 115 (.pick (.tmp 112) (.const (.bool true)) (.tmp 114)),.M 116 115,.MG 117 116 false 9,.TG 118 116 false (.bin .neq (.tmp 117) (cI 0)),.T 119 (.pick (.tmp 116) (.const (.bool true)) (.tmp 118)),.M 120 119,.MG 121 120 false 11,.TG 122 120 false (.bin .neq (.tmp 121) (cI 0)),.T 123 (.pick (.tmp 120) (.const (.bool true)) (.tmp 122)),.M 124 123,.MG 125 124 false 13,.TG 126 124 false (.bin .neq (.tmp 125) (cI 2)),.T 127 (.pick (.tmp 124) (.const (.bool true)) (.tmp 126)),.M 128 127,.MG 129 128 false 15,.TG 130 128 false (.bin .neq (.tmp 129) (cI 0)),.T 131 (.pick (.tmp 128) (.const (.bool true)) (.tmp 130)),.M 132 131,.MG 133 132 false 14,.TG 134 132 false (.len (.tmp 133)),.TG 135 132 false (.bin .neq (.tmp 134) (cI 0)),.K 136 (.pick (.tmp 132) (.const (.bool true)) (.tmp 135))]) (.cond (.tmp 136) (some 136) (.seq (.reg [] [] [.K 0 (.mv (.const (.bool false)))]) (.ret)) (.skip))) (.seq (.reg [] [] [.M 137 5,.M 138 16,.T 139 (.call 16 [.tmp 137,.tmp 138]),.M 140 139,.MG 141 140 true 8,.MG 142 140 true 17,.TG 143 140 true (.call 16 [.tmp 141,.tmp 142]),.T 144 (.pick (.tmp 140) (.tmp 143) (.const (.bool false))),.M 145 144,.MG 146 145 true 10,.TG 147 145 true (.lit 1 [(0,.const (.int .u32 73))]),.TG 148 145 true (.call 30 [.tmp 146,.tmp 147]),.T 149 (.pick (.tmp 145) (.tmp 148) (.const (.bool false))),.M 150 149,.MG 151 150 true 7,.TG 152 150 true (.call 14 [.tmp 151,.const (.int .i64 2)]),.TG 153 150 true (.bin .eql (.tmp 152) (cI 0)),.T 154 (.pick (.tmp 150) (.tmp 153) (.const (.bool false))),.M 155 154,.MG 156 155 true 7,.TG 157 155 true (.call 14 [.tmp 156,.const (.int .i64 1)]),.TG 158 155 true (.bin .eql (.tmp 157) (cI 20)),.T 159 (.pick (.tmp 155) (.tmp 158) (.const (.bool false))),.M 160 159,.MG 161 160 true 7,.TG 162 160 true (.call 14 [.tmp 161,.const (.int .i64 (-1))]),.TG 163 160 true (.bin .eql (.tmp 162) (cI 1)),.T 164 (.pick (.tmp 160) (.tmp 163) (.const (.bool false))),.M 165 164,.MG 166 165 true 7,⟨some (167,false),.lit 1 [(0,.const (.int .u32 1))],some (165,true),false,true⟩,⟨some (168,false),.lit 1 [(0,.const (.int .i64 1)),(1,.const (.int .i64 1))],some (165,true),false,true⟩,.TG 169 165 true (.build [(0,1),(1,1)] [.im true [],.im true []] [(0,.tmp 167),(1,.tmp 168)]),.TG 170 165 true (.lit 2 [(0,.tmp 169)]),.TG 171 165 true (.call 21 [.tmp 166,.tmp 170]),.T 172 (.pick (.tmp 165) (.tmp 171) (.const (.bool false))),.M 173 172,.TG 174 173 true (.call 35 []),.TG 175 173 true (.call 36 []),.TG 176 173 true (.call 19 [.tmp 174,.tmp 175]),.TG 177 173 true (.not (.tmp 176)),.T 178 (.pick (.tmp 173) (.tmp 177) (.const (.bool false))),.N 0 178]) (.ret)))))))))))))
theorem is12 : IsF C 12 179 87112285931760246646623899502532662390783 c12 [.tmp 0]:=⟨⟨Try.f12,_,C_P ▸ Try.func12,rfl,rfl,rfl,by kernel_rfl,rfl⟩⟩
theorem qkb9  {r : Bool} (hr : qgI9 = some r) : Res C 12 [] (PB r):=by
 simp only [qgI9] at hr
 obtain ⟨x1,h1,x2,h2,x3,h3,x4,h4,hr⟩:=bs4 hr
 have h1k:=(qyM9 h1).k rfl rfl rfl
 try simp only [go_sem] at h1k
 have h2k:=(qvv9 h2).k rfl rfl rfl
 try simp only [go_sem] at h2k
 have h3k:=(qiE9 h3).k rfl rfl rfl
 try simp only [go_sem] at h3k
 have h4k:=(qyK9 h4).k rfl rfl rfl
 try simp only [go_sem] at h4k
 obtain ⟨x5,h5,x6,h6,x7,h7,x8,h8,hr⟩:=bs4 hr
 have h5k:=(qiE9 h5).k rfl rfl rfl
 try simp only [go_sem] at h5k
 have h6k:=(qiJ9 h6).k rfl rfl rfl
 try simp only [go_sem] at h6k
 have h7k:=fun h=>(qgj9 h7).o rfl rfl rfl (h:=h) (args:=[.d (.rd (([(Mono.mk ([3] : List Int) ([] : List Int)),(Mono.mk ([2] : List Int) ([1,1] : List Int))] : List Mono).map qa9)),.im true [[.d (.rd (x3.1.map qa9))],[.d (.rd (x1.map qa9))]]]) rfl
 try simp only [go_sem] at h7k
 have h8k:=fun h=>(qpP9 h8).o rfl rfl rfl (h:=h) (args:=[.d (.rd (([(Mono.mk ([3] : List Int) ([] : List Int)),(Mono.mk ([2] : List Int) ([1,1] : List Int))] : List Mono).map qa9)),.im true [[.d (.rd (([5] : List Int).map qb9))],[.d (.rd (([7] : List Int).map qb9))]]]) rfl
 try simp only [go_sem] at h8k
 obtain ⟨x9,h9,x10,h10,hr⟩:=bs2 hr
 have h9k:=fun h=>(qgj9 h9).o rfl rfl rfl (h:=h) (args:=[.im true [[.d (.rd (([1] : List Int).map qb9)),.d (.rd (([2] : List Int).map intD))]],.im true [[.d (.rd (([(Mono.mk ([1] : List Int) ([40] : List Int))] : List Mono).map qa9))]]]) rfl
 try simp only [go_sem] at h9k
 have h10k:=fun h=>(qgj9 h10).o rfl rfl rfl (h:=h) (args:=[.im true [[.d (.rd (([1] : List Int).map qb9)),.d (.rd (([2,1] : List Int).map intD))]],.im true [[.d (.rd (([(Mono.mk ([1] : List Int) ([40] : List Int))] : List Mono).map qa9))],[.im true []]]]) rfl
 try simp only [go_sem] at h10k
 rcases iteP hr with ⟨h11,hr⟩ | ⟨h11,hr⟩
 rcases iteP hr with ⟨h12,hr⟩ | ⟨h12,hr⟩
 rcases iteP hr with ⟨h13,hr⟩ | ⟨h13,hr⟩
 rcases iteP hr with ⟨h14,hr⟩ | ⟨h14,hr⟩
 rcases iteP hr with ⟨h15,hr⟩ | ⟨h15,hr⟩
 rcases iteP hr with ⟨h16,hr⟩ | ⟨h16,hr⟩
 rcases iteP hr with ⟨h17,hr⟩ | ⟨h17,hr⟩
 rcases iteP hr with ⟨h18,hr⟩ | ⟨h18,hr⟩
 obtain ⟨x11,h19,hr⟩:=bsome hr
 have h19k:=(qdx9 h19).k rfl rfl rfl
 try simp only [go_sem] at h19k
 rcases iteB hr with ⟨h20,hr⟩ | ⟨h20,hr⟩
 obtain ⟨x12,h21,hr⟩:=bsome hr
 have h21k:=(qdx9 h21).k rfl rfl rfl
 try simp only [go_sem] at h21k
 rcases iteB hr with ⟨h22,hr⟩ | ⟨h22,hr⟩
 obtain ⟨x13,h23,hr⟩:=bsome hr
 have h23k:=fun h=>(qiP9 h23).o rfl rfl rfl (h:=h) (args:=[.d (.rd (x8.1.map qb9)),.im true [[.d (.v (.int .u32 73))]]]) rfl
 try simp only [go_sem] at h23k
 rcases iteB hr with ⟨h24,hr⟩ | ⟨h24,hr⟩
 obtain ⟨x14,h25,hr⟩:=bsome hr
 have h25k:=(qda9 h25).k rfl rfl rfl
 try simp only [go_sem] at h25k
 rcases iteP hr with ⟨h26,hr⟩ | ⟨h26,hr⟩
 obtain ⟨x15,h27,hr⟩:=bsome hr
 have h27k:=(qda9 h27).k rfl rfl rfl
 try simp only [go_sem] at h27k
 rcases iteP hr with ⟨h28,hr⟩ | ⟨h28,hr⟩
 obtain ⟨x16,h29,hr⟩:=bsome hr
 have h29k:=(qda9 h29).k rfl rfl rfl
 try simp only [go_sem] at h29k
 rcases iteP hr with ⟨h30,hr⟩ | ⟨h30,hr⟩
 obtain ⟨x17,h31,hr⟩:=bsome hr
 have h31k:=fun h=>(qma9 h31).o rfl rfl rfl (h:=h) (args:=[.d (.rd (([(Mono.mk ([3] : List Int) ([] : List Int)),(Mono.mk ([2] : List Int) ([1,1] : List Int))] : List Mono).map qa9)),.im true [[.d (.rd (([1] : List Int).map qb9)),.d (.rd (([1,1] : List Int).map intD))]]]) rfl
 try simp only [go_sem] at h31k
 rcases iteB hr with ⟨h32,hr⟩ | ⟨h32,hr⟩
 obtain ⟨x18,h33,hr⟩:=bsome hr
 have h33k:=(qib9 h33).k rfl rfl rfl
 try simp only [go_sem] at h33k
 obtain rfl:=oiA hr
 refine run_V is12 (nbA rfl) ?_
 rotate_left
 obtain rfl:=oiA hr
 refine run_V is12 (nbA rfl) ?_
 rotate_left
 obtain rfl:=oiA hr
 refine run_V is12 (nbA rfl) ?_
 rotate_left
 obtain rfl:=oiA hr
 refine run_V is12 (nbA rfl) ?_
 rotate_left
 obtain rfl:=oiA hr
 refine run_V is12 (nbA rfl) ?_
 rotate_left
 obtain rfl:=oiA hr
 refine run_V is12 (nbA rfl) ?_
 rotate_left
 obtain rfl:=oiA hr
 refine run_V is12 (nbA rfl) ?_
 rotate_left
 obtain rfl:=oiA hr
 refine run_V is12 (nbA rfl) ?_
 rotate_left
 obtain rfl:=oiA hr
 refine run_V is12 (nbA rfl) ?_
 rotate_left
 obtain rfl:=oiA hr
 refine run_V is12 (nbA rfl) ?_
 rotate_left
 obtain rfl:=oiA hr
 refine run_V is12 (nbA rfl) ?_
 rotate_left
 obtain rfl:=oiA hr
 refine run_V is12 (nbA rfl) ?_
 rotate_left
 obtain rfl:=oiA hr
 refine run_V is12 (nbA rfl) ?_
 rotate_left
 obtain rfl:=oiA hr
 refine run_V is12 (nbA rfl) ?_
 rotate_left
 obtain rfl:=oiA hr
 refine run_V is12 (nbA rfl) ?_
 rotate_left
 obtain rfl:=oiA hr
 refine run_V is12 (nbA rfl) ?_
 rotate_left
 all_goals (simp +decide only [go_sem,decide_not,c12, *])
def c3 : ACode:=.seq (.reg [] [] [.K 4 (.mv (.const (.bool false)))]) (.seq (.reg [] [] [.T 7 (.call 12 []),.N 5 7]) (.seq (.seq (.reg [] [] [.M 8 5,.K 9 (.not (.tmp 8))]) (.cond (.tmp 9) (some 9) (.seq (.reg [] [] [.K 4 (.mv (.const (.bool false)))]) (.ret)) (.skip))) (.seq (.reg [] [] [.M 10 0,.T 11 (.call 13 [.tmp 10]),.N 6 11]) (.seq (.reg [] [] [.M 12 6,.M 13 1,.T 14 (.call 14 [.tmp 12,.tmp 13]),.M 15 0,.M 16 1,.T 17 (.call 15 [.tmp 15,.tmp 16]),.T 18 (.bin .eql (.tmp 14) (.tmp 17)),.M 19 18,.MG 20 19 true 6,.MG 21 19 true 0,.TG 22 19 true (.call 16 [.tmp 20,.tmp 21]),.T 23 (.pick (.tmp 19) (.tmp 22) (.const (.bool false))),.N 4 23]) (.ret)))))
end Ld

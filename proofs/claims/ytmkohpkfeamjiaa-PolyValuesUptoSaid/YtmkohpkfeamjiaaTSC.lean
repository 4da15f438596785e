import Derived.Test.YtmkohpkfeamjiaaTSP
import Derived.Lib.BitFns
import Derived.Test.YtmkohpkfeamjiaaProg
set_option maxHeartbeats 400000
set_option linter.unusedVariables false
set_option linter.unusedSimpArgs false
set_option linter.unusedSectionVars false
namespace Lt
open Ld Go Go.Proofs Go.Abs


noncomputable def qeH9 : List PV→AHeap→Option (PV × AHeap):=fun args h=>match args with
 | [.d (.v (.int .u64 n))]=>if 0≤n∧n≤18446744073709551615 then some (.d (.v (.int .i64 ((Go.Lib.bitLen n.toNat : Nat) : Int))),h) else none
 | _=>none

noncomputable def h38 : Hint:=⟨4201523,0,[(0,4198432),(1,4198432)],[],[],[]⟩
noncomputable def h75 : Hint:=⟨19,0,[],[],[],[]⟩
noncomputable def h76 : Hint:=⟨31,0,[],[],[],[]⟩
noncomputable def h86 : Hint:=⟨42535296023574879666274036850519702559,0,[(0,42535296023574879666274036850519699456),(1,42535296023574879666274036850519699456)],[],[],[]⟩
noncomputable def h89 : Hint:=⟨17179886351,0,[(0,17179886080),(1,17179886080),(2,17179886080),(3,17179869184)],[(6,[15,17])],[],[]⟩
noncomputable def h90 : Hint:=⟨8592039695,0,[(0,2097152),(1,2097152),(2,8589934592),(3,8589934592)],[(10,[17,19])],[],[]⟩
noncomputable def h91 : Hint:=⟨35218731966215,0,[(0,35218731831296),(1,35218731831296)],[(10,[17,19])],[],[]⟩
noncomputable def h92 : Hint:=⟨1333065575601045263,0,[(0,1297036692682702848)],[],[],[]⟩
noncomputable def h93 : Hint:=⟨33543,0,[(0,32768),(1,32768)],[(3,[13,15])],[],[]⟩
noncomputable def h94 : Hint:=⟨21268317252094917911888073248812900111,0,[(0,21268317252094917911888073248812898304),(1,21268317252094917911888073248812898304),(2,68719542272),(3,68719476736),(4,19343440303170025034942464),(5,19343403409644425500950528),(6,21268317252094917911888073248812898304),(7,21268296969665970819914479276526665728)],[(11,[15,17]),(17,[15,17]),(23,[15,17])],[],[]⟩
noncomputable def h95 : Hint:=⟨1217485249602318769183,0,[(0,1217485249602318761984),(1,1217485249602318761984),(2,140737488355328),(3,140737488355328),(4,36893628884907458560),(5,36893488147419103232)],[(1,[13,15]),(8,[13,15])],[],[]⟩
noncomputable def h96 : Hint:=⟨22997644815212700899627017342834150232570911,0,[(0,140737488355328),(1,140737488355328),(2,73786976294838206464),(3,73786976294838206464),(4,22997644815212700899624582372475683083386880),(5,22997644815212700899624582372475683083386880),(6,1329227995784915872903807060280344576),(7,1329227995784915872903807060280344576),(8,696899616682077758088864099827321577406464),(9,696898287454081973172991196020261297061888)],[(1,[13,15]),(8,[13,15]),(10,[13,15]),(18,[13,15]),(21,[13,15])],[],[]⟩
noncomputable def h99 : Hint:=⟨288231475663604767,0,[(0,288231475663603712),(1,288231475663603712)],[(6,[21,23])],[],[]⟩
noncomputable def h100 : Hint:=⟨5,0,[],[],[],[]⟩
noncomputable def h101 : Hint:=⟨5,0,[],[(1,[9]),(2,[9]),(3,[9])],[],[]⟩
noncomputable def h102 : Hint:=⟨271,0,[],[],[],[]⟩
noncomputable def h103 : Hint:=⟨4159,0,[],[],[],[]⟩
noncomputable def h104 : Hint:=⟨4197407,0,[],[],[],[]⟩
noncomputable def hint : FuncId→Hint
 | 38=>h38
 | 75=>h75
 | 76=>h76
 | 86=>h86
 | 89=>h89
 | 90=>h90
 | 91=>h91
 | 92=>h92
 | 93=>h93
 | 94=>h94
 | 95=>h95
 | 96=>h96
 | 99=>h99
 | 100=>h100
 | 101=>h101
 | 102=>h102
 | 103=>h103
 | 104=>h104
 | _=>⟨0,0,[],[],[],[]⟩
def mode : FuncId→Nat
 | 75=>1
 | 86=>1
 | 89=>1
 | 90=>1
 | 91=>1
 | 92=>1
 | 93=>1
 | 94=>1
 | 95=>1
 | 96=>1
 | 99=>1
 | 101=>1
 | 102=>1
 | 103=>1
 | 104=>1
 | _=>0
noncomputable def prim : FuncId→Option (List PV→AHeap→Option (PV × AHeap))
 | 61=>some (qcX9 1 4)
 | 74=>some (qcX9 1 8)
 | 87=>some qeH9
 | _=>none
def uses : List FuncId:=[38,75,76,86,89,90,91,92,93,94,95,96,99,100,101,102,103,104]
def settles : List (Nat × String):=[]
noncomputable def C : Cfg:={ P:=Try.prog,mode:=mode,prim:=prim,hint:=hint,use:=fun g=>uses.contains g,settle:=fun o=>settles.any fun p=>o.dst == some p.1 && o.pos == p.2 }
theorem C_P : C.P = Try.prog:=rfl
theorem qtJ9 {args : List PV} {h : AHeap} : callP C (Lim C) 61 args h = qcX9 1 4 args h:=rfl
theorem qqm9 (W0 : World) : FSound W0 C.P 61 (qcX9 1 4):=qir9 (P:=Try.prog) (hint:=⟨21,0,[],[],[],[]⟩) Try.func61 (by kernel_rfl) ⟨rfl,rfl,rfl,rfl,⟨_,rfl⟩,rfl,rfl,⟨_,Try.underlying36⟩,rfl,rfl,by kernel_rfl,by kernel_rfl,by kernel_rfl,by kernel_rfl,by kernel_rfl,by kernel_rfl,rfl,by decide⟩
theorem qtP9 {args : List PV} {h : AHeap} : callP C (Lim C) 74 args h = qcX9 1 8 args h:=rfl
theorem qoH9 (W0 : World) : FSound W0 C.P 74 (qcX9 1 8):=qir9 (P:=Try.prog) (hint:=⟨21,0,[],[],[],[]⟩) Try.func74 (by kernel_rfl) ⟨rfl,rfl,rfl,rfl,⟨_,rfl⟩,rfl,rfl,⟨_,Try.underlying49⟩,rfl,rfl,by kernel_rfl,by kernel_rfl,by kernel_rfl,by kernel_rfl,by kernel_rfl,by kernel_rfl,rfl,by decide⟩

attribute [go_sem] qtJ9 qtP9 qcX9
end Lt

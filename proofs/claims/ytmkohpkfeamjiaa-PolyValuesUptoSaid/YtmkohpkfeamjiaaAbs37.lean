import Derived.Test.YtmkohpkfeamjiaaAbs34
set_option maxHeartbeats 400000
set_option linter.unusedVariables false
set_option linter.unusedSimpArgs false
set_option linter.unusedSectionVars false
namespace Go.Abs
open Go
attribute [go_sem] cget1 cget2 cget3 cset1 cset2 cset3 cmod1 cmod2 cmod3 semA AOper.T AOper.K AOper.M AOper.N AOper.TG AOper.MG coA opsA opA qjX9 aopA putA get2 Env.get Env.set Env.del evO qha9 qhm9 same lenA lenP slenA List.length_map binA arith qjU9 binB qqs9 binMA qmw9 qiD9 qjY9 opNil Nat.add_assoc fold64 notA wrapA qcV9 qiz9 partA fldA qga9 qfq9 List.map_cons List.map_nil List.getElem?_cons_zero List.getElem?_cons_succ List.drop_succ_cons List.drop_zero List.take_succ_cons List.take_zero decide_true decide_false if_true if_false ne_eq not_true_eq_false not_false_eq_true true_or or_true or_false delS Bool.true_eq_false Bool.false_eq_true eq_self Bool.not_true Bool.not_false qkP9 undef qkU9 Option.map_some Option.map_none Option.bind_some Option.getD_some List.length_cons List.length_nil Nat.zero_add Nat.add_zero coV rs_dd qpQ9 qyB9 qwQ9 rs_im rs_ag rs_fn qwh9 qzF9 qwX9 quE9 qso9 qAc9 qAD9 qxd9 qwj9 quw9 qve9 qAn9 qzu9 qyN9 qAJ9 qzC9 qAN9 qvj9 qtZ9 qtj9 qvw9 qsV9 qvR9 mapO qrW9 qoS9 List.flatMap_nil List.flatMap_cons List.append_nil List.nil_append List.cons_append List.append_assoc Nat.zero_mul Nat.one_mul qjl9 qeU9 qfi9 isOne qcd9 splice and_self and_true true_and qxx9 quA9 qwH9 qkY9 List.all_cons List.all_nil beq_self_eq_true Bool.and_self Bool.and_true Bool.true_and qxD9 qkM9 qvi9 qmn9 qlR9 qlH9 Abs.rowAt qoP9 List.set_cons_zero List.set_cons_succ qvQ9 qyE9 quJ9 qxX9 qwl9 qgf9 qwa9 qyG9 qth9 List.length_append lookA mputA qoJ9 keyD toV okTup qhM9 scalar qnn9 qqT9 qqQ9 List.length_replicate List.length_set rngA qkS9 qAj9 qkx9 qyp9 qyH9 mkSlA bxD opBox qqg9 qhO9 qzK9 qyg9 qwR9 qzl9 qxb9 qcT9 bnd qwB9 mlenA qxJ9 qAk9 qzX9 cst0 cst1 cst2 cst3 cst4 cst5 cst6 cst7 cst8 resOf rsT_d qAq9 qyL9 qzH9 qzU9 qzw9
end Go.Abs
namespace Go.Abs
open Go
variable {C : Cfg} {L : Oracle} {get : Nat→PV} {h : AHeap}
theorem qrL9 {ts : Array TypeId} {ty : TypeId} {k : IntKind} {a b : Int} : qcx9 C h .max ts ty [.d (.v (.int k a)),.d (.v (.int k b))] = some (.d (.v (.int k (max a b))),h):=by
 have e : (if b > a then b else a) = max a b:=by split <;> omega
 have : pev C.P (Builtin.max_ ts ty #[.int k a,.int k b]) = some (.int k (if b > a then b else a)):=rfl
 simp only [qcx9,mapO,toV,Option.bind_some]
 show (pev C.P (Builtin.max_ ts ty #[.int k a,.int k b])).map _ = _
 rw [this,e]; rfl
theorem qrw9 {ts : Array TypeId} {ty : TypeId} {k : IntKind} {a b : Int} : qcx9 C h .min ts ty [.d (.v (.int k a)),.d (.v (.int k b))] = some (.d (.v (.int k (min a b))),h):=by
 have e : (if b < a then b else a) = min a b:=by split <;> omega
 have : pev C.P (Builtin.min_ ts ty #[.int k a,.int k b]) = some (.int k (if b < a then b else a)):=rfl
 simp only [qcx9,mapO,toV,Option.bind_some]
 show (pev C.P (Builtin.min_ ts ty #[.int k a,.int k b])).map _ = _
 rw [this,e]; rfl
theorem qyk9 {d : Option Nat} {x y : Operand} {ts : Array TypeId} {ty : TypeId} {p : String} {af} {g} : aop C L get h { dst:=d,op:=.call { callee:=.builtin .max,args:=#[x,y],argTypes:=ts },type:=ty,pos:=p,after:=af,guard:=g } = qcx9 C h .max ts ty [evO get x,evO get y]:=rfl
theorem qzk9 {d : Option Nat} {x y : Operand} {ts : Array TypeId} {ty : TypeId} {p : String} {af} {g} : aop C L get h { dst:=d,op:=.call { callee:=.builtin .min,args:=#[x,y],argTypes:=ts },type:=ty,pos:=p,after:=af,guard:=g } = qcx9 C h .min ts ty [evO get x,evO get y]:=rfl
attribute [go_sem] qrL9 qrw9 qyk9 qzk9
theorem qvy9 {P : Program} {s : St} {a t n : Nat} {cs : List PV} (h1 : (P.underlying t).map qht9 = some true) (h2 : (P.info? t).map (·.size) = some n) (h3 : qcV9 s.h (s.env.get a) = some cs) (h4 : n≤cs.length) : resP P s (.cell a t) = some (.ag (cs.take n)):=by
 simp only [resP,loadP,h3,Option.bind_some,partP]
 cases hu : P.underlying t with
 | none=>rw [hu] at h1; cases h1
 | some d =>
  cases hi : P.info? t with
  | none=>rw [hi] at h2; cases h2
  | some i =>
   rw [hu] at h1; rw [hi] at h2
   simp only [Option.map_some,Option.some.injEq] at h1 h2
   simp only [h1,h2,if_true,Nat.zero_add,List.drop_zero]
   rw [if_pos h4]
end Go.Abs
namespace Go.Abs
open Go
variable {P : Program}
structure Two (P : Program) (t : TypeId) : Prop where
 two : ∃ f0 f1 k0 k1, P.underlying t = some (.struct #[f0, f1]) ∧ f0.name ≠ "_" ∧ f1.name ≠ "_" ∧ f0.offset = 0 ∧ f1.offset = 1 ∧ P.underlying f0.type = some (.int k0) ∧ P.underlying f1.type = some (.int k1)
 held : P.stoodInHeld t = false
 guard : P.eqGuardType P.depth t = false
def twoB (P : Program) (t : TypeId) : Bool:=(match P.underlying t with
 | some (.struct fs)=>(match fs.toList with
  | [f0, f1] => f0.name != "_" && f1.name != "_" && f0.offset == 0 && f1.offset == 1 && (match P.underlying f0.type, P.underlying f1.type with | some (.int _), some (.int _) => true | _, _ => false)
  | _=>false)
 | _=>false) && !P.stoodInHeld t && !P.eqGuardType P.depth t
theorem Two.of {t : TypeId} (h : twoB P t = true) : Two P t:=by
 unfold twoB at h
 simp only [Bool.and_eq_true,Bool.not_eq_true'] at h
 refine ⟨?_,h.1.2,h.2⟩
 have h1:=h.1.1
 split at h1
 rotate_left
 ·cases h1
 rename_i fs hfs
 split at h1
 ·rename_i f0 f1 hu
  have hu' : P.underlying t = some (.struct #[f0,f1]):=by
   rw [hfs]
   have : fs = #[f0,f1]:=Array.toList_inj.1 hu
   rw [this]
  simp only [Bool.and_eq_true,bne_iff_ne,beq_iff_eq] at h1
  obtain ⟨⟨⟨⟨a,b⟩,c⟩,d⟩,e⟩:=h1
  split at e
  ·rename_i k0 k1 u0 u1
   exact ⟨f0,f1,k0,k1,hu',a,b,c,d,u0,u1⟩
  ·cases e
 ·cases h1

theorem qyZ9 {C : Cfg} {L : Oracle} {get : Nat→PV} {h : AHeap} {d : Option Nat} {op : BinOp} {t t2 : TypeId} {x y : Operand} {ty : TypeId} {p : String} {af} {g} : aop C L get h { dst:=d,op:=.binOp op t x y t2,type:=ty,pos:=p,after:=af,guard:=g } = opBin C.P h op t x y (evO get x) (evO get y):=rfl
theorem la1 {x k : Nat} : 1 + (x + k) = x + (k + 1):=by omega
theorem la2 {x k : Nat} : 2 + (x + k) = x + (k + 2):=by omega
theorem la3 {x k : Nat} : 3 + (x + k) = x + (k + 3):=by omega
theorem la4 {x k : Nat} : 4 + (x + k) = x + (k + 4):=by omega
theorem la5 {x k : Nat} : 5 + (x + k) = x + (k + 5):=by omega
theorem la6 {x k : Nat} : 6 + (x + k) = x + (k + 6):=by omega
section
variable {α : Type} {a : α} {l : List α} {b : α} {o : AObj} {h : AHeap} {x y z u w v q k : Nat}
theorem cget4 : (a::l)[x + (y + (z + (u + (k + 1))))]? = l[x + (y + (z + (u + k)))]?:=by rw [show x + (y + (z + (u + (k + 1)))) = (x + (y + (z + (u + k)))) + 1 by omega]; exact List.getElem?_cons_succ
theorem cset4 : (a::l).set (x + (y + (z + (u + (k + 1))))) b = a::l.set (x + (y + (z + (u + k)))) b:=by rw [show x + (y + (z + (u + (k + 1)))) = (x + (y + (z + (u + k)))) + 1 by omega]; rfl
theorem cmod4 : (o::h).modify (x + (y + (z + (u + (k + 1))))) AObj.freeze = o::h.modify (x + (y + (z + (u + k)))) AObj.freeze:=by rw [show x + (y + (z + (u + (k + 1)))) = (x + (y + (z + (u + k)))) + 1 by omega]; exact qgf9
theorem cget5 : (a::l)[x + (y + (z + (u + (w + (k + 1)))))]? = l[x + (y + (z + (u + (w + k))))]?:=by rw [show x + (y + (z + (u + (w + (k + 1))))) = (x + (y + (z + (u + (w + k))))) + 1 by omega]; exact List.getElem?_cons_succ
theorem cset5 : (a::l).set (x + (y + (z + (u + (w + (k + 1)))))) b = a::l.set (x + (y + (z + (u + (w + k))))) b:=by rw [show x + (y + (z + (u + (w + (k + 1))))) = (x + (y + (z + (u + (w + k))))) + 1 by omega]; rfl
theorem cmod5 : (o::h).modify (x + (y + (z + (u + (w + (k + 1)))))) AObj.freeze = o::h.modify (x + (y + (z + (u + (w + k))))) AObj.freeze:=by rw [show x + (y + (z + (u + (w + (k + 1))))) = (x + (y + (z + (u + (w + k))))) + 1 by omega]; exact qgf9
theorem cget6 : (a::l)[x + (y + (z + (u + (w + (v + (k + 1))))))]? = l[x + (y + (z + (u + (w + (v + k)))))]?:=by rw [show x + (y + (z + (u + (w + (v + (k + 1)))))) = (x + (y + (z + (u + (w + (v + k)))))) + 1 by omega]; exact List.getElem?_cons_succ
theorem cset6 : (a::l).set (x + (y + (z + (u + (w + (v + (k + 1))))))) b = a::l.set (x + (y + (z + (u + (w + (v + k)))))) b:=by rw [show x + (y + (z + (u + (w + (v + (k + 1)))))) = (x + (y + (z + (u + (w + (v + k)))))) + 1 by omega]; rfl
theorem cmod6 : (o::h).modify (x + (y + (z + (u + (w + (v + (k + 1))))))) AObj.freeze = o::h.modify (x + (y + (z + (u + (w + (v + k)))))) AObj.freeze:=by rw [show x + (y + (z + (u + (w + (v + (k + 1)))))) = (x + (y + (z + (u + (w + (v + k)))))) + 1 by omega]; exact qgf9
theorem cget7 : (a::l)[x + (y + (z + (u + (w + (v + (q + (k + 1)))))))]? = l[x + (y + (z + (u + (w + (v + (q + k))))))]?:=by rw [show x + (y + (z + (u + (w + (v + (q + (k + 1))))))) = (x + (y + (z + (u + (w + (v + (q + k))))))) + 1 by omega]; exact List.getElem?_cons_succ
theorem cset7 : (a::l).set (x + (y + (z + (u + (w + (v + (q + (k + 1)))))))) b = a::l.set (x + (y + (z + (u + (w + (v + (q + k))))))) b:=by rw [show x + (y + (z + (u + (w + (v + (q + (k + 1))))))) = (x + (y + (z + (u + (w + (v + (q + k))))))) + 1 by omega]; rfl
theorem cmod7 : (o::h).modify (x + (y + (z + (u + (w + (v + (q + (k + 1)))))))) AObj.freeze = o::h.modify (x + (y + (z + (u + (w + (v + (q + k))))))) AObj.freeze:=by rw [show x + (y + (z + (u + (w + (v + (q + (k + 1))))))) = (x + (y + (z + (u + (w + (v + (q + k))))))) + 1 by omega]; exact qgf9
end
attribute [go_sem_proc] Nat.reduceDiv Nat.reduceMod Int.reduceToNat Nat.reduceAdd Nat.reduceLT Nat.reduceMul Nat.reducePow reduceCtorEq
attribute [go_sem] qde9 la1 la2 la3 la4 la5 la6
attribute [go_sem] qyZ9 qlc9 cget4 cset4 cmod4 cget5 cset5 cmod5 cget6 cset6 cmod6 cget7 cset7 cmod7
end Go.Abs

import Derived.Test.YtmkohpkfeamjiaaAbs34
set_option maxHeartbeats 400000
set_option linter.unusedVariables false
set_option linter.unusedSimpArgs false
set_option linter.unusedSectionVars false
namespace Go.Abs
open Go
attribute [go_sem] cget1 cget2 cget3 cset1 cset2 cset3 cmod1 cmod2 cmod3 semA AOper.T AOper.K AOper.M AOper.N AOper.TG AOper.MG coA opsA opA qil9 aopA putA get2 Env.get Env.set Env.del evO qeX9 qfh9 same lenA lenP slenA List.length_map binA arith qii9 binB qpz9 binMA qlo9 qgQ9 qim9 opNil Nat.add_assoc fold64 notA wrapA qbs9 qgK9 partA fldA qdR9 qcU9 List.map_cons List.map_nil List.getElem?_cons_zero List.getElem?_cons_succ List.drop_succ_cons List.drop_zero List.take_succ_cons List.take_zero decide_true decide_false if_true if_false ne_eq not_true_eq_false not_false_eq_true true_or or_true or_false delS Bool.true_eq_false Bool.false_eq_true eq_self Bool.not_true Bool.not_false qjt9 undef qjz9 Option.map_some Option.map_none Option.bind_some Option.getD_some List.length_cons List.length_nil Nat.zero_add Nat.add_zero coV rs_dd qoV9 qyg9 qwl9 rs_im rs_ag rs_fn qvx9 qzj9 qwt9 qtE9 qrc9 qzL9 qAs9 qwz9 qvz9 qtw9 qug9 qzV9 qyV9 qyt9 qAy9 qzd9 qAC9 qur9 qsY9 qsd9 quD9 qrN9 qve9 mapO qqO9 qnU9 List.flatMap_nil List.flatMap_cons List.append_nil List.nil_append List.cons_append List.append_assoc Nat.zero_mul Nat.one_mul qhC9 qcG9 qcP9 isOne qU9 splice and_self and_true true_and qwV9 qtA9 qwe9 qjG9 List.all_cons List.all_nil beq_self_eq_true Bool.and_self Bool.and_true Bool.true_and qkJ9 qjq9 quq9 qiz9 qgr9 qkw9 Abs.rowAt qnS9 List.set_cons_zero List.set_cons_succ qvd9 qyk9 qtH9 qxA9 qvB9 qdX9 qvn9 qym9 qsa9 List.length_append lookA mputA qnO9 keyD toV okTup qfI9 scalar qmi9 qpW9 qpU9 List.length_replicate List.length_set rngA qjw9 qzR9 qiR9 qxT9 qyn9 mkSlA bxD opBox qpq9 qfK9 qzr9 qxM9 qwm9 qyO9 qwx9 qbj9 bnd qvW9 mlenA qxj9 qzS9 qzF9 cst0 cst1 cst2 cst3 cst4 cst5 cst6 cst7 cst8 resOf rsT_d qAa9 qyr9 qzl9 qzB9 qyX9
end Go.Abs
namespace Go.Abs
open Go
variable {C : Cfg} {L : Oracle} {get : Nat→PV} {h : AHeap}
theorem qqC9 {ts : Array TypeId} {ty : TypeId} {k : IntKind} {a b : Int} : qbh9 C h .max ts ty [.d (.v (.int k a)),.d (.v (.int k b))] = some (.d (.v (.int k (max a b))),h):=by
 have e : (if b > a then b else a) = max a b:=by split <;> omega
 have : pev C.P (Builtin.max_ ts ty #[.int k a,.int k b]) = some (.int k (if b > a then b else a)):=rfl
 simp only [qbh9,mapO,toV,Option.bind_some]
 show (pev C.P (Builtin.max_ ts ty #[.int k a,.int k b])).map _ = _
 rw [this,e]; rfl
theorem qqo9 {ts : Array TypeId} {ty : TypeId} {k : IntKind} {a b : Int} : qbh9 C h .min ts ty [.d (.v (.int k a)),.d (.v (.int k b))] = some (.d (.v (.int k (min a b))),h):=by
 have e : (if b < a then b else a) = min a b:=by split <;> omega
 have : pev C.P (Builtin.min_ ts ty #[.int k a,.int k b]) = some (.int k (if b < a then b else a)):=rfl
 simp only [qbh9,mapO,toV,Option.bind_some]
 show (pev C.P (Builtin.min_ ts ty #[.int k a,.int k b])).map _ = _
 rw [this,e]; rfl
theorem qxP9 {d : Option Nat} {x y : Operand} {ts : Array TypeId} {ty : TypeId} {p : String} {af} {g} : aop C L get h { dst:=d,op:=.call { callee:=.builtin .max,args:=#[x,y],argTypes:=ts },type:=ty,pos:=p,after:=af,guard:=g } = qbh9 C h .max ts ty [evO get x,evO get y]:=rfl
theorem qyN9 {d : Option Nat} {x y : Operand} {ts : Array TypeId} {ty : TypeId} {p : String} {af} {g} : aop C L get h { dst:=d,op:=.call { callee:=.builtin .min,args:=#[x,y],argTypes:=ts },type:=ty,pos:=p,after:=af,guard:=g } = qbh9 C h .min ts ty [evO get x,evO get y]:=rfl
attribute [go_sem] qqC9 qqo9 qxP9 qyN9
theorem quH9 {P : Program} {s : St} {a t n : Nat} {cs : List PV} (h1 : (P.underlying t).map qfp9 = some true) (h2 : (P.info? t).map (·.size) = some n) (h3 : qbs9 s.h (s.env.get a) = some cs) (h4 : n≤cs.length) : resP P s (.cell a t) = some (.ag (cs.take n)):=by
 simp only [resP,loadP,h3,Option.bind_some,partP]
 cases hu : P.underlying t with
 | none=>rw [hu] at h1; cases h1
 | some d =>
  cases hi : P.info? t with
  | none=>rw [hi] at h2; cases h2
  | some i =>
   rw [hu] at h1; rw [hi] at h2
   simp only [Option.map_some,Option.some.injEq] at h1 h2
   simp only [h1,h2,if_true,Nat.zero_add,List.drop_zero]
   rw [if_pos h4]
end Go.Abs
namespace Go.Abs
open Go
variable {P : Program}
structure Two (P : Program) (t : TypeId) : Prop where
 two : ∃ f0 f1 k0 k1, P.underlying t = some (.struct #[f0, f1]) ∧ f0.name ≠ "_" ∧ f1.name ≠ "_" ∧ f0.offset = 0 ∧ f1.offset = 1 ∧ P.underlying f0.type = some (.int k0) ∧ P.underlying f1.type = some (.int k1)
 held : P.stoodInHeld t = false
 guard : P.eqGuardType P.depth t = false
def twoB (P : Program) (t : TypeId) : Bool:=(match P.underlying t with
 | some (.struct fs)=>(match fs.toList with
  | [f0, f1] => f0.name != "_" && f1.name != "_" && f0.offset == 0 && f1.offset == 1 && (match P.underlying f0.type, P.underlying f1.type with | some (.int _), some (.int _) => true | _, _ => false)
  | _=>false)
 | _=>false) && !P.stoodInHeld t && !P.eqGuardType P.depth t
theorem Two.of {t : TypeId} (h : twoB P t = true) : Two P t:=by
 unfold twoB at h
 simp only [Bool.and_eq_true,Bool.not_eq_true'] at h
 refine ⟨?_,h.1.2,h.2⟩
 have h1:=h.1.1
 split at h1
 rotate_left
 ·cases h1
 rename_i fs hfs
 split at h1
 ·rename_i f0 f1 hu
  have hu' : P.underlying t = some (.struct #[f0,f1]):=by
   rw [hfs]
   have : fs = #[f0,f1]:=Array.toList_inj.1 hu
   rw [this]
  simp only [Bool.and_eq_true,bne_iff_ne,beq_iff_eq] at h1
  obtain ⟨⟨⟨⟨a,b⟩,c⟩,d⟩,e⟩:=h1
  split at e
  ·rename_i k0 k1 u0 u1
   exact ⟨f0,f1,k0,k1,hu',a,b,c,d,u0,u1⟩
  ·cases e
 ·cases h1

theorem qyD9 {C : Cfg} {L : Oracle} {get : Nat→PV} {h : AHeap} {d : Option Nat} {op : BinOp} {t t2 : TypeId} {x y : Operand} {ty : TypeId} {p : String} {af} {g} : aop C L get h { dst:=d,op:=.binOp op t x y t2,type:=ty,pos:=p,after:=af,guard:=g } = opBin C.P h op t x y (evO get x) (evO get y):=rfl
theorem la1 {x k : Nat} : 1 + (x + k) = x + (k + 1):=by omega
theorem la2 {x k : Nat} : 2 + (x + k) = x + (k + 2):=by omega
theorem la3 {x k : Nat} : 3 + (x + k) = x + (k + 3):=by omega
theorem la4 {x k : Nat} : 4 + (x + k) = x + (k + 4):=by omega
theorem la5 {x k : Nat} : 5 + (x + k) = x + (k + 5):=by omega
theorem la6 {x k : Nat} : 6 + (x + k) = x + (k + 6):=by omega
section
variable {α : Type} {a : α} {l : List α} {b : α} {o : AObj} {h : AHeap} {x y z u w v q k : Nat}
theorem cget4 : (a::l)[x + (y + (z + (u + (k + 1))))]? = l[x + (y + (z + (u + k)))]?:=by rw [show x + (y + (z + (u + (k + 1)))) = (x + (y + (z + (u + k)))) + 1 by omega]; exact List.getElem?_cons_succ
theorem cset4 : (a::l).set (x + (y + (z + (u + (k + 1))))) b = a::l.set (x + (y + (z + (u + k)))) b:=by rw [show x + (y + (z + (u + (k + 1)))) = (x + (y + (z + (u + k)))) + 1 by omega]; rfl
theorem cmod4 : (o::h).modify (x + (y + (z + (u + (k + 1))))) AObj.freeze = o::h.modify (x + (y + (z + (u + k)))) AObj.freeze:=by rw [show x + (y + (z + (u + (k + 1)))) = (x + (y + (z + (u + k)))) + 1 by omega]; exact qdX9
theorem cget5 : (a::l)[x + (y + (z + (u + (w + (k + 1)))))]? = l[x + (y + (z + (u + (w + k))))]?:=by rw [show x + (y + (z + (u + (w + (k + 1))))) = (x + (y + (z + (u + (w + k))))) + 1 by omega]; exact List.getElem?_cons_succ
theorem cset5 : (a::l).set (x + (y + (z + (u + (w + (k + 1)))))) b = a::l.set (x + (y + (z + (u + (w + k))))) b:=by rw [show x + (y + (z + (u + (w + (k + 1))))) = (x + (y + (z + (u + (w + k))))) + 1 by omega]; rfl
theorem cmod5 : (o::h).modify (x + (y + (z + (u + (w + (k + 1)))))) AObj.freeze = o::h.modify (x + (y + (z + (u + (w + k))))) AObj.freeze:=by rw [show x + (y + (z + (u + (w + (k + 1))))) = (x + (y + (z + (u + (w + k))))) + 1 by omega]; exact qdX9
theorem cget6 : (a::l)[x + (y + (z + (u + (w + (v + (k + 1))))))]? = l[x + (y + (z + (u + (w + (v + k)))))]?:=by rw [show x + (y + (z + (u + (w + (v + (k + 1)))))) = (x + (y + (z + (u + (w + (v + k)))))) + 1 by omega]; exact List.getElem?_cons_succ
theorem cset6 : (a::l).set (x + (y + (z + (u + (w + (v + (k + 1))))))) b = a::l.set (x + (y + (z + (u + (w + (v + k)))))) b:=by rw [show x + (y + (z + (u + (w + (v + (k + 1)))))) = (x + (y + (z + (u + (w + (v + k)))))) + 1 by omega]; rfl
theorem cmod6 : (o::h).modify (x + (y + (z + (u + (w + (v + (k + 1))))))) AObj.freeze = o::h.modify (x + (y + (z + (u + (w + (v + k)))))) AObj.freeze:=by rw [show x + (y + (z + (u + (w + (v + (k + 1)))))) = (x + (y + (z + (u + (w + (v + k)))))) + 1 by omega]; exact qdX9
theorem cget7 : (a::l)[x + (y + (z + (u + (w + (v + (q + (k + 1)))))))]? = l[x + (y + (z + (u + (w + (v + (q + k))))))]?:=by rw [show x + (y + (z + (u + (w + (v + (q + (k + 1))))))) = (x + (y + (z + (u + (w + (v + (q + k))))))) + 1 by omega]; exact List.getElem?_cons_succ
theorem cset7 : (a::l).set (x + (y + (z + (u + (w + (v + (q + (k + 1)))))))) b = a::l.set (x + (y + (z + (u + (w + (v + (q + k))))))) b:=by rw [show x + (y + (z + (u + (w + (v + (q + (k + 1))))))) = (x + (y + (z + (u + (w + (v + (q + k))))))) + 1 by omega]; rfl
theorem cmod7 : (o::h).modify (x + (y + (z + (u + (w + (v + (q + (k + 1)))))))) AObj.freeze = o::h.modify (x + (y + (z + (u + (w + (v + (q + k))))))) AObj.freeze:=by rw [show x + (y + (z + (u + (w + (v + (q + (k + 1))))))) = (x + (y + (z + (u + (w + (v + (q + k))))))) + 1 by omega]; exact qdX9
end
theorem qjm9 {C : Cfg} {g : FuncId} (hp : C.prim g = none) (hu : C.use g = true) (hm : C.mode g = 2) {args : List PV} {ds : List D} {h h1 : AHeap} {r : PV × AHeap} (ha : mapO (rs h depth) args = some ds) (hf : freezeAll (args.flatMap (reach h depth)) h = h1) (hL : Lim C g (ds.map .d) h1 = some r) : callP C (Lim C) g args h = some r:=by
 simp only [callP,hp,hu,if_true,hm,ha,hf]
 exact hL
attribute [go_sem_proc] Nat.reduceDiv Nat.reduceMod Int.reduceToNat Nat.reduceAdd Nat.reduceLT Nat.reduceMul Nat.reducePow reduceCtorEq
attribute [go_sem] qbt9 la1 la2 la3 la4 la5 la6
attribute [go_sem] qyD9 qjK9 cget4 cset4 cmod4 cget5 cset5 cmod5 cget6 cset6 cmod6 cget7 cset7 cmod7
end Go.Abs

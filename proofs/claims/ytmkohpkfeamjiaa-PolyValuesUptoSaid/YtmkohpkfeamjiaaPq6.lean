import Derived.Test.YtmkohpkfeamjiaaTq6
set_option maxHeartbeats 400000
set_option linter.unusedVariables false
set_option linter.unusedSimpArgs false
set_option linter.unusedSectionVars false
namespace Ld
open Go Go.Proofs Go.Abs Go.Lib Go.Shelf Go.RowKit
theorem callable {g : FuncId} {fn : Func} (h : Try.prog.funcs[g]? = some fn) (h1 : decide (fn.name ≠ "runtime.NumGoroutine") = true) (h2 : fn.body.isSome = true) : Callable Try.prog g := ⟨fn, h, of_decide_eq_true h1, h2⟩
noncomputable def okAll (P : Program) (t : FuncId→Hint) (l : List FuncId) : Bool:=l.all fun g=>match P.funcs[g]? with
 | some fn => decide (fn.name ≠ "runtime.NumGoroutine") && (match fn.body with | some c => okT (t g) c | none => false)
 | none=>false
theorem qks9 : okAll Try.prog hint uses = true:=by kernel_rfl
theorem cOk (W : World) : COk W C:=by
 have all : ∀ g, C.use g = true → ∃ fn c, Try.prog.funcs[g]? = some fn ∧ fn.name ≠ "runtime.NumGoroutine" ∧ fn.body = some c ∧ okT (hint g) c = true := by
  intro g hg
  have hm : g∈uses:=by simpa [C] using hg
  have h1:=List.all_eq_true.1 qks9 g hm
  cases hf : Try.prog.funcs[g]? with
  | none=>rw [hf] at h1; cases h1
  | some fn =>
   rw [hf] at h1
   simp only [Bool.and_eq_true,decide_eq_true_eq] at h1
   cases hb : fn.body with
   | none=>rw [hb] at h1; cases h1.2
   | some c=>rw [hb] at h1; exact ⟨fn,c,rfl,h1.1,hb,h1.2⟩
 refine { use:=fun g hg=>?_,prim:=fun g p hg=>?_,orders:=?_,hints:=fun g fn c hg hf hc=>?_ }
 ·obtain ⟨fn,c,h1,h2,h3,_⟩:=all g hg
  exact ⟨fn,h1,h2,by rw [h3]; rfl⟩
 ·have hg' : prim g = some p:=hg
  unfold prim at hg'
  split at hg'
  ·cases hg'; exact ⟨callable Try.func46 (by kernel_rfl) (by kernel_rfl),Lt.told_sound Lt.cOk W⟩
  ·cases hg'; exact ⟨callable Try.func61 (by kernel_rfl) (by kernel_rfl),qqm9 W⟩
  ·cases hg'; exact ⟨callable Try.func72 (by kernel_rfl) (by kernel_rfl),qzY9 W⟩
  ·cases hg'; exact ⟨callable Try.func74 (by kernel_rfl) (by kernel_rfl),qoH9 W⟩
  ·cases hg'
 ·show Try.prog.follows .mixedOrders = true
  kernel_rfl
 ·obtain ⟨fn',c',h1,_,h3,h4⟩:=all g hg
  have e : fn' = fn:=oiA (h1.symm.trans hf)
  subst e
  have e2 : c' = c:=oiA (h3.symm.trans hc)
  subst e2
  exact h4
end Ld

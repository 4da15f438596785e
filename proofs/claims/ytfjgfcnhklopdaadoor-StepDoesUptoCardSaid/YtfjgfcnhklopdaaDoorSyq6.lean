import Derived.Test.YtfjgfcnhklopdaaDoorSYC
import Derived.Test.YtfjgfcnhklopdaaDoorShS
import Derived.Test.YtfjgfcnhklopdaaDoorAbs27
import Derived.Lib.LaidU8
import Derived.Test.YtfjgfcnhklopdaaDoorRows
set_option maxHeartbeats 400000
set_option linter.unusedVariables false
set_option linter.unusedSimpArgs false
namespace Ld
open Go Go.Proofs Go.Abs Go.Lib Go.Shelf Go.RowKit
theorem qoS9 {W0 : World} {X : Nat → Prop} {h : AHeap} {m : Places} {w w' : World} (H : HRel W0 X h m w) (hb : Below w.heap.size w w') {d : D} {v : Value} (hv : VRel (Ex X h m) h m w' (.d d) v) : Out W0 X h m w (.d d) h v w' :=
  ⟨m, hv, H.grow hb.os hb.tape hb.output hb.size hb.block, Evo.grow H hb.os hb.tape hb.output hb.size hb.block⟩
theorem qvA9 {W0 : World} {X : Nat → Prop} {h : AHeap} {m : Places} {w : World} (H : HRel W0 X h m w) {a b : Nat} (hT : Lib.Utf8Tabs a b W0) : Lib.Utf8Tabs a b w := by
  have key : ∀ (g c : Nat) (v : Value), W0.cell? ⟨g, c, none⟩ = some v → w.cell? ⟨g, c, none⟩ = some v := by
    intro g c v hc
    have hlt : (⟨g, c, none⟩ : Addr).block < W0.heap.size := World.block_lt_of_cell? W0 _ hc
    rw [qez9 (a := ⟨g, c, none⟩) (H.old g hlt)]
    exact hc
  exact ⟨fun c hc => key _ _ _ (hT.1 c hc), fun i hi => ⟨key _ _ _ (hT.2 i hi).1, key _ _ _ (hT.2 i hi).2⟩⟩
theorem qxt9 {W : World} (r1 : VarReads Tryd.prog W "unicode/utf8.first" firstData) (r2 : VarReads Tryd.prog W "unicode/utf8.acceptRanges" acceptData) : Lib.Utf8Tabs (Tryd.lays196_ren.g 3) (Tryd.lays196_ren.g 4) W := by
  have k5 : Tryd.prog.cellsOf 5 = 1 := by kernel_rfl
  have k171 : Tryd.prog.cellsOf 171 = 256 := by kernel_rfl
  have k173 : Tryd.prog.cellsOf 173 = 2 := by kernel_rfl
  have one : ∀ c, c < 256 → W.cell? ⟨0, c, none⟩ = some (.int .u8 (firstT c)) := by
    obtain ⟨b, ty, cells, n, pl, a1, a2, a3, a4⟩ := r1
    have eb : b = 0 := oiA (a1.symm.trans (show Tryd.prog.globalNamed "unicode/utf8.first" = some 0 by kernel_rfl))
    subst eb
    have et : ty = 171 := oiA (a2.symm.trans (show (Tryd.prog.globals[0]?).map (·.type) = some 171 by kernel_rfl))
    subst et
    have all := cells_of_tab Tryd.underlying171 Tryd.underlying5 k5 k171 a4
    intro c hc
    have := World.var?_cell a1 a3 c
    rw [← Array.getElem?_toList, all] at this
    rw [this]
    simp [firstTab, hc]
  have two : ∀ i, i < 16 → W.cell? ⟨1, 2 * i, none⟩ = some (.int .u8 (accLo i)) ∧ W.cell? ⟨1, 2 * i + 1, none⟩ = some (.int .u8 (accHi i)) := by
    obtain ⟨b, ty, cells, n, pl, a1, a2, a3, a4⟩ := r2
    have eb : b = 1 := oiA (a1.symm.trans (show Tryd.prog.globalNamed "unicode/utf8.acceptRanges" = some 1 by kernel_rfl))
    subst eb
    have et : ty = 174 := oiA (a2.symm.trans (show (Tryd.prog.globals[1]?).map (·.type) = some 174 by kernel_rfl))
    subst et
    intro i hi
    obtain ⟨n1, x, pl1, b1, b2⟩ := array_elem Tryd.underlying174 a4 i hi
    rw [k173] at b2
    have ex : x = .agg ([(accLo i : Int), (accHi i : Int)].map fun z => .lit (.int .u8 z)) := by
      have : ((List.range 16).map fun i => (DataW.agg ([(accLo i : Int), (accHi i : Int)].map fun z => DataW.lit (.int .u8 z)) : DataW Unit))[i]? = some (.agg ([(accLo i : Int), (accHi i : Int)].map fun z => .lit (.int .u8 z))) := by simp [hi]
      exact (oiA (this.symm.trans b1)).symm
    subst ex
    have row := ints_of_struct Tryd.underlying173 (fun j f hj => by
      match j, hj with
      | 0, hj => cases hj; exact ⟨Tryd.underlying5, rfl, k5⟩
      | 1, hj => cases hj; exact ⟨Tryd.underlying5, rfl, k5⟩
      | j + 2, hj => cases hj) (by rw [k173]; rfl) b2
    have q0 := congrArg (fun l => l[0]?) row
    have q1 := congrArg (fun l => l[1]?) row
    simp only [List.getElem?_take, List.getElem?_drop] at q0 q1
    have c0 := World.var?_cell a1 a3 (2 * i)
    have c1 := World.var?_cell a1 a3 (2 * i + 1)
    rw [← Array.getElem?_toList] at c0 c1
    exact ⟨by rw [c0]; simpa [Nat.mul_comm] using q0, by rw [c1]; simpa [Nat.mul_comm] using q1⟩
  exact ⟨one, two⟩
theorem qqL9 {W0 : World} (hT : Lib.Utf8Tabs (Tryd.lays196_ren.g 3) (Tryd.lays196_ren.g 4) W0) : FSound W0 Tryd.prog 114 qbm9 := by
  intro args h r h' ho X m w vs H hv
  unfold qbm9 at ho
  split at ho
  · rename_i s
    obtain ⟨v, rfl⟩ : ∃ v, vs = [v] := by
      have h1 := hv.1
      match vs, h1 with
      | [v], _ => exact ⟨v, rfl⟩
    have hx : VRel (Ex X h m) h m w (.d (.v (.string s))) v := hv.2 0 _ v rfl rfl
    cases hx with
    | d x v hd =>
      cases hd
      split at ho
      · rename_i b hb
        simp only [Option.some.injEq, Prod.mk.injEq] at ho
        obtain ⟨rfl, rfl⟩ := ho
        unfold qbe9 at hb
        obtain ⟨hsz, hb⟩ := gsome hb
        have hc : Calls Tryd.prog 114 #[.string s] w _ := Any.utf8_ValidString Tryd.lays196 s w (of_eq_true hsz) (qvA9 H hT)
        refine hc.mono fun e w' ⟨he, hbel⟩ => ?_
        cases hb
        subst he
        exact qoS9 H hbel (.d _ _ (.v _))
      · cases ho
  · cases ho
theorem quM9 {W0 : World} : FSound W0 Tryd.prog 106 qcQ9 := by
  intro args h r h' ho X m w vs H hv
  unfold qcQ9 at ho
  split at ho
  · rename_i n
    obtain ⟨v, rfl⟩ : ∃ v, vs = [v] := by
      have h1 := hv.1
      match vs, h1 with
      | [v], _ => exact ⟨v, rfl⟩
    have hx : VRel (Ex X h m) h m w (.d (.v (.int .u64 n))) v := hv.2 0 _ v rfl rfl
    cases hx with
    | d x v hd =>
      cases hd
      obtain ⟨hsz, ho⟩ := gsome ho
      have hb := of_eq_true hsz
      have hc : Calls Tryd.prog 106 #[.int .u64 n] w _ := Any.bits_Len Tryd.lays125 n w hb.1 hb.2
      refine hc.mono fun e w' ⟨he, hw⟩ => ?_
      cases ho
      subst he
      subst hw
      exact qoS9 H (Below.refl _ _) (.d _ _ (.v _))
  · cases ho
theorem callable {g : FuncId} {fn : Func} (h : Tryd.prog.funcs[g]? = some fn) (h1 : decide (fn.name ≠ "runtime.NumGoroutine") = true) (h2 : fn.body.isSome = true) : Callable Tryd.prog g := ⟨fn, h, of_decide_eq_true h1, h2⟩
noncomputable def okAll (P : Program) (t : FuncId → Hint) (l : List FuncId) : Bool := l.all fun g => match P.funcs[g]? with
  | some fn => decide (fn.name ≠ "runtime.NumGoroutine") && (match fn.body with | some c => qcE9 (t g) c | none => false)
  | none => false
theorem qsw9 : okAll Tryd.prog hint uses = true := by kernel_rfl
theorem cOk {W : World} (hT : Lib.Utf8Tabs (Tryd.lays196_ren.g 3) (Tryd.lays196_ren.g 4) W) : COk W C := by
  have all : ∀ g, C.use g = true → ∃ fn c, Tryd.prog.funcs[g]? = some fn ∧ fn.name ≠ "runtime.NumGoroutine" ∧ fn.body = some c ∧ qcE9 (hint g) c = true := by
    intro g hg
    have hm : g ∈ uses := by simpa [C] using hg
    have h1 := List.all_eq_true.1 qsw9 g hm
    cases hf : Tryd.prog.funcs[g]? with
    | none => rw [hf] at h1; cases h1
    | some fn =>
      rw [hf] at h1
      simp only [Bool.and_eq_true, decide_eq_true_eq] at h1
      cases hb : fn.body with
      | none => rw [hb] at h1; cases h1.2
      | some c => rw [hb] at h1; exact ⟨fn, c, rfl, h1.1, hb, h1.2⟩
  refine { use := fun g hg => ?_, prim := fun g p hg => ?_, orders := ?_, hints := fun g fn c hg hf hc => ?_ }
  · obtain ⟨fn, c, h1, h2, h3, _⟩ := all g hg
    exact ⟨fn, h1, h2, by rw [h3]; rfl⟩
  · have hg' : prim g = some p := hg
    unfold prim at hg'
    split at hg'
    · cases hg'; exact ⟨callable Tryd.func58 (by kernel_rfl) (by kernel_rfl), qzh9 W⟩
    · cases hg'; exact ⟨callable Tryd.func106 (by kernel_rfl) (by kernel_rfl), quM9⟩
    · cases hg'; exact ⟨callable Tryd.func114 (by kernel_rfl) (by kernel_rfl), qqL9 hT⟩
    · cases hg'
  · show Tryd.prog.follows .mixedOrders = true
    kernel_rfl
  · obtain ⟨fn', c', h1, _, h3, h4⟩ := all g hg
    have e : fn' = fn := oiA (h1.symm.trans hf)
    subst e
    have e2 : c' = c := oiA (h3.symm.trans hc)
    subst e2
    exact h4
end Ld

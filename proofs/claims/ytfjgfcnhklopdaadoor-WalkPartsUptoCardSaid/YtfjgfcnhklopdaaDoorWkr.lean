import Derived.Test.YtfjgfcnhklopdaaDoorWkq6
import Derived.Test.YtfjgfcnhklopdaaDoorWKW6
import Derived.Test.YtfjgfcnhklopdaaDoorCards
import Derived.Test.YtfjgfcnhklopdaaDoorTie
import Derived.Lay
import Derived.WalkKit
import Derived.ProofKit
import Derived.OpenShut
import Derived.Carry
import Derived.Deep.DeepHandedRow
set_option maxHeartbeats 400000
set_option linter.unusedVariables false
set_option linter.unusedSimpArgs false
namespace Ld
open Go Go.Proofs Go.Abs Go.Lib
open Go.ChangeShapes Go.WideShapes Go.ChangeAt Go.RowKit
open Go.Proofs.YtfjgfcnhklopdaaDoor Law
set_option maxRecDepth 100000
theorem bulk (H : Type) : Bulk (H := H) Rows.uptoBulk Rows.uptoBulkAll where
  nilA := rfl
  consA := fun _ _ => rfl
  slice := fun _ _ => rfl
  agg := fun _ => rfl
  str := fun _ => rfl
  one := fun d => by cases d <;> first | (rename_i l; cases l <;> simp [Rows.uptoBulk]) | simp [Rows.uptoBulk]
theorem own : ownKnob Tryd.prog.godebug = none := by kernel_rfl
theorem qmI9 : laidOutB Tryd.prog = true := by kernel_rfl
theorem ty9 {ds : List D} (h : Ty Tryd.prog 9 ds) : ∃ x : ByteArray, ds = strD x ∧ True := by
  obtain ⟨n, h1⟩ := Ty.str_inv Tryd.underlying9 h
  exact ⟨n, h1, trivial⟩
theorem ty3 {ds : List D} (h : Ty Tryd.prog 3 ds) : ∃ x : Int, ds = intD x ∧ (okI .i64) x := by
  obtain ⟨n, h1, h2⟩ := Ty.int_inv Tryd.underlying3 h
  exact ⟨n, h1, h2⟩
theorem ty122 {ds : List D} (h : Ty Tryd.prog 122 ds) : ∃ x : Symbol, ds = qb9 x ∧ qjB9 x := by
  obtain ⟨h1, h2⟩ := Ty.struct_inv Tryd.underlying122 h
  rw [show Tryd.prog.cellsOf 122 = 2 by kernel_rfl] at h1
  match ds, h1 with
  | [d0, d1], _ =>
    have q0 := h2 _ (List.mem_cons_self ..)
    simp only [show Tryd.prog.cellsOf 9 = 1 by kernel_rfl] at q0
    obtain ⟨x0, e0, o0⟩ := ty9 q0
    have r0 : [d0] = strD x0 := e0
    have q1 := h2 _ (List.mem_cons_of_mem _ (List.mem_cons_self ..))
    simp only [show Tryd.prog.cellsOf 3 = 1 by kernel_rfl] at q1
    obtain ⟨x1, e1, o1⟩ := ty3 q1
    have r1 : [d1] = intD x1 := e1
    exact ⟨⟨x0, x1⟩, (show [d0] ++ ([d1]) = strD x0 ++ (intD x1) by rw [r0, r1]), o1⟩
theorem ty22 {ds : List D} (h : Ty Tryd.prog 22 ds) : ∃ x : List Symbol, ds = (lsD qb9) x ∧ (okL qjB9) x := by
  obtain ⟨xs, rfl, hx⟩ := Ty.slice_inv Tryd.underlying22 h
  obtain ⟨l, rfl, hl⟩ := qld9 (f := qb9) (q := qjB9) (fun cs hc => ty122 (hx cs hc))
  exact ⟨l, rfl, hl⟩
theorem ty26 {ds : List D} (h : Ty Tryd.prog 26 ds) : ∃ x : List Int, ds = (lsD intD) x ∧ (okL (okI .i64)) x := by
  obtain ⟨xs, rfl, hx⟩ := Ty.slice_inv Tryd.underlying26 h
  obtain ⟨l, rfl, hl⟩ := qld9 (f := intD) (q := (okI .i64)) (fun cs hc => ty3 (hx cs hc))
  exact ⟨l, rfl, hl⟩
theorem ty85 {ds : List D} (h : Ty Tryd.prog 85 ds) : ∃ x : Rule, ds = qd9 x ∧ qlq9 x := by
  obtain ⟨h1, h2⟩ := Ty.struct_inv Tryd.underlying85 h
  rw [show Tryd.prog.cellsOf 85 = 2 by kernel_rfl] at h1
  match ds, h1 with
  | [d0, d1], _ =>
    have q0 := h2 _ (List.mem_cons_self ..)
    simp only [show Tryd.prog.cellsOf 26 = 1 by kernel_rfl] at q0
    obtain ⟨x0, e0, o0⟩ := ty26 q0
    have r0 : [d0] = (lsD intD) x0 := e0
    have q1 := h2 _ (List.mem_cons_of_mem _ (List.mem_cons_self ..))
    simp only [show Tryd.prog.cellsOf 26 = 1 by kernel_rfl] at q1
    obtain ⟨x1, e1, o1⟩ := ty26 q1
    have r1 : [d1] = (lsD intD) x1 := e1
    exact ⟨⟨x0, x1⟩, (show [d0] ++ ([d1]) = (lsD intD) x0 ++ ((lsD intD) x1) by rw [r0, r1]), ⟨o0, o1⟩⟩
theorem ty23 {ds : List D} (h : Ty Tryd.prog 23 ds) : ∃ x : List Rule, ds = (lsD qd9) x ∧ (okL qlq9) x := by
  obtain ⟨xs, rfl, hx⟩ := Ty.slice_inv Tryd.underlying23 h
  obtain ⟨l, rfl, hl⟩ := qld9 (f := qd9) (q := qlq9) (fun cs hc => ty85 (hx cs hc))
  exact ⟨l, rfl, hl⟩
theorem ty25 {ds : List D} (h : Ty Tryd.prog 25 ds) : ∃ x : System, ds = qg9 x ∧ qli9 x := by
  obtain ⟨h1, h2⟩ := Ty.struct_inv Tryd.underlying25 h
  rw [show Tryd.prog.cellsOf 25 = 2 by kernel_rfl] at h1
  match ds, h1 with
  | [d0, d1], _ =>
    have q0 := h2 _ (List.mem_cons_self ..)
    simp only [show Tryd.prog.cellsOf 22 = 1 by kernel_rfl] at q0
    obtain ⟨x0, e0, o0⟩ := ty22 q0
    have r0 : [d0] = (lsD qb9) x0 := e0
    have q1 := h2 _ (List.mem_cons_of_mem _ (List.mem_cons_self ..))
    simp only [show Tryd.prog.cellsOf 23 = 1 by kernel_rfl] at q1
    obtain ⟨x1, e1, o1⟩ := ty23 q1
    have r1 : [d1] = (lsD qd9) x1 := e1
    exact ⟨⟨x0, x1⟩, (show [d0] ++ ([d1]) = (lsD qb9) x0 ++ ((lsD qd9) x1) by rw [r0, r1]), ⟨o0, o1⟩⟩
theorem ty39 {ds : List D} (h : Ty Tryd.prog 39 ds) : ∃ x : Int × Int, ds = (ar2D intD) x ∧ (fun p => (okI .i64) p.1 ∧ (okI .i64) p.2) x := by
  obtain ⟨h1, h2⟩ := Ty.array_inv Tryd.underlying39 h
  rw [show Tryd.prog.cellsOf 39 = 2 by kernel_rfl] at h1
  match ds, h1 with
  | [d0, d1], _ =>
    have q0 := h2 0 (by omega)
    simp only [show Tryd.prog.cellsOf 3 = 1 by kernel_rfl] at q0
    obtain ⟨x0, e0, o0⟩ := ty3 q0
    have r0 : [d0] = intD x0 := e0
    have q1 := h2 1 (by omega)
    simp only [show Tryd.prog.cellsOf 3 = 1 by kernel_rfl] at q1
    obtain ⟨x1, e1, o1⟩ := ty3 q1
    have r1 : [d1] = intD x1 := e1
    exact ⟨⟨x0, x1⟩, (show [d0] ++ ([d1]) = intD x0 ++ (intD x1) by rw [r0, r1]), ⟨o0, o1⟩⟩
theorem qyf9 {a0 : System} {a1 : List Int} {a2 : Int × Int} (ok0 : qli9 a0) (ok1 : (okL (okI .i64)) a1) (ok2 : (fun p => (okI .i64) p.1 ∧ (okI .i64) p.2) a2) (hs : szL (qg9 a0) + szL ((lsD intD) a1) + szL ((ar2D intD) a2) ≤ 1048576) : ∃ h', Lim C 5 [.d (.ag (qg9 a0)), .d (.rd (a1.map intD)), .d (.ag ((ar2D intD) a2))] [] = some (.d (.v (.bool true)), h') := by
  obtain ⟨p, hp, h1, h2⟩ := qlL9 (qnJ9 ok0 ok1 ok2 hs)
  rw [rsTV h2] at h1
  exact ⟨hp, h1⟩
theorem plain25 : qcT9 Tryd.prog 6 25 = true := by kernel_rfl
theorem plain26 : qcT9 Tryd.prog 6 26 = true := by kernel_rfl
theorem plain39 : qcT9 Tryd.prog 6 39 = true := by kernel_rfl
theorem contract (H : Type) (enc : TypeId × Value → H) (W : World) (base : Nat) (args : Array Value) (ds gs : List (DataW H)) (before : List MemPlace)
    (hval : ∀ (j : Nat) t v, Tryd.f5.params[j]? = some t → args[j]? = some v → Value.okWide Tryd.prog W .any base t v)
    (hW : DataW.Whole enc Tryd.prog Tryd.f5.params.toList Rows.walkPartsSpec.vars false W args.toList ds gs before) (hL : laidMetH Tryd.prog Rows.walkPartsUptoRow.laid W) (hsm : Rows.uptoBulkAll (ds ++ gs) ≤ 1048576) :
    Calls Tryd.prog 5 args W fun e W' => ∃ v, e = .returned v ∧ Rows.walkPartsSpec.post enc Tryd.prog Tryd.f5 false true false false W args v W' := by
  have hW' := hW
  obtain ⟨p, q, hA0, hV, rfl, hfz, hnd⟩ := hW
  have hA : DataW.TrodAll enc Tryd.prog W 0 (fun _ => true) true Tryd.f5.params.toList args.toList ds p := hA0
  rw [Tryd.params5] at hA hval
  obtain ⟨v0, v1, v2, d0, d1, d2, p0, p1, p2, rfl, rfl, rfl, h0, h1, h2⟩ := trodAll_three hA
  obtain ⟨rfl, rfl⟩ := trodVars_none hV
  obtain ⟨e0, t0, s0, r0⟩ := arg_D (bulk H) plain25 (hval 0 25 v0 rfl rfl) h0
  obtain ⟨e1, t1, s1, r1⟩ := arg_D (bulk H) plain26 (hval 1 26 v1 rfl rfl) h1
  obtain ⟨e2, t2, s2, r2⟩ := arg_D (bulk H) plain39 (hval 2 39 v2 rfl rfl) h2
  obtain ⟨a0, rfl, ok0⟩ := ty25 t0
  obtain ⟨a1, rfl, ok1⟩ := ty26 t1
  obtain ⟨a2, rfl, ok2⟩ := ty39 t2
  have hT := qxr9 (W := W) (Lib.laidMet.reads hL (.tail _ (.head _))) (Lib.laidMet.reads hL (.head _))
  simp only [List.append_nil, Rows.uptoBulkAll] at hsm
  obtain ⟨h', hl⟩ := qyf9 ok0 ok1 ok2 (by omega)
  rw [show argOf Tryd.prog 25 (qg9 a0) = .ag (qg9 a0) by unfold argOf; rw [Tryd.underlying25]] at r0
  rw [show argOf Tryd.prog 39 ((ar2D intD) a2) = .ag ((ar2D intD) a2) by unfold argOf; rw [Tryd.underlying39]] at r2
  have hc := quJ9 (C := C) (f := 5) (cOk hT) rfl (args := [.ag (qg9 a0), .rd (a1.map intD), .ag ((ar2D intD) a2)]) (vs := [v0, v1, v2]) rfl (fun j u y a b => by
    match j, a, b with
    | 0, a, b => simp at a b; subst a; subst b; exact r0
    | 1, a, b => simp at a b; subst a; subst b; exact r1
    | 2, a, b => simp at a b; subst a; subst b; exact r2
    | (k + 3), a, b => simp at a) hl
  clear hA0
  simp only [List.append_nil] at hW'
  refine hc.mono fun e W' ⟨he, hb⟩ => ?_
  subst he
  have hlt : ∀ x ∈ p0 ++ p1 ++ p2, x.block < W.heap.size := fun x hx => by simpa using hW'.lt x hx
  refine ⟨_, rfl, _, _, _, [], p0 ++ (p1 ++ (p2)), [], hW', ?_, ?_, ?_, hb.frame _, fun h => by cases h⟩
  · exact trodAll_cons_mk (shut_bool Tryd.underlying4 _) trodAll_mk0
  · exact trodAll_mk3 (WideElems.Trod_stays qmI9 (by kernel_rfl) (of_decide_eq_true (by kernel_rfl)) h0 (fun x hx => hb.same (hlt x (by simp [hx]))) (fun x hx => by simpa using hlt x (by simp [hx]))) (WideElems.Trod_stays qmI9 (by kernel_rfl) (of_decide_eq_true (by kernel_rfl)) h1 (fun x hx => hb.same (hlt x (by simp [hx]))) (fun x hx => by simpa using hlt x (by simp [hx]))) (WideElems.Trod_stays qmI9 (by kernel_rfl) (of_decide_eq_true (by kernel_rfl)) h2 (fun x hx => hb.same (hlt x (by simp [hx]))) (fun x hx => by simpa using hlt x (by simp [hx])))
  · rfl
noncomputable abbrev args0 : Array Value := #[.agg #[.slice none 0 0, .slice none 0 0], .slice none 0 0, .agg #[.int .i64 0, .int .i64 0]]
theorem qwo9 (os : Os) : laidMet Tryd.prog Rows.walkPartsUptoRow.laid ((World.laidAll Tryd.prog os Rows.walkPartsUptoRow.laid).forCall (fun _ _ => 0) ⟨#[], args0, []⟩).memory :=
  laidMet_laidAll args0 (by kernel_rfl) (by kernel_rfl)
theorem reads (os : Os) {H : Type} (enc : TypeId × Value → H) : ∃ places, DataW.whole enc Tryd.prog ((World.laidAll Tryd.prog os Rows.walkPartsUptoRow.laid).forCall (fun _ _ => 0) ⟨#[], args0, []⟩).memory Tryd.f5.params.toList Rows.walkPartsSpec.vars false args0.toList 8 = some ([.agg [.nil, .nil], .nil, .agg [.lit (.int .i64 0), .lit (.int .i64 0)]], [], places) :=
  ⟨[], by kernel_rfl⟩
theorem qtz9 (os : Os) (started : os.Started) (H : Type) (enc : TypeId × Value → H) (F : Stop.Interp) :
    ReturnsInHanded {} Tryd.checked os 5 .any ((Rows.OpenSpec.upto Rows.walkPartsSpec).preRow enc Tryd.prog Tryd.f5 Rows.walkPartsUptoRow.domain false Rows.walkPartsUptoRow.laid) (((Rows.OpenSpec.upto Rows.walkPartsSpec).at F).post enc Tryd.prog Tryd.f5 false true false false) := by
  obtain ⟨places, hx⟩ := reads os enc
  refine returnsInHanded_of_row (C := Tryd.checked) (s := Rows.OpenSpec.upto Rows.walkPartsSpec) own started (by kernel_rfl) Tryd.func5
    (witness_row_at (enc := enc) (C := Tryd.checked) false (World.laidAll Tryd.prog os Rows.walkPartsUptoRow.laid) args0 rfl (by kernel_rfl) (by kernel_rfl) (by kernel_rfl)
      (OpenSpec.preRow_of_cond 8 hx (by kernel_rfl) (fun k hk => by cases hk; kernel_rfl) (by kernel_rfl) (qwo9 os))) ?_
  intro W base args ds gs before hval hW _ hcond _ hL _ _
  exact contract H enc W base args ds gs before hval hW hL (of_decide_eq_true (hcond _ rfl))
theorem qvy9 : Rows.WalkPartsUptoSaid :=
  OpenClaim.holds_of_cond 5 Tryd.f5 rfl rfl rfl rfl rfl rfl rfl ⟨rfl, rfl, rfl, rfl, rfl⟩ rfl rfl rfl rfl rfl (by kernel_rfl) Tryd.func5 (by kernel_rfl)
    (of_decide_eq_true (by kernel_rfl)) (by unfold Func.isWrapper; first | (rw [if_pos (by decide +kernel)]; kernel_rfl) | (rw [if_neg (by decide +kernel)]; exact ⟨rfl, rfl⟩))
    (fun os started H enc _ F => by rw [OpenClaim.pre_eq_preRow]; exact qtz9 os started H enc F)
theorem plain (f : FuncId) (fn : Func) (hf : Tryd.pinned.checked.prog.funcNamed "lodestone/lodestonelaw09.WalkParts" = some f) (hfn : Tryd.pinned.checked.prog.funcs[f]? = some fn) :
    true = Tryd.pinned.checked.prog.looks [] ∧ ∀ (j : Nat) t, fn.params[j]? = some t → Tryd.pinned.checked.prog.wantsStandIn t = false := by
  obtain rfl : f = 5 := oiA ((show Tryd.prog.funcNamed "lodestone/lodestonelaw09.WalkParts" = some 5 by kernel_rfl).symm.trans hf) |>.symm
  obtain rfl : fn = Tryd.f5 := (oiA (Tryd.func5.symm.trans hfn)).symm
  refine ⟨by kernel_rfl, fun j t ht => ?_⟩
  rw [Tryd.params5] at ht
  have hm := Array.mem_of_getElem? ht
  have : t = 25 ∨ t = 26 ∨ t = 39 := by simpa using hm
  rcases this with rfl | rfl | rfl
  · exact (show Tryd.prog.wantsStandIn 25 = false by kernel_rfl)
  · exact (show Tryd.prog.wantsStandIn 26 = false by kernel_rfl)
  · exact (show Tryd.prog.wantsStandIn 39 = false by kernel_rfl)
theorem cardUpto : Rows.WalkPartsUptoCardSaid :=
  Claim7.holds_tied_plain_at .later [] _ _ _ _ qvy9 (fun _ h => by cases h) (by kernel_rfl) (fun _ h => by cases h) walkPartsUpto_row_tie rfl ⟨rfl, rfl⟩ (by kernel_rfl) rfl plain (by kernel_rfl)
end Ld

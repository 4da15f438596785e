import Derived.Test.YtigabemldjdlhaaDoorMbb2
import Derived.Test.YtigabemldjdlhaaDoorMbq6
import Derived.Test.YtigabemldjdlhaaDoorMBW3
import Derived.Test.YtigabemldjdlhaaDoorCards
import Derived.Test.YtigabemldjdlhaaDoorTie
import Derived.Lay
import Derived.WalkKit
import Derived.ProofKit
import Derived.OpenShut
import Derived.Carry
import Derived.Deep.DeepHandedRow
set_option maxHeartbeats 400000
set_option linter.unusedVariables false
set_option linter.unusedSimpArgs false
namespace Ld
open Go Go.Proofs Go.Abs Go.Lib
open Go.ChangeShapes Go.WideShapes Go.ChangeAt Go.RowKit
open Go.Proofs.YtigabemldjdlhaaDoor Law
set_option maxRecDepth 100000
theorem bulk (H : Type) : Bulk (H := H) Rows.uptoBulk Rows.uptoBulkAll where
  nilA := rfl
  consA := fun _ _ => rfl
  slice := fun _ _ => rfl
  agg := fun _ => rfl
  str := fun _ => rfl
  one := fun d => by cases d <;> first | (rename_i l; cases l <;> simp [Rows.uptoBulk]) | simp [Rows.uptoBulk]
theorem own : ownKnob Tryd.prog.godebug = none := by kernel_rfl
theorem laidOut : laidOutB Tryd.prog = true := by kernel_rfl
theorem ty9 {ds : List D} (h : Ty Tryd.prog 9 ds) : ∃ x : ByteArray, ds = strD x ∧ True := by
  obtain ⟨n, h1⟩ := Ty.str_inv Tryd.underlying9 h
  exact ⟨n, h1, trivial⟩
theorem ty3 {ds : List D} (h : Ty Tryd.prog 3 ds) : ∃ x : Int, ds = intD x ∧ (okI .i64) x := by
  obtain ⟨n, h1, h2⟩ := Ty.int_inv Tryd.underlying3 h
  exact ⟨n, h1, h2⟩
theorem ty69 {ds : List D} (h : Ty Tryd.prog 69 ds) : ∃ x : Symbol, ds = encSymbol x ∧ okSymbol x := by
  obtain ⟨h1, h2⟩ := Ty.struct_inv Tryd.underlying69 h
  rw [show Tryd.prog.cellsOf 69 = 2 by kernel_rfl] at h1
  match ds, h1 with
  | [d0, d1], _ =>
    have q0 := h2 _ (List.mem_cons_self ..)
    simp only [show Tryd.prog.cellsOf 9 = 1 by kernel_rfl] at q0
    obtain ⟨x0, e0, o0⟩ := ty9 q0
    have r0 : [d0] = strD x0 := e0
    have q1 := h2 _ (List.mem_cons_of_mem _ (List.mem_cons_self ..))
    simp only [show Tryd.prog.cellsOf 3 = 1 by kernel_rfl] at q1
    obtain ⟨x1, e1, o1⟩ := ty3 q1
    have r1 : [d1] = intD x1 := e1
    exact ⟨⟨x0, x1⟩, (show [d0] ++ ([d1]) = strD x0 ++ (intD x1) by rw [r0, r1]), o1⟩
theorem ty22 {ds : List D} (h : Ty Tryd.prog 22 ds) : ∃ x : List Symbol, ds = (lsD encSymbol) x ∧ (okL okSymbol) x := by
  obtain ⟨xs, rfl, hx⟩ := Ty.slice_inv Tryd.underlying22 h
  obtain ⟨l, rfl, hl⟩ := row_form (f := encSymbol) (q := okSymbol) (fun cs hc => ty69 (hx cs hc))
  exact ⟨l, rfl, hl⟩
theorem ty23 {ds : List D} (h : Ty Tryd.prog 23 ds) : ∃ x : List Int, ds = (lsD intD) x ∧ (okL (okI .i64)) x := by
  obtain ⟨xs, rfl, hx⟩ := Ty.slice_inv Tryd.underlying23 h
  obtain ⟨l, rfl, hl⟩ := row_form (f := intD) (q := (okI .i64)) (fun cs hc => ty3 (hx cs hc))
  exact ⟨l, rfl, hl⟩
theorem ty45 {ds : List D} (h : Ty Tryd.prog 45 ds) : ∃ x : (List Int) × (List Int), ds = (ar2D (lsD intD)) x ∧ (fun p => (okL (okI .i64)) p.1 ∧ (okL (okI .i64)) p.2) x := by
  obtain ⟨h1, h2⟩ := Ty.array_inv Tryd.underlying45 h
  rw [show Tryd.prog.cellsOf 45 = 2 by kernel_rfl] at h1
  match ds, h1 with
  | [d0, d1], _ =>
    have q0 := h2 0 (by omega)
    simp only [show Tryd.prog.cellsOf 23 = 1 by kernel_rfl] at q0
    obtain ⟨x0, e0, o0⟩ := ty23 q0
    have r0 : [d0] = (lsD intD) x0 := e0
    have q1 := h2 1 (by omega)
    simp only [show Tryd.prog.cellsOf 23 = 1 by kernel_rfl] at q1
    obtain ⟨x1, e1, o1⟩ := ty23 q1
    have r1 : [d1] = (lsD intD) x1 := e1
    exact ⟨⟨x0, x1⟩, (show [d0] ++ ([d1]) = (lsD intD) x0 ++ ((lsD intD) x1) by rw [r0, r1]), ⟨o0, o1⟩⟩
theorem ty30 {ds : List D} (h : Ty Tryd.prog 30 ds) : ∃ x : Bind, ds = encBind x ∧ okBind x := by
  obtain ⟨h1, h2⟩ := Ty.struct_inv Tryd.underlying30 h
  rw [show Tryd.prog.cellsOf 30 = 2 by kernel_rfl] at h1
  match ds, h1 with
  | [d0, d1], _ =>
    have q0 := h2 _ (List.mem_cons_self ..)
    simp only [show Tryd.prog.cellsOf 3 = 1 by kernel_rfl] at q0
    obtain ⟨x0, e0, o0⟩ := ty3 q0
    have r0 : [d0] = intD x0 := e0
    have q1 := h2 _ (List.mem_cons_of_mem _ (List.mem_cons_self ..))
    simp only [show Tryd.prog.cellsOf 23 = 1 by kernel_rfl] at q1
    obtain ⟨x1, e1, o1⟩ := ty23 q1
    have r1 : [d1] = (lsD intD) x1 := e1
    exact ⟨⟨x0, x1⟩, (show [d0] ++ ([d1]) = intD x0 ++ ((lsD intD) x1) by rw [r0, r1]), ⟨o0, o1⟩⟩
theorem ty25 {ds : List D} (h : Ty Tryd.prog 25 ds) : ∃ x : List Bind, ds = (lsD encBind) x ∧ (okL okBind) x := by
  obtain ⟨xs, rfl, hx⟩ := Ty.slice_inv Tryd.underlying25 h
  obtain ⟨l, rfl, hl⟩ := row_form (f := encBind) (q := okBind) (fun cs hc => ty30 (hx cs hc))
  exact ⟨l, rfl, hl⟩
theorem the_law {a0 : List Symbol} {a1 : (List Int) × (List Int)} {a2 : List Bind} (ok0 : (okL okSymbol) a0) (ok1 : (fun p => (okL (okI .i64)) p.1 ∧ (okL (okI .i64)) p.2) a1) (ok2 : (okL okBind) a2) (hs : szL ((lsD encSymbol) a0) + szL ((ar2D (lsD intD)) a1) + szL ((lsD encBind) a2) ≤ 1048576) : ∃ h', Lim C 10 [.d (.rd (a0.map encSymbol)), .d (.ag ((ar2D (lsD intD)) a1)), .d (.rd (a2.map encBind))] [] = some (.d (.v (.bool true)), h') := by
  obtain ⟨p, hp, h1, h2⟩ := l05_MatchBack_R (back_law ok0 ok1 ok2 hs)
  rw [rsTV h2] at h1
  exact ⟨hp, h1⟩
theorem plain22 : plainT Tryd.prog 6 22 = true := by kernel_rfl
theorem plain25 : plainT Tryd.prog 6 25 = true := by kernel_rfl
theorem plain45 : plainT Tryd.prog 6 45 = true := by kernel_rfl
theorem contract (H : Type) (enc : TypeId × Value → H) (W : World) (base : Nat) (args : Array Value) (ds gs : List (DataW H)) (before : List MemPlace)
    (hval : ∀ (j : Nat) t v, Tryd.f10.params[j]? = some t → args[j]? = some v → Value.okWide Tryd.prog W .any base t v)
    (hW : DataW.Whole enc Tryd.prog Tryd.f10.params.toList Rows.matchBackSpec.vars false W args.toList ds gs before) (hL : laidMetH Tryd.prog Rows.matchBackUptoRow.laid W) (hsm : Rows.uptoBulkAll (ds ++ gs) ≤ 1048576) :
    Calls Tryd.prog 10 args W fun e W' => ∃ v, e = .returned v ∧ Rows.matchBackSpec.post enc Tryd.prog Tryd.f10 false true false false W args v W' := by
  have hW' := hW
  obtain ⟨p, q, hA0, hV, rfl, hfz, hnd⟩ := hW
  have hA : DataW.TrodAll enc Tryd.prog W 0 (fun _ => true) true Tryd.f10.params.toList args.toList ds p := hA0
  rw [Tryd.params10] at hA hval
  obtain ⟨v0, v1, v2, d0, d1, d2, p0, p1, p2, rfl, rfl, rfl, h0, h1, h2⟩ := trodAll_three hA
  obtain ⟨rfl, rfl⟩ := trodVars_none hV
  obtain ⟨e0, t0, s0, r0⟩ := arg_D (bulk H) plain22 (hval 0 22 v0 rfl rfl) h0
  obtain ⟨e1, t1, s1, r1⟩ := arg_D (bulk H) plain45 (hval 1 45 v1 rfl rfl) h1
  obtain ⟨e2, t2, s2, r2⟩ := arg_D (bulk H) plain25 (hval 2 25 v2 rfl rfl) h2
  obtain ⟨a0, rfl, ok0⟩ := ty22 t0
  obtain ⟨a1, rfl, ok1⟩ := ty45 t1
  obtain ⟨a2, rfl, ok2⟩ := ty25 t2
  have hT := tabs_of (W := W) (Lib.laidMet.reads hL (.tail _ (.head _))) (Lib.laidMet.reads hL (.head _))
  simp only [List.append_nil, Rows.uptoBulkAll] at hsm
  obtain ⟨h', hl⟩ := the_law ok0 ok1 ok2 (by omega)
  rw [show argOf Tryd.prog 45 ((ar2D (lsD intD)) a1) = .ag ((ar2D (lsD intD)) a1) by unfold argOf; rw [Tryd.underlying45]] at r1
  have hc := law_calls (C := C) (f := 10) (cOk hT) rfl (args := [.rd (a0.map encSymbol), .ag ((ar2D (lsD intD)) a1), .rd (a2.map encBind)]) (vs := [v0, v1, v2]) rfl (fun j u y a b => by
    match j, a, b with
    | 0, a, b => simp at a b; subst a; subst b; exact r0
    | 1, a, b => simp at a b; subst a; subst b; exact r1
    | 2, a, b => simp at a b; subst a; subst b; exact r2
    | (k + 3), a, b => simp at a) hl
  clear hA0
  simp only [List.append_nil] at hW'
  refine hc.mono fun e W' ⟨he, hb⟩ => ?_
  subst he
  have hlt : ∀ x ∈ p0 ++ p1 ++ p2, x.block < W.heap.size := fun x hx => by simpa using hW'.lt x hx
  refine ⟨_, rfl, _, _, _, [], p0 ++ (p1 ++ (p2)), [], hW', ?_, ?_, ?_, hb.frame _, fun h => by cases h⟩
  · exact trodAll_cons_mk (shut_bool Tryd.underlying4 _) trodAll_mk0
  · exact trodAll_mk3 (WideElems.Trod_stays laidOut (by kernel_rfl) (of_decide_eq_true (by kernel_rfl)) h0 (fun x hx => hb.same (hlt x (by simp [hx]))) (fun x hx => by simpa using hlt x (by simp [hx]))) (WideElems.Trod_stays laidOut (by kernel_rfl) (of_decide_eq_true (by kernel_rfl)) h1 (fun x hx => hb.same (hlt x (by simp [hx]))) (fun x hx => by simpa using hlt x (by simp [hx]))) (WideElems.Trod_stays laidOut (by kernel_rfl) (of_decide_eq_true (by kernel_rfl)) h2 (fun x hx => hb.same (hlt x (by simp [hx]))) (fun x hx => by simpa using hlt x (by simp [hx])))
  · rfl
noncomputable abbrev args0 : Array Value := #[.slice none 0 0, .agg #[.slice none 0 0, .slice none 0 0], .slice none 0 0]
theorem laid_met (os : Os) : laidMet Tryd.prog Rows.matchBackUptoRow.laid ((World.laidAll Tryd.prog os Rows.matchBackUptoRow.laid).forCall (fun _ _ => 0) ⟨#[], args0, []⟩).memory :=
  laidMet_laidAll args0 (by kernel_rfl) (by kernel_rfl)
theorem reads (os : Os) {H : Type} (enc : TypeId × Value → H) : ∃ places, DataW.whole enc Tryd.prog ((World.laidAll Tryd.prog os Rows.matchBackUptoRow.laid).forCall (fun _ _ => 0) ⟨#[], args0, []⟩).memory Tryd.f10.params.toList Rows.matchBackSpec.vars false args0.toList 8 = some ([.nil, .agg [.nil, .nil], .nil], [], places) :=
  ⟨[], by kernel_rfl⟩
theorem liftedUpto (os : Os) (started : os.Started) (H : Type) (enc : TypeId × Value → H) (F : Stop.Interp) :
    ReturnsInHanded {} Tryd.checked os 10 .any ((Rows.OpenSpec.upto Rows.matchBackSpec).preRow enc Tryd.prog Tryd.f10 Rows.matchBackUptoRow.domain false Rows.matchBackUptoRow.laid) (((Rows.OpenSpec.upto Rows.matchBackSpec).at F).post enc Tryd.prog Tryd.f10 false true false false) := by
  obtain ⟨places, hx⟩ := reads os enc
  refine returnsInHanded_of_row (C := Tryd.checked) (s := Rows.OpenSpec.upto Rows.matchBackSpec) own started (by kernel_rfl) Tryd.func10
    (witness_row_at (enc := enc) (C := Tryd.checked) false (World.laidAll Tryd.prog os Rows.matchBackUptoRow.laid) args0 rfl (by kernel_rfl) (by kernel_rfl) (by kernel_rfl)
      (OpenSpec.preRow_of_cond 8 hx (by kernel_rfl) (fun k hk => by cases hk; kernel_rfl) (by kernel_rfl) (laid_met os))) ?_
  intro W base args ds gs before hval hW _ hcond _ hL _ _
  exact contract H enc W base args ds gs before hval hW hL (of_decide_eq_true (hcond _ rfl))
theorem saidUpto : Rows.MatchBackUptoSaid :=
  OpenClaim.holds_of_cond 10 Tryd.f10 rfl rfl rfl rfl rfl rfl rfl ⟨rfl, rfl, rfl, rfl, rfl⟩ rfl rfl rfl rfl rfl (by kernel_rfl) Tryd.func10 (by kernel_rfl)
    (of_decide_eq_true (by kernel_rfl)) (by unfold Func.isWrapper; first | (rw [if_pos (by decide +kernel)]; kernel_rfl) | (rw [if_neg (by decide +kernel)]; exact ⟨rfl, rfl⟩))
    (fun os started H enc _ F => by rw [OpenClaim.pre_eq_preRow]; exact liftedUpto os started H enc F)
theorem plain (f : FuncId) (fn : Func) (hf : Tryd.pinned.checked.prog.funcNamed "lodestone/lodestonelaw05.MatchBack" = some f) (hfn : Tryd.pinned.checked.prog.funcs[f]? = some fn) :
    true = Tryd.pinned.checked.prog.looks [] ∧ ∀ (j : Nat) t, fn.params[j]? = some t → Tryd.pinned.checked.prog.wantsStandIn t = false := by
  obtain rfl : f = 10 := Option.some.inj ((show Tryd.prog.funcNamed "lodestone/lodestonelaw05.MatchBack" = some 10 by kernel_rfl).symm.trans hf) |>.symm
  obtain rfl : fn = Tryd.f10 := (Option.some.inj (Tryd.func10.symm.trans hfn)).symm
  refine ⟨by kernel_rfl, fun j t ht => ?_⟩
  rw [Tryd.params10] at ht
  have hm := Array.mem_of_getElem? ht
  have : t = 22 ∨ t = 45 ∨ t = 25 := by simpa using hm
  rcases this with rfl | rfl | rfl
  · exact (show Tryd.prog.wantsStandIn 22 = false by kernel_rfl)
  · exact (show Tryd.prog.wantsStandIn 45 = false by kernel_rfl)
  · exact (show Tryd.prog.wantsStandIn 25 = false by kernel_rfl)
theorem cardUpto : Rows.MatchBackUptoCardSaid :=
  Claim7.holds_tied_plain_at .later [] _ _ _ _ saidUpto (fun _ h => by cases h) (by kernel_rfl) (fun _ h => by cases h) matchBackUpto_row_tie rfl ⟨rfl, rfl⟩ (by kernel_rfl) rfl plain (by kernel_rfl)
end Ld

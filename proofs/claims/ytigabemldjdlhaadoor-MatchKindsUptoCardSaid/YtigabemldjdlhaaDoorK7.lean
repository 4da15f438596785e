import Derived.Test.YtigabemldjdlhaaDoorK3
import Derived.Test.YtigabemldjdlhaaDoorK5
import Derived.Test.YtigabemldjdlhaaDoorK6
import Derived.Test.YtigabemldjdlhaaDoorMKW3
import Derived.Test.YtigabemldjdlhaaDoorCards
import Derived.Test.YtigabemldjdlhaaDoorTie
import Derived.WalkKit
import Derived.ProofKit
import Derived.OpenShut
import Derived.Deep.DeepHandedRow
set_option maxHeartbeats 400000
set_option linter.unusedVariables false
set_option linter.unusedSimpArgs false
namespace Ld
open Go Go.Proofs Go.Abs Go.Lib
open Go.ChangeShapes Go.WideShapes Go.ChangeAt Go.RowKit
open Go.Proofs.YtigabemldjdlhaaDoor Law
set_option maxRecDepth 100000
theorem bulk (H : Type) : Bulk (H := H) Rows.uptoBulk Rows.uptoBulkAll where
  nilA := rfl
  consA := fun _ _ => rfl
  slice := fun _ _ => rfl
  agg := fun _ => rfl
  str := fun _ => rfl
  one := fun d => by cases d <;> first | (rename_i l; cases l <;> simp [Rows.uptoBulk]) | simp [Rows.uptoBulk]
theorem plain3 : plainT Tryd.prog 4 3 = true := by kernel_rfl
theorem plain22 : plainT Tryd.prog 4 22 = true := by kernel_rfl
theorem plain36 : plainT Tryd.prog 4 36 = true := by kernel_rfl
theorem wf64 {n : Int} (h : (Lit.int .i64 n).wf = true) : -9223372036854775808 ≤ n ∧ n ≤ 9223372036854775807 := by
  simp only [Lit.wf, Bool.and_eq_true, decide_eq_true_eq] at h
  have e1 : IntKind.i64.min = -9223372036854775808 := by decide
  have e2 : IntKind.i64.max = 9223372036854775807 := by decide
  rw [e1, e2] at h
  exact h
theorem ty_ints {ds : List D} (h : Ty Tryd.prog 23 ds) : ∃ l : List Int, ds = [.rd (l.map intD)] ∧ l.length + 1 ≤ szL ds := by
  obtain ⟨xs, rfl, hx⟩ := Ty.slice_inv Tryd.underlying23 h
  obtain ⟨l, rfl, hl⟩ := row_form (f := intD) (q := fun _ => True) (fun cs hc => by obtain ⟨n, h1, _⟩ := Ty.int_inv Tryd.underlying3 (hx cs hc); exact ⟨n, h1, trivial⟩)
  refine ⟨l, rfl, ?_⟩
  have := len_szLL (xs := l.map intD) (fun a ha => by obtain ⟨n, _, rfl⟩ := List.mem_map.1 ha; simp [intD])
  simp [szL, szD] at this ⊢
  omega
theorem ty_syms {ds : List D} (h : Ty Tryd.prog 22 ds) : ∃ l : List Symbol, ds = [.rd (l.map encSymbol)] ∧ ∀ s ∈ l, s.Name.size ≤ szL ds := by
  obtain ⟨xs, rfl, hx⟩ := Ty.slice_inv Tryd.underlying22 h
  have hc69 : Tryd.prog.cellsOf 69 = 2 := by kernel_rfl
  have hc9 : Tryd.prog.cellsOf 9 = 1 := by kernel_rfl
  have hc3 : Tryd.prog.cellsOf 3 = 1 := by kernel_rfl
  obtain ⟨l, rfl, hl⟩ := row_form (f := encSymbol) (q := fun _ => True) (xs := xs) (fun cs hc => by
    obtain ⟨h1, h2⟩ := Ty.struct_inv Tryd.underlying69 (hx cs hc)
    rw [hc69] at h1
    match cs, h1 with
    | [a, b], _ =>
      have ha := h2 _ (List.mem_cons_self ..)
      have hb := h2 _ (List.mem_cons_of_mem _ (List.mem_cons_self ..))
      simp only [hc9, hc3] at ha hb
      obtain ⟨s, hs⟩ := Ty.str_inv Tryd.underlying9 ha
      obtain ⟨n, hn, hw⟩ := Ty.int_inv Tryd.underlying3 hb
      simp at hs hn
      subst hs
      subst hn
      exact ⟨⟨s, n⟩, rfl, trivial⟩)
  refine ⟨l, rfl, fun s hs => ?_⟩
  have := szL_mem (xs := l.map encSymbol) (List.mem_map.2 ⟨s, hs, rfl⟩)
  simp [szL, szD, encSymbol] at this ⊢
  omega
theorem ty_rule {ds : List D} (h : Ty Tryd.prog 34 ds) : ∃ r : Rule, ds = encRule r ∧ r.L.length + r.R.length ≤ szL ds := by
  have hc34 : Tryd.prog.cellsOf 34 = 2 := by kernel_rfl
  have hc23 : Tryd.prog.cellsOf 23 = 1 := by kernel_rfl
  obtain ⟨h1, h2⟩ := Ty.struct_inv Tryd.underlying34 h
  rw [hc34] at h1
  match ds, h1 with
  | [a, b], _ =>
    have ha := h2 _ (List.mem_cons_self ..)
    have hb := h2 _ (List.mem_cons_of_mem _ (List.mem_cons_self ..))
    simp only [hc23] at ha hb
    obtain ⟨l, hl, sl⟩ := ty_ints ha
    obtain ⟨r, hr, sr⟩ := ty_ints hb
    simp at hl hr
    subst hl
    subst hr
    refine ⟨⟨l, r⟩, rfl, ?_⟩
    simp [szL] at sl sr ⊢
    omega
theorem szL_split (n : Nat) (ds : List D) : szL (ds.take n) + szL (ds.drop n) = szL ds := by
  rw [← szL_append, List.take_append_drop]
theorem ty_three {ds : List D} (h : Ty Tryd.prog 36 ds) : ∃ a : Rule × Rule × Rule, ds = ar3D encRule a ∧ a.1.L.length + a.1.R.length + (a.2.1.L.length + a.2.1.R.length) + (a.2.2.L.length + a.2.2.R.length) ≤ szL ds := by
  have hc34 : Tryd.prog.cellsOf 34 = 2 := by kernel_rfl
  have hc36 : Tryd.prog.cellsOf 36 = 6 := by kernel_rfl
  obtain ⟨h1, h2⟩ := Ty.array_inv Tryd.underlying36 h
  rw [hc36] at h1
  match ds, h1 with
  | [a, b, c, d, e, f], _ =>
    have q0 := h2 0 (by omega)
    have q1 := h2 1 (by omega)
    have q2 := h2 2 (by omega)
    simp only [hc34] at q0 q1 q2
    obtain ⟨r0, e0, s0⟩ := ty_rule q0
    obtain ⟨r1, e1, s1⟩ := ty_rule q1
    obtain ⟨r2, e2, s2⟩ := ty_rule q2
    simp [encRule] at e0 e1 e2
    obtain ⟨rfl, rfl⟩ := e0
    obtain ⟨rfl, rfl⟩ := e1
    obtain ⟨rfl, rfl⟩ := e2
    refine ⟨(r0, r1, r2), rfl, ?_⟩
    simp [szL] at s0 s1 s2 ⊢
    omega
theorem rs_v {h : AHeap} {n : Nat} {p : PV} {x : Value} (hp : rs h (n + 1) p = some (.v x)) : p = .d (.v x) := by
  cases p with
  | d y => simp only [rs, Option.some.injEq] at hp; rw [hp]
  | ref id ver off len =>
    simp only [rs] at hp
    split at hp
    · simp only [Option.map_eq_some_iff] at hp; obtain ⟨a, _, h1⟩ := hp; cases h1
    · cases hp
  | ptr id ver idx off =>
    simp only [rs] at hp
    split at hp
    · simp only [Option.map_eq_some_iff, Option.bind_eq_some_iff] at hp; obtain ⟨a, _, b, _, h1⟩ := hp; cases h1
    · cases hp
  | im t es => simp only [rs, Option.map_eq_some_iff] at hp; obtain ⟨a, _, h1⟩ := hp; cases h1
  | bx cs => simp only [rs, Option.map_eq_some_iff] at hp; obtain ⟨a, _, h1⟩ := hp; cases h1
  | ag cs => simp only [rs, Option.map_eq_some_iff] at hp; obtain ⟨a, _, h1⟩ := hp; cases h1
  | ifc t y => simp only [rs, Option.map_eq_some_iff] at hp; obtain ⟨a, _, h1⟩ := hp; cases h1
  | fn f cs => simp only [rs, Option.map_eq_some_iff] at hp; obtain ⟨a, _, h1⟩ := hp; cases h1
  | _ => simp [rs] at hp
theorem rsT_v {h : AHeap} {p : PV} {x : Value} (hp : rsT h p = some (.d (.v x))) : p = .d (.v x) := by
  have key : (rs h depth p).map PV.d = some (.d (.v x)) → p = .d (.v x) := by
    intro hp
    obtain ⟨a, h1, h2⟩ := Option.map_eq_some_iff.1 hp
    cases h2
    exact rs_v (n := 39) h1
  cases p with
  | tp vs => exfalso; unfold rsT at hp; obtain ⟨a, _, h2⟩ := Option.map_eq_some_iff.1 hp; cases h2
  | _ => exact key hp
theorem kinds_law {sig : List Symbol} {a : Rule × Rule × Rule} {n : Int} (hS : SigOK sig) (hn : (Lit.int .i64 n).wf = true) (hs : a.1.L.length + a.1.R.length + (a.2.1.L.length + a.2.1.R.length) + (a.2.2.L.length + a.2.2.R.length) ≤ 1048576) :
    ∃ h', Lim C 5 [.d (.rd (sig.map encSymbol)), .d (.ag (ar3D encRule a)), .d (.v (.int .i64 n))] [] = some (.d (.v (.bool true)), h') := by
  obtain ⟨p, hp, h1, h2⟩ := l05_MatchKinds_R (kinds (sig := sig) (a1 := a) (n := n) shown hS (wf64 hn) (by unfold Small; omega) (by unfold Small; omega) (by unfold Small; omega) (by unfold Small; omega) (by unfold Small; omega) (by unfold Small; omega))
  rw [rsT_v h2] at h1
  exact ⟨hp, h1⟩
end Ld

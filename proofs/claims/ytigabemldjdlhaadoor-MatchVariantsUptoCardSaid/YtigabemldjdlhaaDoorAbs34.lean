import Derived.Test.YtigabemldjdlhaaDoorAbs33
import Derived.Test.YtigabemldjdlhaaDoorAbs27
set_option maxHeartbeats 400000
set_option linter.unusedVariables false
set_option linter.unusedSimpArgs false
/- What data of a type are, and answers that are one value. -/
namespace Go.Abs
open Go
/-- a number of a kind -/
def okI (k : IntKind) (n : Int) : Prop := (Lit.int k n).wf = true
def okL {α : Type} (ok : α → Prop) (l : List α) : Prop := ∀ a ∈ l, ok a
theorem okI64 {n : Int} (h : okI .i64 n) : -9223372036854775808 ≤ n ∧ n ≤ 9223372036854775807 := by
  simp only [okI, Lit.wf, Bool.and_eq_true, decide_eq_true_eq] at h
  have e1 : IntKind.i64.min = -9223372036854775808 := by decide
  have e2 : IntKind.i64.max = 9223372036854775807 := by decide
  rw [e1, e2] at h
  exact h
theorem okU32 {n : Int} (h : okI .u32 n) : 0 ≤ n ∧ n ≤ 4294967295 := by
  simp only [okI, Lit.wf, Bool.and_eq_true, decide_eq_true_eq] at h
  have e1 : IntKind.u32.min = 0 := by decide
  have e2 : IntKind.u32.max = 4294967295 := by decide
  rw [e1, e2] at h
  exact h
theorem Ty.bool_inv {P : Program} {t : TypeId} {ds : List D} (hu : P.underlying t = some .bool) (h : Ty P t ds) : ∃ s, ds = [.v (.bool s)] := by
  cases h with
  | @bool _ b hu' => exact ⟨b, rfl⟩
  | int hu' => rw [hu] at hu'; cases hu'
  | str hu' => rw [hu] at hu'; cases hu'
  | slice hu' => rw [hu] at hu'; cases hu'
  | struct hu' => rw [hu] at hu'; cases hu'
  | array hu' => rw [hu] at hu'; cases hu'
theorem rsV {h : AHeap} {n : Nat} {p : PV} {x : Value} (hp : rs h (n + 1) p = some (.v x)) : p = .d (.v x) := by
  cases p with
  | d y => simp only [rs, Option.some.injEq] at hp; rw [hp]
  | ref id ver off len =>
    simp only [rs] at hp
    split at hp
    · simp only [Option.map_eq_some_iff] at hp; obtain ⟨a, _, h1⟩ := hp; cases h1
    · cases hp
  | ptr id ver idx off =>
    simp only [rs] at hp
    split at hp
    · simp only [Option.map_eq_some_iff, Option.bind_eq_some_iff] at hp; obtain ⟨a, _, b, _, h1⟩ := hp; cases h1
    · cases hp
  | im t es => simp only [rs, Option.map_eq_some_iff] at hp; obtain ⟨a, _, h1⟩ := hp; cases h1
  | bx cs => simp only [rs, Option.map_eq_some_iff] at hp; obtain ⟨a, _, h1⟩ := hp; cases h1
  | ag cs => simp only [rs, Option.map_eq_some_iff] at hp; obtain ⟨a, _, h1⟩ := hp; cases h1
  | ifc t y => simp only [rs, Option.map_eq_some_iff] at hp; obtain ⟨a, _, h1⟩ := hp; cases h1
  | fn f cs => simp only [rs, Option.map_eq_some_iff] at hp; obtain ⟨a, _, h1⟩ := hp; cases h1
  | _ => simp [rs] at hp
theorem rsTV {h : AHeap} {p : PV} {x : Value} (hp : rsT h p = some (.d (.v x))) : p = .d (.v x) := by
  have key : (rs h depth p).map PV.d = some (.d (.v x)) → p = .d (.v x) := by
    intro hp
    obtain ⟨a, h1, h2⟩ := Option.map_eq_some_iff.1 hp
    cases h2
    exact rsV (n := 39) h1
  cases p with
  | tp vs => exfalso; unfold rsT at hp; obtain ⟨a, _, h2⟩ := Option.map_eq_some_iff.1 hp; cases h2
  | _ => exact key hp
theorem szL_map {α : Type} {f : α → List D} {l : List α} {a : α} (h : a ∈ l) : szL (f a) ≤ szLL (l.map f) := szL_mem (List.mem_map.2 ⟨a, h, rfl⟩)
end Go.Abs

import Derived.Test.YtigabemldjdlhaaDoorV1
set_option maxHeartbeats 400000
set_option linter.unusedVariables false
set_option linter.unusedSimpArgs false
namespace Ld.Law
open Go Go.Abs Go.Lib
/-! ### sizes -/
theorem szL_ints (l : List Int) : l.length ≤ szLL (l.map intD) := by
  have := len_szLL (xs := l.map intD) (fun a ha => by obtain ⟨n, _, rfl⟩ := List.mem_map.1 ha; simp [intD])
  simpa using this
theorem small_rule {r : Rule} {n : Nat} (h : szL (encRule r) + n ≤ 1048576) : Small r.L ∧ Small r.R := by
  have h1 := szL_ints r.L
  have h2 := szL_ints r.R
  simp only [encRule, szL, szD] at h
  unfold Small
  omega
theorem small_sig {l : List Symbol} {n : Nat} (h : szL ((lsD encSymbol) l) + n ≤ 1048576) : SigOK l := by
  intro s hs
  have h1 := szL_map (f := encSymbol) hs
  simp only [lsD, encSymbol, szL, szD] at h h1
  omega
theorem variants_law {a0 : List Symbol} {a1 a2 : Rule} (_ : okL okSymbol a0) (_ : okRule a1) (_ : okRule a2) (hs : szL ((lsD encSymbol) a0) + szL (encRule a1) + szL (encRule a2) ≤ 1048576) : l05_MatchVariants a0 a1 a2 = some true := by
  have h1 := small_rule (r := a1) (n := 0) (by omega)
  have h2 := small_rule (r := a2) (n := 0) (by omega)
  exact variants shown (small_sig (n := 0) (by omega)) h1.1 h1.2 h2.1 h2.2
end Ld.Law

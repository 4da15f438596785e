import Derived.Test.YtigabemldjdlhaaDoorMbq4
set_option maxHeartbeats 400000
set_option linter.unusedVariables false
set_option linter.unusedSimpArgs false
namespace Ld.Law
open Go Go.Abs Go.Lib
set_option maxRecDepth 8000
theorem wh_of {σ ρ : Type} {step : σ → Option (σ ⊕ ρ)} : ∀ (n : Nat) {s : σ} {r : ρ}, itW step n s = some r → wh step s = some r := by
  intro n
  induction n with
  | zero => intro s r h; cases h
  | succ n ih =>
    intro s r h
    simp only [itW] at h
    rw [wh_eq]
    cases hs : step s with
    | none => rw [hs] at h; cases h
    | some x =>
      rw [hs] at h
      cases x with
      | inl s' => exact ih h
      | inr q => exact h
def three : List Symbol := [⟨{ data := #[122, 101, 114, 111] }, 0⟩, ⟨{ data := #[115] }, 1⟩, ⟨{ data := #[112, 108, 117, 115] }, 2⟩]
theorem three_eq : l05_three = some three := rfl
theorem three_ok : SigOK three := by
  intro s hs
  simp only [three, List.mem_cons, List.not_mem_nil, or_false] at hs
  rcases hs with rfl | rfl | rfl <;> decide
theorem named_of {s : ByteArray} (h0 : ¬ s = { data := #[] }) (h1 : ¬ 32 < (s.size : Int)) (h2 : validD s.data.toList = true) (h3 : itW (term_named_l0 s s) 33 0 = some (.inr s.size)) : term_named s = some true := by
  simp only [term_named]
  rw [if_neg h0, if_neg h1, unicode_utf8_ValidString, if_pos (by omega), h2]
  simp only [Option.bind_some, if_true]
  rw [wh_of 33 h3]; rfl
theorem three_sig : term_CheckSig three = some 0 := by
  have n0 : term_named { data := #[122, 101, 114, 111] } = some true := named_of (by decide) (by decide) (by decide +kernel) (by decide +kernel)
  have n1 : term_named { data := #[115] } = some true := named_of (by decide) (by decide) (by decide +kernel) (by decide +kernel)
  have n2 : term_named { data := #[112, 108, 117, 115] } = some true := named_of (by decide) (by decide) (by decide +kernel) (by decide +kernel)
  have s0 : term_CheckSig_l0 three three (three.length : Int) 0 = some (.inl 1) := by
    simp only [term_CheckSig_l0]
    rw [if_pos (by decide), show idx three 0 = some ⟨{ data := #[122, 101, 114, 111] }, 0⟩ from rfl]
    simp only [Option.bind_some, n0, if_true]
    rw [if_neg (by decide), if_neg (by decide), show cutL three 0 0 = some [] from rfl]
    simp only [Option.bind_some]
    rw [contains_eq (by decide)]
    rfl
  have s1 : term_CheckSig_l0 three three (three.length : Int) 1 = some (.inl 2) := by
    simp only [term_CheckSig_l0]
    rw [if_pos (by decide), show idx three 1 = some ⟨{ data := #[115] }, 1⟩ from rfl]
    simp only [Option.bind_some, n1, if_true]
    rw [if_neg (by decide), if_neg (by decide), show cutL three 0 1 = some (three.take 1) from rfl]
    simp only [Option.bind_some]
    rw [contains_eq (by decide), show ((three.take 1).findIdx? fun a => decide (a.Name = (⟨{ data := #[115] }, 1⟩ : Symbol).Name)).isSome = false by decide +kernel]
    rfl
  have s2 : term_CheckSig_l0 three three (three.length : Int) 2 = some (.inl 3) := by
    simp only [term_CheckSig_l0]
    rw [if_pos (by decide), show idx three 2 = some ⟨{ data := #[112, 108, 117, 115] }, 2⟩ from rfl]
    simp only [Option.bind_some, n2, if_true]
    rw [if_neg (by decide), if_neg (by decide), show cutL three 0 2 = some (three.take 2) from rfl]
    simp only [Option.bind_some]
    rw [contains_eq (by decide), show ((three.take 2).findIdx? fun a => decide (a.Name = (⟨{ data := #[112, 108, 117, 115] }, 2⟩ : Symbol).Name)).isSome = false by decide +kernel]
    rfl
  have s3 : term_CheckSig_l0 three three (three.length : Int) 3 = some (.inr (.inr 3)) := by
    simp only [term_CheckSig_l0]
    rw [if_neg (by decide)]
  simp only [term_CheckSig]
  rw [if_neg (by decide), wh_next s0, wh_next s1, wh_next s2, wh_done s3]
  rfl
theorem three_chk (t : List Int) (hL : t.length < 17179869184) : chk three t = termRight three t := by
  unfold chk
  simp only [term_Check, three_sig, Option.bind_some, if_true]
  rw [if_pos (by omega)]; rfl
theorem same_eq2 {a b : List Bind} (h : wh (l05_same_l0 a b) 0 = some (.inr (a.length : Int))) (hl : a.length = b.length) : l05_same a b = some true := by
  simp only [l05_same]
  rw [if_pos (by omega), h]; rfl
theorem shown : l05_shown = some true := by
  have sm : ∀ t : List Int, t.length ≤ 4 → Small t := fun t h => by unfold Small; omega
  have m1 : match_Match three [2, -1, -2] [2, 1, 0, 0] = some ([⟨0, [1, 0]⟩, ⟨1, [0]⟩], true) := by
    rw [Match_eq three_ok (sm _ (by decide)) (sm _ (by decide)), matR, three_chk _ (by decide), three_chk _ (by decide), if_pos (by decide +kernel)]
    rw [show mat three [2, -1, -2] [2, 1, 0, 0] [] = some [⟨0, [1, 0]⟩, ⟨1, [0]⟩] by decide +kernel]
    exact congrArg some (by decide +kernel)
  have m2 : match_Match three [2, -1, -1] [2, 0, 1, 0] = some ([], false) := by
    rw [Match_eq three_ok (sm _ (by decide)) (sm _ (by decide)), matR, three_chk _ (by decide), three_chk _ (by decide), if_pos (by decide +kernel)]
    rw [show mat three [2, -1, -1] [2, 0, 1, 0] [] = none by decide +kernel]
  have v1 : match_Variant three ⟨[2, -1, -2], [-1]⟩ ⟨[2, -7, -3], [-7]⟩ = some true := by
    rw [Variant_eq three_ok (sm _ (by decide)) (sm _ (by decide)) (sm _ (by decide)) (sm _ (by decide))]
    rw [three_chk _ (by decide), three_chk _ (by decide), three_chk _ (by decide), three_chk _ (by decide)]
    exact congrArg some (decide_eq_true (by decide +kernel))
  have v2 : match_Variant three ⟨[2, -1, -2], [-1]⟩ ⟨[2, -7, -3], [-3]⟩ = some false := by
    rw [Variant_eq three_ok (sm _ (by decide)) (sm _ (by decide)) (sm _ (by decide)) (sm _ (by decide))]
    rw [three_chk _ (by decide), three_chk _ (by decide), three_chk _ (by decide), three_chk _ (by decide)]
    exact congrArg some (decide_eq_false (by decide +kernel))
  have s1 : l05_same [⟨0, [1, 0]⟩, ⟨1, [0]⟩] [⟨0, [1, 0]⟩, ⟨1, [0]⟩] = some true := by
    refine same_eq2 ?_ rfl
    have a0 : l05_same_l0 [⟨0, [1, 0]⟩, ⟨1, [0]⟩] [⟨0, [1, 0]⟩, ⟨1, [0]⟩] 0 = some (.inl 1) := by
      simp only [l05_same_l0]
      rw [if_pos (by decide), show idx ([⟨0, [1, 0]⟩, ⟨1, [0]⟩] : List Bind) 0 = some ⟨0, [1, 0]⟩ from rfl]
      simp only [Option.bind_some]
      rw [sameRow_eq (by decide)]
      rfl
    have a1 : l05_same_l0 [⟨0, [1, 0]⟩, ⟨1, [0]⟩] [⟨0, [1, 0]⟩, ⟨1, [0]⟩] 1 = some (.inl 2) := by
      simp only [l05_same_l0]
      rw [if_pos (by decide), show idx ([⟨0, [1, 0]⟩, ⟨1, [0]⟩] : List Bind) 1 = some ⟨1, [0]⟩ from rfl]
      simp only [Option.bind_some]
      rw [sameRow_eq (by decide)]
      rfl
    rw [wh_next a0, wh_next a1, wh_done (r := .inr 2) (by simp only [l05_same_l0]; rw [if_neg (by decide)])]
    rfl
  simp only [l05_shown, three_eq, Option.bind_some, m1, m2, v1, v2, s1, if_true]
  rfl
end Ld.Law

import Derived.Test.YtigabemldjdlhaaDoorMiq1
import Derived.Lib.TrimUEq
set_option maxHeartbeats 400000
set_option linter.unusedVariables false
set_option linter.unusedSimpArgs false
namespace Ld.Law
open Go Go.Abs Go.Lib
/-! ### names -/
theorem u8_eq (n : Nat) : n.toUInt8 = UInt8.ofNat n := rfl
theorem enc_eq (r : Int) : (Utf8.encode r).data.toList = encodeRune r := by
  have hv : Utf8.valid r = decide ((0 ≤ r ∧ r < 55296) ∨ (57344 ≤ r ∧ r ≤ 1114111)) := by
    unfold Utf8.valid
    simp only [Bool.decide_or, Bool.decide_and]
  unfold Utf8.encode encodeRune
  rw [hv]
  by_cases h : (0 ≤ r ∧ r < 55296) ∨ (57344 ≤ r ∧ r ≤ 1114111)
  · obtain ⟨c, rfl⟩ : ∃ c : Nat, r = (c : Int) := ⟨r.toNat, by omega⟩
    simp only [decide_eq_true h, if_true, Int.toNat_natCast]
    by_cases h1 : c < 128
    · rw [if_pos h1, encodeRuneZ_one (by omega) (by omega)]
      simp [u8_eq]
    rw [if_neg h1]
    by_cases h2 : c < 2048
    · rw [if_pos h2, encodeRuneZ_two (by omega) (by omega)]
      have e1 : ((192 : Int) + c / 64).toNat = 192 + c / 64 := by omega
      have e2 : ((128 : Int) + c % 64).toNat = 128 + c % 64 := by omega
      simp [u8_eq, e1, e2]
    rw [if_neg h2]
    by_cases h3 : c < 65536
    · rw [if_pos h3, encodeRuneZ_three (by omega)]
      have e1 : ((224 : Int) + c / 4096).toNat = 224 + c / 4096 := by omega
      have e2 : ((128 : Int) + c / 64 % 64).toNat = 128 + c / 64 % 64 := by omega
      have e3 : ((128 : Int) + c % 64).toNat = 128 + c % 64 := by omega
      simp [u8_eq, e1, e2, e3]
    rw [if_neg h3, encodeRuneZ_four (by omega) (by omega)]
    have e0 : ((240 : Int) + c / 262144).toNat = 240 + c / 262144 := by omega
    have e1 : ((128 : Int) + c / 4096 % 64).toNat = 128 + c / 4096 % 64 := by omega
    have e2 : ((128 : Int) + c / 64 % 64).toNat = 128 + c / 64 % 64 := by omega
    have e3 : ((128 : Int) + c % 64).toNat = 128 + c % 64 := by omega
    simp [u8_eq, e0, e1, e2, e3]
  · rw [encodeRuneZ_bad (by omega)]
    simp only [decide_eq_false h, Bool.false_eq_true, if_false]
    decide +kernel
theorem ba_ext {a b : ByteArray} (h : a.data.toList = b.data.toList) : a = b := by
  cases a with | mk x => cases b with | mk y => cases x; cases y; simp at h; rw [h]
theorem ba_len (a : ByteArray) : a.data.toList.length = a.size := rfl
theorem ba_app (a b : ByteArray) : (a ++ b).data.toList = a.data.toList ++ b.data.toList := by simp
theorem good_loop {s : ByteArray} (hS : s.size < 1152921504606846976) : ∀ (n : Nat) (acc : ByteArray) (q : Nat), s.size - q ≤ n → q ≤ s.size → acc.size ≤ 3 * q →
    ((acc.data.toList = s.data.toList.take q ∧ validD s.data.toList = validD (s.data.toList.drop q)) ∨ (validD s.data.toList = false ∧ q < acc.size)) →
    ∃ acc' q', wh (r03_good_l0 s s) (acc, q) = some (acc', q') ∧ (acc' = s ↔ validD s.data.toList = true) := by
  have done : ∀ (acc : ByteArray) (q : Nat), s.size ≤ q → q ≤ s.size →
    ((acc.data.toList = s.data.toList.take q ∧ validD s.data.toList = validD (s.data.toList.drop q)) ∨ (validD s.data.toList = false ∧ q < acc.size)) →
    ∃ acc' q', wh (r03_good_l0 s s) (acc, q) = some (acc', q') ∧ (acc' = s ↔ validD s.data.toList = true) := by
    intro acc q h h' hI
    refine ⟨acc, q, wh_done (by simp only [r03_good_l0]; rw [if_neg (by omega)]), ?_⟩
    have hq : q = s.size := by omega
    subst hq
    rcases hI with ⟨h1, h2⟩ | ⟨h1, h2⟩
    · rw [← ba_len, List.take_length] at h1
      rw [← ba_len, List.drop_length, validD_nil] at h2
      exact ⟨fun _ => h2, fun _ => ba_ext h1⟩
    · rw [h1]
      refine ⟨fun e => ?_, fun e => by cases e⟩
      rw [e] at h2; omega
  intro n
  induction n with
  | zero => intro acc q h h' ha hI; exact done acc q (by omega) h' hI
  | succ n ih =>
    intro acc q h h' ha hI
    by_cases hlt : q < s.size
    case neg => exact done acc q (by omega) h' hI
    have hne : s.data.toList.drop q ≠ [] := by rw [ne_eq, List.drop_eq_nil_iff, ba_len]; omega
    have hdec := decodeL_drop s q
    have hw := decodeL_width (s.data.toList.drop q)
    have hle := decodeL_le (s.data.toList.drop q) hne
    rw [List.length_drop, ba_len] at hle
    have hel : (encodeRune ((Utf8.decode s q).1 : Int)).length = (Utf8.encode ((Utf8.decode s q).1 : Int)).size := by rw [← enc_eq, ba_len]
    have hstep := validD_step _ hne
    rw [hdec] at hw hle hstep
    have hsz : (Utf8.encode ((Utf8.decode s q).1 : Int)).size ≤ 3 * (Utf8.decode s q).2 ∧ (¬ ((Utf8.decode s q).1 = 65533 ∧ (Utf8.decode s q).2 = 1) → (Utf8.encode ((Utf8.decode s q).1 : Int)).data.toList = (s.data.toList.drop q).take (Utf8.decode s q).2) ∧ (Utf8.decode s q).2 ≤ (Utf8.encode ((Utf8.decode s q).1 : Int)).size ∧ (((Utf8.decode s q).1 = 65533 ∧ (Utf8.decode s q).2 = 1) → (Utf8.encode ((Utf8.decode s q).1 : Int)).size = 3) := by
      by_cases hv : (Utf8.decode s q).1 = 65533 ∧ (Utf8.decode s q).2 = 1
      · have : (Utf8.encode ((Utf8.decode s q).1 : Int)).size = 3 := by rw [hv.1]; rfl
        exact ⟨by omega, fun h => absurd hv h, by omega, fun _ => this⟩
      · have he := encode_decode _ hne (by rw [hdec]; exact hv)
        rw [hdec] at he
        have : (Utf8.encode ((Utf8.decode s q).1 : Int)).size = (Utf8.decode s q).2 := by
          rw [← hel, he, List.length_take, List.length_drop, ba_len]; omega
        exact ⟨by omega, fun _ => by rw [enc_eq, he], by omega, fun h => absurd h hv⟩
    obtain ⟨hs1, hs2, hs3, hs4⟩ := hsz
    have hround : r03_good_l0 s s (acc, q) = some (.inl (acc ++ Utf8.encode ((Utf8.decode s q).1 : Int), q + (Utf8.decode s q).2)) := by
      simp only [r03_good_l0]
      rw [if_pos hlt, if_pos (by omega)]
    rw [wh_next hround]
    have hsa : (acc ++ Utf8.encode ((Utf8.decode s q).1 : Int)).size = acc.size + (Utf8.encode ((Utf8.decode s q).1 : Int)).size := by rw [← ba_len, ba_app, List.length_append, ba_len, ba_len]
    refine ih _ _ (by omega) (by omega) (by rw [hsa]; omega) ?_
    rw [hsa]
    rcases hI with ⟨h1, h2⟩ | ⟨h1, h2⟩
    · by_cases hv : (Utf8.decode s q).1 = 65533 ∧ (Utf8.decode s q).2 = 1
      · right
        rw [if_pos hv] at hstep
        refine ⟨h2.trans hstep, ?_⟩
        have := congrArg List.length h1
        rw [List.length_take, ba_len, ba_len] at this
        have := hs4 hv
        omega
      · left
        rw [if_neg hv, List.drop_drop] at hstep
        refine ⟨?_, h2.trans hstep⟩
        rw [ba_app, h1, hs2 hv, ← List.take_add]
    · right; exact ⟨h1, by omega⟩
theorem good_eq {s : ByteArray} (hS : s.size < 1152921504606846976) : r03_good s = some (validD s.data.toList) := by
  obtain ⟨a, q, h1, h2⟩ := good_loop hS s.size { data := #[] } 0 (by omega) (by omega) (by simp [ByteArray.size]) (.inl ⟨rfl, rfl⟩)
  simp only [r03_good, h1, Option.bind_some]
  congr 1
  by_cases h : validD s.data.toList = true
  · rw [h, decide_eq_true (h2.2 h)]
  · rw [decide_eq_false (fun e => h (h2.1 e))]
    exact (Bool.eq_false_iff.2 h).symm
theorem letter_eq (c : Int) : r03_letter c = term_letter c := rfl
theorem letter_tot (c : Int) : ∃ b, term_letter c = some b := by
  unfold term_letter
  split <;> split <;> (try split) <;> (try split) <;> exact ⟨_, rfl⟩
theorem name_step (s t : ByteArray) : term_named_l0 s t = r03_Name_l0 s t := by
  funext q
  obtain ⟨b, hb⟩ := letter_tot ((Utf8.decode t q).1 : Int)
  simp only [term_named_l0, r03_Name_l0, r03_more, letter_eq, hb, Option.bind_some]
  by_cases h0 : q < t.size
  rotate_left
  · rw [if_neg h0, if_neg h0]
  rw [if_pos h0, if_pos h0]
  cases b with
  | true => by_cases hq : (q : Int) = 0 <;> simp [hq]
  | false =>
    by_cases hq : (q : Int) = 0
    · rw [if_pos hq, if_neg (show ¬ 0 < (q : Int) by omega)]
      simp
    · rw [if_neg hq, if_pos (show 0 < (q : Int) by omega)]
      simp only [Bool.false_eq_true, if_false]
      generalize ((Utf8.decode t q).1 : Int) = c
      by_cases h1 : 48 ≤ c <;> by_cases h2 : c ≤ 57 <;> by_cases h3 : c = 95 <;> by_cases h4 : c = 39 <;> simp [h1, h2, h3, h4]
theorem name_eq (s : ByteArray) : r03_Name s = term_named s := by
  simp only [r03_Name, term_named]
  by_cases h0 : s = { data := #[] }
  · rw [if_pos h0, if_pos h0]
  rw [if_neg h0, if_neg h0]
  by_cases h1 : 32 < (s.size : Int)
  · rw [if_pos h1, if_pos h1]
  rw [if_neg h1, if_neg h1, good_eq (by omega), unicode_utf8_ValidString, if_pos (by omega), name_step]
/-! ### signatures -/
theorem firstG_find {α ρ : Type} (p : α → Bool) (f : Nat → ρ) (g : Nat → α → Option ρ) (hg : ∀ i a, g i a = if p a = true then some (f i) else none) : ∀ (l : List α) (k : Nat), firstG g k l = (l.findIdx? p).map fun j => f (k + j) := by
  intro l
  induction l with
  | nil => intro k; rfl
  | cons a r ih =>
    intro k
    simp only [firstG, hg, List.findIdx?_cons]
    by_cases h : p a = true
    · simp [h]
    · simp only [h, if_false, Bool.false_eq_true]
      rw [ih]
      cases r.findIdx? p <;> simp [Nat.add_assoc, Nat.add_comm 1]
theorem contains_eq {l : List Symbol} {x : Symbol} (hL : l.length < 4611686018427387904) : slices_ContainsFunc_s_api_Symbol_api_Symbol_on_term_CheckSig_c1 l x = some ((l.findIdx? fun a => decide (a.Name = x.Name)).isSome) := by
  have h1 : wh (slices_IndexFunc_s_api_Symbol_api_Symbol_on_term_CheckSig_c1_l0 l x (l.length : Int)) 0 = _ := wh_for0 (l := l) (g := fun i a => if decide (a.Name = x.Name) = true then some (Sum.inl (i : Int) : Int ⊕ Int) else none) (fin := .inr (l.length : Int)) (fun i a ha => ?_) ?_
  · simp only [slices_ContainsFunc_s_api_Symbol_api_Symbol_on_term_CheckSig_c1, slices_IndexFunc_s_api_Symbol_api_Symbol_on_term_CheckSig_c1, h1]
    rw [firstG_find (fun a : Symbol => decide (a.Name = x.Name)) (fun i => (Sum.inl (i : Int) : Int ⊕ Int)) _ (fun i a => rfl)]
    cases l.findIdx? fun a => decide (a.Name = x.Name) <;> simp
  · have hlt := (List.getElem?_eq_some_iff.1 ha).1
    simp only [slices_IndexFunc_s_api_Symbol_api_Symbol_on_term_CheckSig_c1_l0, term_CheckSig_c1]
    rw [if_pos (by omega), idx_nat ha]
    simp only [Option.bind_some]
    by_cases h : a.Name = x.Name
    · simp [h]
    · simp [h, w64_small (n := (i : Int) + 1) (by omega) (by omega)]
  · simp only [slices_IndexFunc_s_api_Symbol_api_Symbol_on_term_CheckSig_c1_l0]
    rw [if_neg (by omega)]
theorem dup_eq {l : List Symbol} {x : Symbol} {i : Nat} (hx : l[i]? = some x) (hL : l.length < 4611686018427387904) : ∃ y, wh (r03_CheckSig_l1 l (i : Int)) 0 = some (if ((l.take i).findIdx? fun a => decide (a.Name = x.Name)).isSome = true then .inl 36 else .inr y) := by
  have hi := (List.getElem?_eq_some_iff.1 hx).1
  have hlen : (l.take i).length = i := by rw [List.length_take]; omega
  have h1 : wh (r03_CheckSig_l1 l (i : Int)) 0 = _ := wh_for0 (l := l.take i) (g := fun _ a => if decide (a.Name = x.Name) = true then some (Sum.inl 36 : Int ⊕ Unit) else none) (fin := .inr ()) (fun j a ha => ?_) ?_
  · refine ⟨(), ?_⟩
    rw [h1, firstG_find (fun a : Symbol => decide (a.Name = x.Name)) (fun _ => (Sum.inl 36 : Int ⊕ Unit)) _ (fun i a => rfl)]
    cases (l.take i).findIdx? fun a => decide (a.Name = x.Name) <;> simp
  · have hlt := (List.getElem?_eq_some_iff.1 ha).1
    rw [hlen] at hlt
    have ha' : l[j]? = some a := by rw [List.getElem?_take, if_pos hlt] at ha; exact ha
    simp only [r03_CheckSig_l1]
    rw [if_pos (by omega), idx_nat ha', idx_nat hx]
    simp only [Option.bind_some]
    by_cases h : a.Name = x.Name
    · simp [h]
    · simp [h, w64_small (n := (j : Int) + 1) (by omega) (by omega)]
  · rw [hlen]
    simp only [r03_CheckSig_l1]
    rw [if_neg (by omega)]
theorem sig_step {l : List Symbol} (hL : l.length < 4611686018427387904) : term_CheckSig_l0 l l (l.length : Int) = r03_CheckSig_l0 l := by
  funext i
  simp only [term_CheckSig_l0, r03_CheckSig_l0]
  by_cases hi : i < (l.length : Int)
  rotate_left
  · rw [if_neg hi, if_neg hi]
  rw [if_pos hi, if_pos hi]
  by_cases h0 : 0 ≤ i
  rotate_left
  · unfold idx; rw [if_neg h0]; rfl
  obtain ⟨k, rfl⟩ : ∃ k : Nat, i = (k : Int) := ⟨i.toNat, by omega⟩
  have hk : k < l.length := by omega
  have hx : l[k]? = some l[k] := List.getElem?_eq_getElem hk
  rw [idx_nat hx]
  obtain ⟨y, hd⟩ := dup_eq hx hL
  have hcut : cutL l 0 (k : Int) = some (l.take k) := by
    unfold cutL
    rw [if_pos (by omega)]
    simp
  have hc := contains_eq (l := l.take k) (x := l[k]) (by rw [List.length_take]; omega)
  simp only [Option.bind_some, name_eq, hcut, hc, hd, r03_Marked]
  cases term_named l[k].Name with
  | none => rfl
  | some b =>
    simp only [Option.bind_some]
    cases b with
    | true =>
      simp only [if_true]
      by_cases a1 : l[k].Arity < 0
      · simp [a1]
      by_cases a2 : 8 < l[k].Arity
      · simp [a1, a2]
      simp only [a1, a2, if_false]
      by_cases hf : ((l.take k).findIdx? fun a => decide (a.Name = l[k].Name)).isSome = true
      · rw [if_pos hf, if_pos hf]
      · rw [if_neg hf, if_neg hf]
    | false =>
      simp only [Bool.false_eq_true, if_false]
      by_cases hz : (l[k].Name.size : Int) = 0
      · rw [if_pos hz, if_neg (show ¬ 0 < (l[k].Name.size : Int) by omega)]
        simp
      rw [if_neg hz, if_pos (show 0 < (l[k].Name.size : Int) by omega)]
      cases sidx l[k].Name (w64 ((l[k].Name.size : Int) - 1)) with
      | none => rfl
      | some c =>
        simp only [Option.bind_some]
        by_cases hc : c = 35
        rotate_left
        · rw [if_neg hc, if_neg hc]; simp
        rw [if_pos hc, if_pos hc]
        cases cutBA l[k].Name 0 (w64 ((l[k].Name.size : Int) - 1)) with
        | none => rfl
        | some n =>
          simp only [Option.bind_some]
          cases term_named n with
          | none => rfl
          | some b =>
            simp only [Option.bind_some]
            cases b with
            | false => simp
            | true =>
              simp only [if_true]
              by_cases a1 : l[k].Arity < 0
              · simp [a1]
              by_cases a2 : 8 < l[k].Arity
              · simp [a1, a2]
              simp only [a1, a2, if_false]
              by_cases hf : ((l.take k).findIdx? fun a => decide (a.Name = l[k].Name)).isSome = true
              · rw [if_pos hf, if_pos hf]
              · rw [if_neg hf, if_neg hf]
theorem checkSig_eq (l : List Symbol) : r03_CheckSig l = term_CheckSig l := by
  simp only [r03_CheckSig, term_CheckSig]
  by_cases h : 128 < (l.length : Int)
  · rw [if_pos h, if_pos h]
  · rw [if_neg h, if_neg h, sig_step (by omega)]
theorem check_eq {sig : List Symbol} {t : List Int} (hL : t.length < 17179869184) : r03_Check sig t = term_Check sig t := by
  simp only [r03_Check, term_Check, checkSig_eq]
  cases h : term_CheckSig sig with
  | none => rfl
  | some e =>
    simp only [Option.bind_some]
    by_cases he : e = 0
    · subst he
      rw [if_pos rfl, if_pos rfl, Term_eq (checkSig_ar h) hL, if_pos (by omega)]; rfl
    · rw [if_neg he, if_neg he]
end Ld.Law

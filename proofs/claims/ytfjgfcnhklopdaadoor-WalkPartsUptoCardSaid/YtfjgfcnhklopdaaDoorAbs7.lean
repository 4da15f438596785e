import Derived.Test.YtfjgfcnhklopdaaDoorAbs6
set_option maxHeartbeats 400000
set_option linter.unusedVariables false
set_option linter.unusedSimpArgs false
namespace Go.Abs
open Go Go.RowKit

section
variable {W0 : World} {E : Nat → Prop} {X : Nat → Prop} {h h' : AHeap} {m : Places} {w : World} {P : Program}

theorem qmL9 {t e : TypeId} {i : TypeInfo} (hu : P.underlying t = some (.slice e)) (hi : P.info? e = some i) (A : Option Addr) (n c l k : Nat) (hlk : l ≤ k) (hkn : k ≤ n) (hnc : n ≤ c) (vlo vhi : Option Value)
    (hlo : match vlo with | none => l = 0 | some v => ∃ kk, v = .int kk l) (hhi : match vhi with | none => k = n | some v => ∃ kk, v = .int kk k) :
    (Instr.sliceAt t (.slice A n c) vlo vhi none).run P w = .ok (.slice (if c = l then A else A.map (·.add (l * i.size))) (k - l) (c - l)) w := by
  have hkc : k ≤ c := by omega
  cases vlo with
  | none =>
    cases vhi with
    | none =>
      subst hlo; subst hhi
      simp [Instr.sliceAt, run_underlying hu, Instr.slice, Instr.sliceBounds, qbs9 hi]
    | some b =>
      obtain ⟨kb, rfl⟩ := hhi
      subst hlo
      simp [Instr.sliceAt, run_underlying hu, Instr.slice, Instr.sliceBounds, Instr.sliceBound, asIntOf, qbs9 hi, hkc]
  | some a =>
    obtain ⟨ka, rfl⟩ := hlo
    cases vhi with
    | none =>
      subst hhi
      simp [Instr.sliceAt, run_underlying hu, Instr.slice, Instr.sliceBounds, Instr.sliceBound, asIntOf, qbs9 hi, hlk]
    | some b =>
      obtain ⟨kb, rfl⟩ := hhi
      simp [Instr.sliceAt, run_underlying hu, Instr.slice, Instr.sliceBounds, Instr.sliceBound, asIntOf, qbs9 hi, hlk, hkc]

theorem qrA9 {α : Type} (xs : List α) (l k i : Nat) (c : α) (hc : ((xs.drop l).take (k - l))[i]? = some c) : i < k - l ∧ xs[l + i]? = some c := by
  rw [List.getElem?_take] at hc
  split at hc
  · rename_i hlt
    rw [List.getElem?_drop] at hc
    exact ⟨hlt, hc⟩
  · cases hc

theorem qxO9 {t e : TypeId} {i : TypeInfo} {x y : PV} {v : Value} {n l k : Nat} {full : Bool} (hu : P.underlying t = some (.slice e)) (hi : P.info? e = some i) (hv : VRel E h m w x v) (hlen : lenP x = some n) (hsz : szOk h i.size x = true)
    (hlk : l ≤ k) (hkn : k ≤ n) (hfull : full = true → k = n) (hc : cutP x l k full = some y) (vlo vhi : Option Value)
    (hlo : match vlo with | none => l = 0 | some v => ∃ kk, v = .int kk l) (hhi : match vhi with | none => k = n | some v => ∃ kk, v = .int kk k) :
    ∃ u, (Instr.sliceAt t v vlo vhi none).run P w = .ok u w ∧ VRel E h m w y u := by
  have haddr : ∀ (A : Option Addr) (c : Nat) (ad : Addr), l < c → (if c = l then A else A.map (·.add (l * i.size))) = some ad → ∃ a0, A = some a0 ∧ ad = a0.add (l * i.size) := by
    intro A c ad hlc he
    rw [if_neg (by omega)] at he
    cases A with
    | none => simp at he
    | some a0 => simp at he; exact ⟨a0, rfl, he.symm⟩
  cases hv with
  | d x v hd =>
    cases hd with
    | rd xs A c sz f hcc hsz' hA hE hr =>
      simp only [lenP, Option.some.injEq] at hlen
      subst hlen
      simp only [cutP] at hc
      split at hc
      · simp only [Option.some.injEq] at hc
        subst hc
        refine ⟨_, qmL9 hu hi A xs.length c l k hlk hkn hcc vlo vhi hlo hhi, .d _ _ ?_⟩
        have hl : k - l = ((xs.drop l).take (k - l)).length := by simp; omega
        have hall : ∀ (j : Nat) (cs : List D), xs[j]? = some cs → cs.length = i.size := fun j cs hj => by
          have := List.all_eq_true.1 hsz cs (List.mem_of_getElem? hj)
          simpa using this
        generalize hxs : (xs.drop l).take (k - l) = xs' at hl ⊢
        rw [hl]
        have hg : ∀ (j : Nat) (cs : List D), xs'[j]? = some cs → j < k - l ∧ xs[l + j]? = some cs := fun j cs hj => qrA9 xs l k j cs (by rw [hxs]; exact hj)
        refine .rd xs' _ _ i.size (fun a b => f (l + a) b) (by omega) (fun j cs hj => hall _ _ (hg j cs hj).2) (fun j cs hj => ?_) (fun a b cs u ad ha hb had => ?_) (fun a b cs u ha hb => hr _ _ cs u (hg a cs ha).2 hb)
        · obtain ⟨h1, h2⟩ := hg j cs hj
          obtain ⟨a0, rfl⟩ := hA _ _ h2
          exact ⟨a0.add (l * i.size), by rw [if_neg (by omega)]; rfl⟩
        · obtain ⟨h1, h2⟩ := hg a cs ha
          obtain ⟨a0, rfl, rfl⟩ := haddr A c ad (by omega) had
          obtain ⟨q1, q2, q3⟩ := hE (l + a) b cs u a0 h2 hb rfl
          have e1 : sz = i.size := (hsz' _ _ h2).symm.trans (hall _ _ h2)
          refine ⟨by rw [qcH9]; exact q1, ?_, q3⟩
          rw [qgd9, ← q2, e1, Nat.add_mul, Nat.add_assoc]
      · cases hc
    | _ => simp [lenP] at hlen
  | im tt xs A c sz f hcc ht hsz' hA hE hr =>
    simp only [lenP, Option.some.injEq] at hlen
    subst hlen
    simp only [cutP] at hc
    split at hc
    · simp only [Option.some.injEq] at hc
      subst hc
      refine ⟨_, qmL9 hu hi A xs.length c l k hlk hkn hcc vlo vhi hlo hhi, ?_⟩
      have hl : k - l = ((xs.drop l).take (k - l)).length := by simp; omega
      have hall : ∀ (j : Nat) (cs : List PV), xs[j]? = some cs → cs.length = i.size := fun j cs hj => by
        have := List.all_eq_true.1 hsz cs (List.mem_of_getElem? hj)
        simpa using this
      have htc : (tt && (full || k == xs.length)) = true → k - l = c - l := fun e => by
        simp at e
        have h1 := ht e.1
        have h2 : k = xs.length := e.2.elim hfull id
        omega
      generalize hxs : (xs.drop l).take (k - l) = xs' at hl ⊢
      have htc' : (tt && (full || k == xs.length)) = true → xs'.length = c - l := fun e => by rw [← hl]; exact htc e
      rw [hl]
      have hg : ∀ (j : Nat) (cs : List PV), xs'[j]? = some cs → j < k - l ∧ xs[l + j]? = some cs := fun j cs hj => qrA9 xs l k j cs (by rw [hxs]; exact hj)
      refine .im (tt && (full || k == xs.length)) xs' _ _ i.size (fun a b => f (l + a) b) (by omega) htc' (fun j cs hj => hall _ _ (hg j cs hj).2) (fun j cs hj => ?_) (fun a b cs u ad ha hb had => ?_) (fun a b cs u ha hb => hr _ _ cs u (hg a cs ha).2 hb)
      · obtain ⟨h1, h2⟩ := hg j cs hj
        obtain ⟨a0, rfl⟩ := hA _ _ h2
        exact ⟨a0.add (l * i.size), by rw [if_neg (by omega)]; rfl⟩
      · obtain ⟨h1, h2⟩ := hg a cs ha
        obtain ⟨a0, rfl, rfl⟩ := haddr A c ad (by omega) had
        obtain ⟨q1, q2, q3⟩ := hE (l + a) b cs u a0 h2 hb rfl
        have e1 : sz = i.size := (hsz' _ _ h2).symm.trans (hall _ _ h2)
        refine ⟨by rw [qcH9]; exact q1, ?_, q3⟩
        rw [qgd9, ← q2, e1, Nat.add_mul, Nat.add_assoc]
    · cases hc
  | ref id ver off len v hs =>
    simp only [lenP, Option.some.injEq] at hlen
    subst hlen
    simp only [cutP] at hc
    split at hc
    · simp only [Option.some.injEq] at hc
      subst hc
      obtain ⟨A, c, rfl, hlc, hA, fz, ver', sz', es, hob, hle, hcur⟩ := hs
      have hsz2 : sz' = i.size := by simpa [szOk, hob] using hsz
      subst hsz2
      refine ⟨_, qmL9 hu hi A len c l k hlk hkn hlc vlo vhi hlo hhi, .ref _ _ _ _ _ ⟨_, _, rfl, by omega, fun hp => ?_, fz, ver', i.size, es, hob, hle, fun e => ?_⟩⟩
      · obtain ⟨a, rfl⟩ := hA (by omega)
        exact ⟨a.add (l * i.size), by rw [if_neg (by omega)]; rfl⟩
      · obtain ⟨c1, c2⟩ := hcur e
        refine ⟨by omega, ?_⟩
        cases hm : m id with
        | none =>
          rw [hm] at c2
          have c2 : c = 0 := c2
          show c - l = 0
          omega
        | some p =>
          obtain ⟨g, bo⟩ := p
          rw [hm] at c2
          obtain ⟨cur, e, d1, d2, d3⟩ := c2
          refine ⟨cur, e, d1, fun hp => ?_, by rw [← d3]; congr 1; omega⟩
          rw [if_neg (by omega), d2 (by omega)]
          simp only [Option.map_some]
          rw [qfi9, ← Nat.add_mul, Nat.add_assoc]
    · cases hc
  | _ => simp [lenP] at hlen

theorem qsB9 {t : TypeId} {x y : PV} {v : Value} {lo hi : Option PV} {vlo vhi : Option Value} {h1 : AHeap} (hv : VRel E h m w x v) (hlo : ∀ z, lo = some z → ∃ v, vlo = some v ∧ VRel E h m w z v) (hlo' : lo = none → vlo = none) (hhi : ∀ z, hi = some z → ∃ v, vhi = some v ∧ VRel E h m w z v) (hhi' : hi = none → vhi = none)
    (ho : opCut P h t x lo hi none = some (y, h1)) : h1 = h ∧ ∃ u, (Instr.sliceAt t v vlo vhi none).run P w = .ok u w ∧ VRel E h m w y u := by
  unfold opCut at ho
  simp only at ho
  split at ho
  · rename_i s
    obtain rfl := hv.to_v rfl
    exact qsQ9 hlo hlo' hhi hhi' ho
  · cases he : qK9 P t with
    | none => simp [he] at ho
    | some e =>
      cases hl : lenP x with
      | none => simp [he, hl] at ho
      | some n =>
        simp only [he, hl] at ho
        cases hsz : sizeT P e with
        | none => simp [hsz] at ho
        | some sz =>
          cases hbl : bnd 0 lo with
          | none => simp [hsz, hbl] at ho
          | some l =>
            cases hbk : bnd n hi with
            | none => simp [hsz, hbl, hbk] at ho
            | some k =>
              simp only [hsz, hbl, hbk] at ho
              split at ho
              · rename_i hb
                obtain ⟨b1, b2, b3, b4⟩ := hb
                obtain ⟨i, hi1, rfl⟩ := qdo9 hsz
                cases hc : cutP x l.toNat k.toNat hi.isNone with
                | none => simp [hc] at ho
                | some z =>
                  simp only [hc, Option.map_some, Option.some.injEq, Prod.mk.injEq] at ho
                  obtain ⟨rfl, rfl⟩ := ho
                  refine ⟨rfl, qxO9 (qbS9 he) hi1 hv hl b1 (by omega) (by omega) (fun hf => ?_) hc vlo vhi ?_ ?_⟩
                  · cases hi with
                    | none => simp only [bnd, Option.some.injEq] at hbk; omega
                    | some _ => simp at hf
                  · cases lo with
                    | none => rw [hlo' rfl]; simp only [bnd, Option.some.injEq] at hbl; show l.toNat = 0; omega
                    | some a =>
                      obtain ⟨va, rfl, hr⟩ := hlo a rfl
                      obtain ⟨kk, rfl⟩ := hr.as_int hbl
                      exact ⟨kk, by rw [Int.toNat_of_nonneg b2]⟩
                  · cases hi with
                    | none => rw [hhi' rfl]; simp only [bnd, Option.some.injEq] at hbk; show k.toNat = n; omega
                    | some a =>
                      obtain ⟨va, rfl, hr⟩ := hhi a rfl
                      obtain ⟨kk, rfl⟩ := hr.as_int hbk
                      exact ⟨kk, by rw [Int.toNat_of_nonneg (by omega)]⟩
              · cases ho

theorem qwp9 {t e : TypeId} {i : TypeInfo} (hu : P.underlying t = some (.slice e)) (hi : P.info? e = some i) (A : Option Addr) (n c : Nat) (hnc : n ≤ c) (k1 k2 : IntKind) :
    (Instr.sliceAt t (.slice A n c) none (some (.int k1 n)) (some (.int k2 n))).run P w = .ok (.slice (if n = 0 then A else A.map (·.add (0 * i.size))) n n) w := by
  simp [Instr.sliceAt, run_underlying hu, Instr.slice, Instr.sliceBounds, Instr.sliceBound, asIntOf, qbs9 hi, hnc]
theorem qsh9 {t : TypeId} {x y m1 : PV} {v vm : Value} {lo hi : Option PV} {vlo vhi : Option Value} {h1 : AHeap} (hv : VRel E h m w x v) (hlo' : lo = none → vlo = none) (hhi : ∀ z, hi = some z → ∃ v, vhi = some v ∧ VRel E h m w z v) (hm : VRel E h m w m1 vm)
    (ho : opCut P h t x lo hi (some m1) = some (y, h1)) : h1 = h ∧ ∃ u, (Instr.sliceAt t v vlo vhi (some vm)).run P w = .ok u w ∧ VRel E h m w y u := by
  unfold opCut at ho
  simp only at ho
  cases lo with
  | some _ => simp at ho
  | none =>
  cases he : qK9 P t with
  | none => simp [he] at ho
  | some e =>
  cases hsz : sizeT P e with
  | none => simp [he, hsz] at ho
  | some sz =>
  simp only [he, hsz] at ho
  obtain ⟨i, hi1, rfl⟩ := qdo9 hsz
  cases hc : cutF i.size h x hi m1 with
  | none => simp [hc] at ho
  | some z =>
  simp only [hc, Option.map_some, Option.some.injEq, Prod.mk.injEq] at ho
  obtain ⟨rfl, rfl⟩ := ho
  refine ⟨rfl, ?_⟩
  unfold cutF at hc
  split at hc
  · rename_i xs
    split at hc
    · rename_i k c hk hcc
      split at hc
      · rename_i hcond
        obtain ⟨s1, rfl, rfl⟩ := hcond
        obtain rfl := Option.some.inj hc
        cases hi with
        | none => simp at hk
        | some a =>
          obtain ⟨va, rfl, hr⟩ := hhi a rfl
          obtain ⟨k1, rfl⟩ := hr.as_int hk
          obtain ⟨k2, rfl⟩ := hm.as_int hcc
          rw [hlo' rfl]
          cases hv with
          | d _ _ hd =>
            cases hd with
            | rd _ A c sz f hcc' hsz' hA hE hr' =>
              refine ⟨_, qwp9 (qbS9 he) hi1 A xs.length c hcc' k1 k2, ?_⟩
              have hl : (xs.map (·.map PV.d)).length = xs.length := List.length_map ..
              have hg : ∀ (j : Nat) (cs : List PV), (xs.map (·.map PV.d))[j]? = some cs → ∃ cs0, xs[j]? = some cs0 ∧ cs = cs0.map PV.d := fun j cs hj => by
                rw [List.getElem?_map] at hj
                obtain ⟨cs0, h0, rfl⟩ := Option.map_eq_some_iff.1 hj
                exact ⟨cs0, h0, rfl⟩
              have hg2 : ∀ (cs0 : List D) (j : Nat) (u : PV), (cs0.map PV.d)[j]? = some u → ∃ u0, cs0[j]? = some u0 ∧ u = .d u0 := fun cs0 j u hj => by
                rw [List.getElem?_map] at hj
                obtain ⟨u0, h0, rfl⟩ := Option.map_eq_some_iff.1 hj
                exact ⟨u0, h0, rfl⟩
              generalize hxs : xs.map (·.map PV.d) = xs' at hl hg
              rw [← hl]
              refine .im true xs' _ _ sz f (Nat.le_refl _) (fun _ => rfl) (fun j cs hj => ?_) (fun j cs hj => ?_) (fun a b cs u ad ha hb had => ?_) (fun a b cs u ha hb => ?_)
              · obtain ⟨cs0, h0, rfl⟩ := hg j cs hj
                rw [List.length_map]; exact hsz' j cs0 h0
              · obtain ⟨cs0, h0, rfl⟩ := hg j cs hj
                obtain ⟨a0, rfl⟩ := hA j cs0 h0
                have := (List.getElem?_eq_some_iff.1 hj).1
                exact ⟨a0.add (0 * i.size), by rw [if_neg (by omega)]; rfl⟩
              · obtain ⟨cs0, h0, rfl⟩ := hg a cs ha
                obtain ⟨u0, hu0, rfl⟩ := hg2 cs0 b u hb
                have := (List.getElem?_eq_some_iff.1 ha).1
                rw [if_neg (by omega)] at had
                obtain ⟨a0, rfl⟩ := hA a cs0 h0
                simp only [Option.map_some, Option.some.injEq] at had
                subst had
                obtain ⟨q1, q2, q3⟩ := hE a b cs0 u0 a0 h0 hu0 rfl
                refine ⟨by rw [qcH9]; exact q1, ?_, q3⟩
                rw [qgd9, Nat.zero_mul, Nat.zero_add]; exact q2
              · obtain ⟨cs0, h0, rfl⟩ := hg a cs ha
                obtain ⟨u0, hu0, rfl⟩ := hg2 cs0 b u hb
                exact .d _ _ (hr' a b cs0 u0 h0 hu0)
      · cases hc
    · cases hc
  · cases hc

theorem qhR9 {r : Nat} {o : Obj} (hg : w.heap[r]? = some o) (hc : ∀ a b c, o ≠ .cells a b c) : (getObj r).run P w = .ok o w := by
  cases o <;> first | exact absurd rfl (hc _ _ _) | simp only [getObj, Sem.run, hg]
theorem qgX9 {kt : TypeId} {k : Value} (hk : qfv9 P kt k = true) : ∃ d, P.underlying kt = some d ∧ keyD d k = true := by
  unfold qfv9 at hk
  cases hu : P.underlying kt with
  | none => simp [hu] at hk
  | some d => rw [hu] at hk; exact ⟨d, rfl, hk⟩
theorem qjR9 {kt : TypeId} {k : Value} {b : Bool} (hk : qfv9 P kt k = true) : (Instr.checkKey b 10000 kt k).run P w = .ok () w := by
  show (Instr.checkKey b (9999 + 1) kt k).run P w = .ok () w
  obtain ⟨d, hu, hd⟩ := qgX9 hk
  rw [Instr.checkKey]
  cases d <;> simp [keyD] at hd <;> simp [run_underlying hu]
theorem qjz9 {d : TypeDesc} {k k' : Value} (hk : keyD d k = true) : Instr.sameNow d k k' = keyEq k k' := by
  cases d <;> cases k <;> simp [keyD] at hk <;> cases k' <;> simp [Instr.sameNow, keyEq]
theorem qoJ9 {kt : TypeId} {k : Value} {d : TypeDesc} (hu : P.underlying kt = some d) (hk : qfv9 P kt k = true) {es : List (Value × PV)} {ents : List MapEntry} (hl : ents.length = es.length)
    (hr : ∀ (i : Nat) (k : Value) (u : PV) (x : MapEntry), es[i]? = some (k, u) → ents[i]? = some x → x.key = k ∧ VRel E h m w u x.val) {r : Option (Nat × PV)} (hlk : lookP k es = some r) (n : Nat) :
    match r with
    | none => Instr.findNow d k ents n = some none
    | some (i, u) => ∃ x, ents[i]? = some x ∧ es[i]? = some (x.key, u) ∧ keyEq k x.key = some true ∧ Instr.findNow d k ents n = some (some (n + i, x.val)) ∧ VRel E h m w u x.val := by
  have hkd : keyD d k = true := by
    obtain ⟨d', hu', hd⟩ := qgX9 hk
    rw [hu] at hu'
    obtain rfl := Option.some.inj hu'
    exact hd
  clear hk
  induction es generalizing ents r n with
  | nil =>
    simp only [lookP, Option.some.injEq] at hlk
    subst hlk
    cases ents with
    | nil => rfl
    | cons a b => simp at hl
  | cons p rest ih =>
    obtain ⟨k', u⟩ := p
    cases ents with
    | nil => simp at hl
    | cons x xs =>
      obtain ⟨h0, h0'⟩ := hr 0 k' u x rfl rfl
      simp only [lookP] at hlk
      cases hke : keyEq k k' with
      | none => simp [hke] at hlk
      | some b =>
        cases b with
        | true =>
          simp only [hke, Option.some.injEq] at hlk
          subst hlk
          refine ⟨x, rfl, by simp [h0], by rw [h0]; exact hke, ?_, h0'⟩
          simp [Instr.findNow, qjz9 hkd, h0, hke]
        | false =>
          simp only [hke] at hlk
          cases hrest : lookP k rest with
          | none => simp [hrest] at hlk
          | some q =>
            simp only [hrest, Option.map_some, Option.some.injEq] at hlk
            subst hlk
            have := ih (ents := xs) (by simpa using hl) (fun i k u x a b => hr (i + 1) k u x (by simpa using a) (by simpa using b)) hrest (n + 1)
            cases q with
            | none =>
              simp only [Option.map_none] at this ⊢
              simp [Instr.findNow, qjz9 hkd, h0, hke, this]
            | some q =>
              obtain ⟨i, u'⟩ := q
              simp only [Option.map_some] at this ⊢
              obtain ⟨y, a1, a2, a3, a4, a5⟩ := this
              refine ⟨y, by simpa using a1, by simpa using a2, a3, ?_, a5⟩
              simp only [Instr.findNow, qjz9 hkd, h0, hke, a4]
              congr 3
              omega

theorem qqi9 (H : HRel W0 X h m w) {t : TypeId} {x k y : PV} {v vk : Value} {ok : Bool} {h1 : AHeap} (hv : VRel (Ex X h m) h m w x v) (hk : VRel (Ex X h m) h m w k vk) (ho : qjn9 P h t x k ok = some (y, h1)) :
    h1 = h ∧ ∃ u, (Instr.lookup t v vk ok).run P w = .ok u w ∧ VRel (Ex X h m) h m w y u := by
  unfold qjn9 at ho
  split at ho
  · rename_i kt et id kv hu hkv
    obtain rfl := hk.to_v hkv
    split at ho
    · rename_i es z hid hz
      split at ho
      · rename_i hkt
        cases hv with
        | mp id es' g bo ho' hm =>
          rw [hid] at ho'
          injection ho' with ho'
          injection ho' with ho'
          subst ho'
          have H1 := H.obj id _ hid
          rw [hm] at H1
          obtain ⟨ents, clock, a1, a2, a3⟩ := H1
          have hgo := qhR9 (P := P) a1 (by simp)
          obtain ⟨d, hd, hkd⟩ := qgX9 hkt
          have hck := fun b => qjR9 (P := P) (w := w) (b := b) hkt
          have hfind := fun {r} (hr : lookP vk es = some r) => qoJ9 (E := Ex X h m) (h := h) (m := m) (w := w) hd hkt (ents := ents.toList) (by simpa using a2) (fun i k u x p q => a3 i k u x p (by simpa using q)) hr 0
          obtain ⟨zv, hz1, hz2⟩ := qnH9 (E := Ex X h m) (h := h) (m := m) (w := w) hz
          split at ho
          · cases ho
          · rename_i hlk
            simp only [Option.some.injEq, Prod.mk.injEq] at ho
            obtain ⟨rfl, rfl⟩ := ho
            have hf := hfind hlk
            refine ⟨rfl, _, ?_, qkB9 hz2⟩
            simp [Instr.lookup, run_underlying hu, hgo, hck, Instr.findKey, run_underlying hd, hf, hz1]
          · rename_i i u hlk
            simp only [Option.some.injEq, Prod.mk.injEq] at ho
            obtain ⟨rfl, rfl⟩ := ho
            obtain ⟨x, b1, b2, b3, b4, b5⟩ := hfind hlk
            refine ⟨rfl, _, ?_, qkB9 b5⟩
            simp [Instr.lookup, run_underlying hu, hgo, hck, Instr.findKey, run_underlying hd, b4]
      · cases ho
    · cases ho
  · cases ho
end
end Go.Abs

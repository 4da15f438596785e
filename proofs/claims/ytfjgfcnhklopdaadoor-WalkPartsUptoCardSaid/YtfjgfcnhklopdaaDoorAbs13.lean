import Derived.Test.YtfjgfcnhklopdaaDoorAbs12
set_option maxHeartbeats 400000
set_option linter.unusedVariables false
set_option linter.unusedSimpArgs false
namespace Go.Abs
open Go Go.RowKit

section
variable {W0 : World} {E : Nat → Prop} {X : Nat → Prop} {h h' : AHeap} {m : Places} {w w' : World} {P : Program}

theorem qfh9 {A : Option Addr} {news : List Value} {n size len cap : Nat} (hl : news.length = n * size) (hn : ∀ (j : Nat) (u : Value), news[j]? = some u → ∃ a, A = some a ∧ w.cell? (a.add j) = some u) :
    (Builtin.firstCells size n (.slice A len cap)).run P w = .ok news.toArray w := by
  cases A with
  | none =>
    cases news with
    | nil => simp [Builtin.firstCells]
    | cons u r =>
      obtain ⟨a, ha, _⟩ := hn 0 u rfl
      cases ha
  | some b =>
    exact run_firstCells_some w size n b len cap news hl (fun j u hu => by
      obtain ⟨a, ha, hc⟩ := hn j u hu
      cases ha
      exact hc)

theorem qkS9 {t t' ty e e' : TypeId} {i : TypeInfo} (hu : P.underlying t = some (.slice e)) (hu' : P.underlying t' = some (.slice e')) (hi : P.info? e = some i) {A B : Option Addr} {sLen sCap n c : Nat} {news : List Value}
    (hl : news.length = n * i.size) (hn : ∀ (j : Nat) (u : Value), news[j]? = some u → ∃ a, B = some a ∧ w.cell? (a.add j) = some u) (hroom : sLen + n ≤ sCap) {ts : Array TypeId} (h0 : ts[0]? = some t) (h1 : ts[1]? = some t') :
    (Builtin.append_ ts ty #[.slice A sLen sCap, .slice B n c]).run P w = match A with
      | some a => ((storeCells (a.add (sLen * i.size)) news).run P w).andThen fun _ w' => .ok (.slice A (sLen + n) sCap) w'
      | none => .ok (.slice A (sLen + n) sCap) w := by
  have hf := qfh9 (P := P) (size := i.size) (len := n) (cap := c) hl hn
  cases A with
  | none => simp [Builtin.append_, h0, h1, run_underlying hu, run_underlying hu', sizeOf, typeInfo, hi, Builtin.lenOf, hroom, hf]
  | some a => simp [Builtin.append_, h0, h1, run_underlying hu, run_underlying hu', sizeOf, typeInfo, hi, Builtin.lenOf, hroom, hf]

theorem qkO9 {t t' ty e e' : TypeId} {i : TypeInfo} {z : Value} (hu : P.underlying t = some (.slice e)) (hu' : P.underlying t' = some (.slice e')) (hi : P.info? e = some i) (hz : i.zero = some z) {A B : Option Addr} {sLen sCap n c : Nat} {olds news : List Value}
    (hlo : olds.length = sLen * i.size) (ho : ∀ (j : Nat) (u : Value), olds[j]? = some u → ∃ a, A = some a ∧ w.cell? (a.add j) = some u)
    (hl : news.length = n * i.size) (hn : ∀ (j : Nat) (u : Value), news[j]? = some u → ∃ a, B = some a ∧ w.cell? (a.add j) = some u) (hg : sCap < sLen + n) (hb : 0 < i.bytes) (hfit : (sLen + n) * i.bytes ≤ 140737488355328) {ts : Array TypeId} (h0 : ts[0]? = some t) (h1 : ts[1]? = some t') :
    (Builtin.append_ ts ty #[.slice A sLen sCap, .slice B n c]).run P w =
      .ok (.slice (some ⟨w.heap.size, 0, none⟩) (sLen + n) (grownCap w (sLen + n) sCap e))
        (w.drew.alloc (.cells (olds ++ news ++ (Builtin.zeroCells z.cells (grownCap w (sLen + n) sCap e - (sLen + n))).toList).toArray e)) := by
  have hnr : ¬ (sLen + n ≤ sCap) := by omega
  have hfits := growslice_fits (need := sLen + n) (old := sCap) (bytes := i.bytes) hg hfit
  have h48' : ¬ (281474976710656 < Builtin.nextslicecap (sLen + n) sCap * i.bytes) := by omega
  have hsmall : (sLen + n) ≤ 140737488355328 := by
    have : (sLen + n) * 1 ≤ (sLen + n) * i.bytes := Nat.mul_le_mul_left _ hb
    omega
  have hf := qfh9 (P := P) (w := w.drew) (size := i.size) (len := n) (cap := c) hl (by simpa using hn)
  have hfo := qfh9 (P := P) (w := w.drew) (size := i.size) (len := sLen) (cap := sCap) hlo (by simpa using ho)
  have h63' : ¬ (9223372036854775807 < ((sLen : Int) + (n : Int))) := by omega
  simp [Builtin.append_, h0, h1, run_underlying hu, run_underlying hu', sizeOf, typeInfo, zeroValue, hi, hz, Builtin.lenOf, hnr, h63', h48', Question.forced, hf, hfo, newRow, grownCap]
  congr 2
  apply Array.ext'
  simp

theorem qnf9 {ys : List (List PV)} {n : Nat} (h : ys.all (fun cs => cs.length == n) = true) : ∀ (i : Nat) (cs : List PV), ys[i]? = some cs → cs.length = n := by
  intro i cs hi
  have := List.all_eq_true.1 h cs (List.mem_of_getElem? hi)
  simpa using this

theorem CRel.append {cs ds : List PV} {vs us : List Value} (h1 : CRel E h m w cs vs) (h2 : CRel E h m w ds us) : CRel E h m w (cs ++ ds) (vs ++ us) := by
  refine ⟨by simp [h1.1, h2.1], fun j u y a b => ?_⟩
  rcases Nat.lt_or_ge j cs.length with c | c
  · rw [List.getElem?_append_left c] at a
    rw [List.getElem?_append_left (by rw [h1.1]; exact c)] at b
    exact h1.2 j u y a b
  · rw [List.getElem?_append_right c] at a
    rw [List.getElem?_append_right (by rw [h1.1]; exact c), h1.1] at b
    exact h2.2 _ u y a b

theorem qvs9 (H : HRel W0 X h m w) {id ver sz : Nat} {es0 : List (List PV)} (hid : h[id]? = some (.row false ver sz es0)) {news rest : List Value} {e : TypeId} {es : List (List PV)} (hheap : w'.heap = w.heap.push (.cells (news ++ rest).toArray e (0, 0))) (hos : w'.os = w.os) (htape : w'.tape = w.tape) (hout : Outs w w')
    (h0 : 0 < sz) (hsz : ∀ (i : Nat) (cs : List PV), es[i]? = some cs → cs.length = sz) (hc : CRel (Ex X h m) h m w es.flatten news) :
    let h' := h.set id (AObj.row false (ver + 1) sz es); let m' := upd m id (some (w.heap.size, 0))
    Evo (Ex X h m) h m w (Ex X h' m') h' m' w' ∧ HRel W0 X h' m' w' := by
  intro h' m'
  have hsize : w'.heap.size = w.heap.size + 1 := by rw [hheap]; simp
  have hnew : w'.heap[w.heap.size]? = some (.cells (news ++ rest).toArray e (0, 0)) := by rw [hheap]; simp
  refine qgm9 H hid rfl _ _ hos htape hout (by omega) (fun b hb _ => by rw [hheap, Array.getElem?_push_lt hb]; exact (Array.getElem?_eq_getElem hb).symm) ⟨by omega, fun z => z, rfl, fun e => by omega⟩ (fun g bo hp => by cases hp; exact ⟨by omega, .inr (Nat.le_refl _)⟩) (fun hev => ?_)
  have hnl : news.length = es.length * sz := by rw [hc.1, qeo9 hsz]
  refine ⟨h0, _, e, hnew, by simp; omega, hsz, fun i j cs u hi hj => ?_⟩
  have hjl : j < sz := by rw [← hsz i cs hi]; exact (List.getElem?_eq_some_iff.1 hj).1
  have hfl := qfS9 hsz i j hjl
  rw [hi, Option.bind_some, hj] at hfl
  have hlt : i * sz + j < news.length := by rw [hc.1]; exact (List.getElem?_eq_some_iff.1 hfl).1
  have hn := List.getElem?_eq_getElem hlt
  obtain ⟨c1, c2⟩ := hc.2 _ _ _ hfl hn
  refine ⟨news[i * sz + j], ?_, c1, c2.evo hev⟩
  simp only [Nat.zero_add, List.getElem?_toArray]
  rw [List.getElem?_append_left hlt, hn]

theorem qrD9 {xs ys : List (List PV)} {n : Nat} (h1 : ∀ (i : Nat) (cs : List PV), xs[i]? = some cs → cs.length = n) (h2 : ∀ (i : Nat) (cs : List PV), ys[i]? = some cs → cs.length = n) : ∀ (i : Nat) (cs : List PV), (xs ++ ys)[i]? = some cs → cs.length = n := by
  intro i cs hi
  rcases Nat.lt_or_ge i xs.length with c | c
  · rw [List.getElem?_append_left c] at hi; exact h1 i cs hi
  · rw [List.getElem?_append_right c] at hi; exact h2 _ cs hi

theorem qqj9 {t t' ty e : TypeId} {k k' : IntKind} {i : TypeInfo} {z : Value} (hu : P.underlying t = some (.slice e)) (hu' : P.underlying t' = some (.int k)) (hi : P.info? e = some i) (hz : i.zero = some z) (hzs : z.cells.size = i.size) {A : Option Addr} {n : Int} (hn : 0 < n) (hs : 0 < i.size) (hb : 0 < i.bytes) (hfit : n * i.bytes ≤ 140737488355328) {ts : Array TypeId} (h0 : ts[0]? = some t) (h1 : ts[1]? = some t') :
    (Builtin.append_ ts ty #[.slice A 0 0, .int k' n]).run P w =
      .ok (.slice (some ⟨w.heap.size, 0, none⟩) n.toNat (grownCap w n.toNat 0 e))
        (w.drew.alloc (.cells ((Builtin.zeroCells z.cells n.toNat).toList ++ (Builtin.zeroCells z.cells (grownCap w n.toNat 0 e - n.toNat)).toList).toArray e)) := by
  obtain ⟨m, rfl⟩ : ∃ m : Nat, n = (m : Int) := ⟨n.toNat, by omega⟩
  have hm : 0 < m := by omega
  have hmul : ((m * i.bytes : Nat) : Int) = (m : Int) * (i.bytes : Int) := Int.natCast_mul _ _
  have hfit' : m * i.bytes ≤ 140737488355328 := by omega
  have hnr : ¬ (m ≤ 0) := by omega
  have hfits := growslice_fits (need := m) (old := 0) (bytes := i.bytes) (by omega) hfit'
  have h48' : ¬ (281474976710656 < Builtin.nextslicecap m 0 * i.bytes) := by omega
  have hsmall : m ≤ 140737488355328 := by
    have : m * 1 ≤ m * i.bytes := Nat.mul_le_mul_left _ hb
    omega
  have hw : IntKind.i64.wrap (m : Int) = (m : Int) := by rw [IntKind.wrap_i64]; omega
  have hneg : ¬ ((m : Int) < 0) := by omega
  have hbig : ¬ (281474976710656 < (m : Int) * (i.bytes : Int)) := by omega
  have hms : ¬ (m * i.size = 0) := by
    have := Nat.mul_pos hm hs
    omega
  have h63' : ¬ (9223372036854775807 < (m : Int)) := by omega
  have hfo := qfh9 (P := P) (w := w.drew) (size := i.size) (len := 0) (cap := 0) (A := A) (news := []) (n := 0) (by simp) (fun j u hj => by simp at hj)
  simp [Builtin.append_, h0, h1, run_underlying hu, run_underlying hu', sizeOf, typeInfo, zeroValue, hi, hz, Builtin.lenOf, asInt, asIntOf, hw, hneg, hbig, hms, hnr, h63', h48', Question.forced, hfo, newRow, grownCap]
  rw [if_neg (by omega)]
  congr 3
  apply Array.ext'
  simp
theorem qpq9 (H : HRel W0 X h m w) {t t' ty : TypeId} {e' : TypeId} {s x y : PV} {vs vx : Value} {ys : List (List PV)} {h1 : AHeap} {ts : Array TypeId} (h0 : ts[0]? = some t) (h1' : ts[1]? = some t') (hu' : P.underlying t' = some (.slice e'))
    (hs : VRel (Ex X h m) h m w s vs) (hx : VRel (Ex X h m) h m w x vx) (hel : elems h x = some ys) (ho : qgT9 P h t s ys = some (y, h1)) :
    ∃ u w', (Builtin.append_ ts ty #[vs, vx]).run P w = .ok u w' ∧ Out W0 X h m w y h1 u w' := by
  unfold qgT9 at ho
  cases ht : qK9 P t with
  | none => simp [ht] at ho
  | some e =>
    have hu := qbS9 ht
    simp only [ht] at ho
    cases hi : P.info? e with
    | none => simp [hi] at ho
    | some i =>
      simp only [hi] at ho
      split at ho
      · cases ho
      · rename_i hc
        have c1 : 0 < i.size := by omega
        have c2 : 0 < i.bytes := by omega
        obtain ⟨z, hz, hzs⟩ : ∃ z, i.zero = some z ∧ z.cells.size = i.size := by
          have hc3 : qif9 i = true := by
            cases hq : qif9 i with
            | true => rfl
            | false => simp [hq] at hc
          unfold qif9 at hc3
          cases hz : i.zero with
          | none => simp [hz] at hc3
          | some z => exact ⟨z, rfl, by simpa [hz] using hc3⟩
        have grown : ∀ (id ver need old : Nat) (pre : List Value) (es' : List (List PV)) (h'' : AHeap) (m'' : Places) (w2 : World), pre.length = need * i.size → es'.length = need → h''[id]? = some (.row false ver i.size es') → m'' id = some (w.heap.size, 0) →
            w2.heap[w.heap.size]? = some (.cells (pre ++ (Builtin.zeroCells z.cells (grownCap w need old e - need)).toList).toArray e (0, 0)) →
            SRef h'' m'' w2 id ver 0 need (.slice (some ⟨w.heap.size, 0, none⟩) need (grownCap w need old e)) := by
          intro id ver need old pre es' h'' m'' w2 g1 g2 g3 g4 g5
          have hge := grownCap_ge w need old e
          refine ⟨_, _, rfl, hge, fun _ => ⟨_, rfl⟩, false, ver, i.size, es', g3, Nat.le_refl _, fun _ => ⟨by omega, ?_⟩⟩
          rw [g4]
          refine ⟨_, e, g5, fun _ => by simp, ?_⟩
          simp only [List.size_toArray, List.length_append, g1, Array.length_toList, size_zeroCells, hzs, ← Nat.add_mul]
          congr 1
          omega
        split at ho
        · rename_i es
          split at ho
          · rename_i hb
            obtain ⟨b1, b2, b3, b4⟩ := hb
            simp only [Option.some.injEq, Prod.mk.injEq] at ho
            obtain ⟨rfl, rfl⟩ := ho
            have hys := qnf9 b3
            have hes := qnf9 b4
            obtain ⟨B, cB, news, rfl, hcB, n1, n2⟩ := qix9 H hx hel hys
            obtain ⟨A, cA, olds, hA, hcA, o1, o2⟩ := qix9 (ys := es) H hs rfl hes
            have hcap : cA = es.length := by
              cases hs with
              | im tight xs A' c sz f hc' ht' _ _ _ _ =>
                simp only [Value.slice.injEq] at hA
                have := ht' rfl
                omega
            subst hA
            subst hcap
            have hnl : news.length = ys.length * i.size := by rw [n1.1, qeo9 hys]
            have hol : olds.length = es.length * i.size := by rw [o1.1, qeo9 hes]
            rcases Nat.eq_zero_or_pos ys.length with hy0 | hy0
            · have hyn : ys = [] := List.eq_nil_of_length_eq_zero hy0
              subst hyn
              have hen : es = [] := by
                rcases b2 with b2 | b2
                · exact b2
                · exact absurd rfl b2
              subst hen
              have hnn : news = [] := List.eq_nil_of_length_eq_zero (by simpa using hnl)
              subst hnn
              have hr := qkS9 (P := P) (w := w) (ty := ty) (A := A) (sLen := 0) (sCap := 0) (c := cB) hu hu' hi (news := []) (n := 0) (B := B) (by simp) (fun j u hj => by simp at hj) (Nat.le_refl _) h0 h1'
              have hh := qhV9 (w' := w) H (.row false 0 i.size []) none rfl rfl (Outs.refl w) (Nat.le_refl _) (fun _ _ => rfl) (fun g bo hp => by cases hp) (fun _ => rfl)
              refine ⟨.slice A 0 0, w, ?_, _, ?_, hh.2, hh.1⟩
              · rw [show (Value.slice A ([] : List (List PV)).length ([] : List (List PV)).length) = .slice A 0 0 from rfl, show (Value.slice B ([] : List (List PV)).length cB) = .slice B 0 cB from rfl, hr]
                cases A <;> simp [storeCells]
              · refine .ref _ _ _ _ _ ⟨A, 0, rfl, Nat.le_refl _, fun k => by simp at k, false, 0, i.size, [], by simp, Nat.le_refl _, fun _ => ⟨by simp, ?_⟩⟩
                simp
            · have hr := qkO9 (P := P) (w := w) (ty := ty) (A := A) (sLen := es.length) (sCap := es.length) (c := cB) hu hu' hi hz hol o2 hnl n2 (by omega) c2 b1 h0 h1'
              have hsz := qrD9 hes hys
              have hcr : CRel (Ex X h m) h m w (es ++ ys).flatten (olds ++ news) := by rw [List.flatten_append]; exact o1.append n1
              have hh := qku9 (w' := w.drew.alloc (.cells (olds ++ news ++ (Builtin.zeroCells z.cells (grownCap w (es.length + ys.length) es.length e - (es.length + ys.length))).toList).toArray e)) (rest := (Builtin.zeroCells z.cells (grownCap w (es.length + ys.length) es.length e - (es.length + ys.length))).toList) (e := e) (es := es ++ ys) (sz := i.size) H (by simp only [World.alloc]; rfl) rfl rfl (Outs.push rfl (by rintro _ _ _ ⟨⟩; rfl) rfl) c1 hsz hcr
              refine ⟨_, _, hr, _, ?_, hh.2, hh.1⟩
              exact .ref _ _ _ _ _ (grown _ _ _ _ (olds ++ news) (es ++ ys) _ _ _ (by rw [List.length_append, hol, hnl, Nat.add_mul]) (by simp) (by simp) (by simp) (heap_alloc_new w.drew _))
          · cases ho
        · rename_i id ver off len
          split at ho
          · rename_i fz ver' sz es hid
            split at ho
            · rename_i hb
              obtain ⟨rfl, rfl, rfl, b1, b3⟩ := hb
              simp only [Option.some.injEq, Prod.mk.injEq] at ho
              obtain ⟨rfl, rfl⟩ := ho
              have hys := qnf9 b3
              obtain ⟨B, cB, news, rfl, hcB, n1, n2⟩ := qix9 H hx hel hys
              have hnl : news.length = ys.length * i.size := by rw [n1.1, qeo9 hys]
              have hid' : id < h.length := (List.getElem?_eq_some_iff.1 hid).1
              have hel2 : elems h (.ref id ver off len) = some ((es.drop off).take len) := by simp [elems, rowAt, hid]
              have hor := H.obj id _ hid
              have hes0 : ∀ (j : Nat) (cs : List PV), es[j]? = some cs → cs.length = i.size := by
                intro j cs hj
                cases hm : m id with
                | none => rw [hm] at hor; have : es = [] := hor; subst this; simp at hj
                | some p => obtain ⟨g, bo⟩ := p; rw [hm] at hor; obtain ⟨_, _, _, _, _, r3, _⟩ := hor; exact r3 j cs hj
              have hes : ∀ (j : Nat) (cs : List PV), ((es.drop off).take len)[j]? = some cs → cs.length = i.size := by
                intro j cs hj
                have := List.mem_of_getElem? hj
                have := List.mem_of_mem_drop (List.mem_of_mem_take this)
                obtain ⟨k, hk⟩ := List.getElem?_of_mem this
                exact hes0 k cs hk
              obtain ⟨A, cA, olds, hA, hcA, o1, o2⟩ := qix9 H hs hel2 hes
              subst hA
              cases hs with
              | ref _ _ _ _ _ hsr =>
                obtain ⟨A', cap, hv0, hv1, hv2, fz1, ver1, sz1, es1, ho1, hle, hcur⟩ := hsr
                simp only [Value.slice.injEq] at hv0
                obtain ⟨rfl, hlen, rfl⟩ := hv0
                rw [hid] at ho1
                simp only [Option.some.injEq, AObj.row.injEq] at ho1
                obtain ⟨rfl, rfl, rfl, rfl⟩ := ho1
                obtain ⟨d1, d2⟩ := hcur rfl
                have hol : olds.length = len * i.size := by rw [o1.1, qeo9 hes, hlen]
                rw [hlen]
                have hsz := qrD9 hes hys
                have hcr : CRel (Ex X h m) h m w ((es.drop off).take len ++ ys).flatten (olds ++ news) := by rw [List.flatten_append]; exact o1.append n1
                rcases Nat.lt_or_ge cA (len + ys.length) with hgr | hroom
                · have hr := qkO9 (P := P) (w := w) (ty := ty) (A := A) (sLen := len) (sCap := cA) (c := cB) hu hu' hi hz hol o2 hnl n2 hgr c2 b1 h0 h1'
                  have hh := qvs9 (w' := w.drew.alloc (.cells (olds ++ news ++ (Builtin.zeroCells z.cells (grownCap w (len + ys.length) cA e - (len + ys.length))).toList).toArray e)) (rest := (Builtin.zeroCells z.cells (grownCap w (len + ys.length) cA e - (len + ys.length))).toList) (e := e) H hid (by simp only [World.alloc]; rfl) rfl rfl (Outs.push rfl (by rintro _ _ _ ⟨⟩; rfl) rfl) c1 hsz hcr
                  refine ⟨_, _, hr, _, ?_, hh.2, hh.1⟩
                  exact .ref _ _ _ _ _ (grown _ _ _ _ (olds ++ news) ((es.drop off).take len ++ ys) _ _ _ (by rw [List.length_append, hol, hnl, Nat.add_mul]) (by rw [List.length_append, hlen]) (by simp [hid']) (by simp) (heap_alloc_new w.drew _))
                · have hr := qkS9 (P := P) (w := w) (ty := ty) (A := A) (sLen := len) (sCap := cA) (c := cB) hu hu' hi hnl n2 hroom h0 h1'
                  cases hm : m id with
                  | none =>
                    rw [hm] at hor d2
                    have hes1 : es = [] := hor
                    subst hes1
                    have hl0 : len = 0 := by simp at d1; omega
                    subst hl0
                    have hy0 : ys = [] := List.eq_nil_of_length_eq_zero (by omega)
                    subst hy0
                    have hnn : news = [] := List.eq_nil_of_length_eq_zero (by simpa using hnl)
                    subst hnn
                    have hh := qgm9 (w' := w) H hid rfl (.row false (ver + 1) i.size []) none rfl rfl (Outs.refl w) (Nat.le_refl _) (fun _ _ _ => rfl) ⟨by omega, fun z => z, rfl, fun e => by omega⟩ (fun g bo hp => by cases hp) (fun _ => rfl)
                    refine ⟨.slice A 0 0, w, ?_, _, ?_, by simpa using hh.2, by simpa using hh.1⟩
                    · rw [hr]
                      cases A <;> simp [storeCells, d2]
                    · refine .ref _ _ _ _ _ ⟨A, 0, rfl, Nat.le_refl _, fun k => by simp at k, false, ver + 1, i.size, [], by simp [hid'], Nat.le_refl _, fun _ => ⟨by simp, ?_⟩⟩
                      simp
                  | some p =>
                    obtain ⟨g, bo⟩ := p
                    rw [hm] at hor d2
                    obtain ⟨s0, cur, e1, r1, r2, r3, r4⟩ := hor
                    obtain ⟨cur1, e2, f1, f2, f3⟩ := d2
                    rw [r1] at f1
                    cases f1
                    obtain ⟨sz, hsze⟩ : ∃ sz, sz = i.size := ⟨_, rfl⟩
                    rw [← hsze] at hnl f3 hid hr c1 hsz r2 r3 s0 f2 hol ⊢
                    simp only [← hsze] at r4 hys
                    have hfit : (bo + off) * sz + len * sz + news.length ≤ cur.size := by
                      rw [hnl, Nat.add_assoc, ← Nat.add_mul, ← f3, ← Nat.add_mul]
                      exact Nat.mul_le_mul_right _ (by omega)
                    have hrun : (Builtin.append_ ts ty #[.slice A len cA, .slice B ys.length cB]).run P w = .ok (.slice A (len + ys.length) cA) (w.setRow g (cur.toList.take ((bo + off) * sz + len * sz) ++ news ++ cur.toList.drop ((bo + off) * sz + len * sz + news.length)).toArray) := by
                      rw [hr]
                      rcases Nat.eq_zero_or_pos cA with hc0 | hc0
                      · have hnn : news = [] := List.eq_nil_of_length_eq_zero (by rw [hnl, show ys.length = 0 by omega]; simp)
                        rw [hnn, List.append_nil, List.length_nil, Nat.add_zero, List.take_append_drop, Array.toArray_toList, setRow_self w g cur _ (0, 0) r1]
                        cases A <;> simp [storeCells]
                      · rw [f2 hc0]
                        have hst := run_storeCells_at P g ((bo + off) * sz + len * sz) _ news 0 cur w r1 (by simpa using hfit) n1.one
                        simp only [Nat.add_zero] at hst
                        simp only [qfi9, hst, Result.andThen_ok]
                    have hgl : g < w.heap.size := H.lt id _ g bo hid hm
                    have hg' : (w.setRow g (cur.toList.take ((bo + off) * sz + len * sz) ++ news ++ cur.toList.drop ((bo + off) * sz + len * sz + news.length)).toArray).heap[g]? = some (.cells _ _ (0, 0)) := setRow_heap w g cur _ _ (0, 0) r1
                    have hget := fun k => qmQ9 (l := cur.toList) (ys := news) (o := (bo + off) * sz + len * sz) (by simpa using hfit) k
                    have hsz' : (cur.toList.take ((bo + off) * sz + len * sz) ++ news ++ cur.toList.drop ((bo + off) * sz + len * sz + news.length)).toArray.size = cur.size := by
                      simp only [List.size_toArray, List.length_append, List.length_take, List.length_drop, Array.length_toList]; omega
                    generalize hcd : (cur.toList.take ((bo + off) * sz + len * sz) ++ news ++ cur.toList.drop ((bo + off) * sz + len * sz + news.length)) = curL at hrun hg' hget hsz'
                    have hh := qgm9 (w' := w.setRow g curL.toArray) H hid rfl (.row false (ver + 1) sz ((es.drop off).take len ++ ys)) (some (g, bo + off)) rfl rfl (Outs.turn r1 hg' (fun b hb => setRow_other w g b _ hb) (by rintro _ _ _ ⟨⟩; rfl) (by rintro _ _ _ ⟨⟩; rfl) rfl) (by simp) (fun b hb hne => setRow_other w g b _ (hne g bo hm))
                      ⟨by omega, fun z => z, rfl, fun e => by omega⟩ (fun g1 bo1 hp1 => by cases hp1; exact ⟨by simpa using hgl, .inl ⟨bo, hm⟩⟩)
                      (fun hev => by
                        refine ⟨s0, _, _, hg', ?_, hsz, fun k j cs u hk hj => ?_⟩
                        · rw [hsz', List.length_append, hlen, ← f3]
                          exact Nat.mul_le_mul_right _ (by omega)
                        · have hjl : j < sz := by rw [← hsz k cs hk]; exact (List.getElem?_eq_some_iff.1 hj).1
                          rw [List.getElem?_toArray, hget]
                          have ek : (bo + off + k) * sz + j = (bo + off) * sz + (k * sz + j) := by rw [Nat.add_mul (bo + off) k]; omega
                          rcases Nat.lt_or_ge k len with a | a
                          · rw [List.getElem?_append_left (by omega), List.getElem?_take, if_pos a, List.getElem?_drop] at hk
                            have : k * sz + sz ≤ len * sz := by rw [← Nat.succ_mul]; exact Nat.mul_le_mul_right _ (by omega)
                            rw [if_pos (by omega)]
                            obtain ⟨q, q1, q2, q3⟩ := r4 (off + k) j cs u hk hj
                            rw [← Nat.add_assoc] at q1
                            exact ⟨q, by simpa using q1, q2, q3.evo hev⟩
                          · rw [List.getElem?_append_right (by omega), hlen] at hk
                            have hkl : k - len < ys.length := (List.getElem?_eq_some_iff.1 hk).1
                            have e1 : k * sz = len * sz + (k - len) * sz := by rw [← Nat.add_mul]; congr 1; omega
                            have e2 : (k - len) * sz + sz ≤ ys.length * sz := by rw [← Nat.succ_mul]; exact Nat.mul_le_mul_right _ (by omega)
                            rw [if_neg (by omega), if_pos (by omega)]
                            have e3 : (bo + off + k) * sz + j - ((bo + off) * sz + len * sz) = (k - len) * sz + j := by omega
                            rw [e3]
                            have hfl := qfS9 hys (k - len) j hjl
                            rw [hk, Option.bind_some, hj] at hfl
                            have hlt : (k - len) * sz + j < news.length := by omega
                            obtain ⟨q1, q2⟩ := n1.2 _ _ _ hfl (List.getElem?_eq_getElem hlt)
                            exact ⟨_, List.getElem?_eq_getElem hlt, q1, q2.evo hev⟩)
                    refine ⟨_, _, hrun, _, ?_, hh.2, hh.1⟩
                    refine .ref _ _ _ _ _ ⟨A, cA, rfl, hroom, fun k => ⟨_, f2 (by omega)⟩, false, ver + 1, sz, (es.drop off).take len ++ ys, by simp [hid'], Nat.le_refl _, fun _ => ⟨by rw [List.length_append, hlen]; omega, ?_⟩⟩
                    simp only [upd_same]
                    exact ⟨_, _, hg', fun k => by simpa using f2 k, by rw [hsz', ← f3]; simp⟩
            · cases ho
          · cases ho
        · cases ho

theorem qru9 (H : HRel W0 X h m w) {t : TypeId} {x y : PV} {v : Value} {h1 : AHeap} (hv : VRel (Ex X h m) h m w x v) (ho : qiY9 P h t x = some (y, h1)) : ∃ u w', (Instr.range t v).run P w = .ok u w' ∧ Out W0 X h m w y h1 u w' := by
  unfold qiY9 at ho
  split at ho
  · rename_i s hu
    simp only [Option.some.injEq, Prod.mk.injEq] at ho
    obtain ⟨rfl, rfl⟩ := ho
    obtain rfl := hv.to_v rfl
    have hh := qhV9 (w' := { w with heap := w.heap.push (.stringIter s 0) }) H (.siter s 0) (some (w.heap.size, 0)) rfl rfl (Outs.push rfl (by rintro _ _ _ ⟨⟩) rfl) (by simp) (fun b hb => by simp [Array.getElem?_push, hb]; omega) (fun g bo hp => by cases hp; simp) (fun _ => by simp [ORel])
    exact ⟨.pointer (some ⟨w.heap.size, 0, none⟩), { w with heap := w.heap.push (.stringIter s 0) }, by simp [Instr.range, run_underlying hu], _, .it _ s 0 _ 0 (by simp) (by simp), hh.2, hh.1⟩
  · cases ho
theorem qsy9 (H : HRel W0 X h m w) {x y : PV} {v : Value} {b : Bool} {t : TypeId} {h1 : AHeap} (hv : VRel (Ex X h m) h m w x v) (ho : qke9 h x b = some (y, h1)) : ∃ u w', (Instr.next v b t).run P w = .ok u w' ∧ Out W0 X h m w y h1 u w' := by
  unfold qke9 at ho
  split at ho
  · rename_i id
    split at ho
    · rename_i hb
      subst hb
      cases hv with
      | it _ s' pos' g bo ho' hm =>
        split at ho
        · rename_i s pos hid
          obtain ⟨e1, e2⟩ : s = s' ∧ pos = pos' := by
            rw [hid] at ho'
            simpa using ho'
          subst e1
          subst e2
          have H1 := H.obj id _ hid
          rw [hm] at H1
          have H1' : w.heap[g]? = some (.stringIter s pos) := H1
          have hgo := qhR9 (P := P) H1' (by simp)
          have hgl : g < w.heap.size := H.lt id _ g bo hid hm
          split at ho
          · rename_i hlt
            simp only [Option.some.injEq, Prod.mk.injEq] at ho
            obtain ⟨rfl, rfl⟩ := ho
            have hso := qjw9 (P := P) (o' := .stringIter s (pos + (Utf8.decode s pos).2)) H1' (by simp)
            have hh := qgm9 (w' := { w with heap := w.heap.setIfInBounds g (.stringIter s (pos + (Utf8.decode s pos).2)) }) H hid rfl (.siter s (pos + (Utf8.decode s pos).2)) (m id) rfl rfl (Outs.turn H1' (o' := .stringIter s (pos + (Utf8.decode s pos).2)) (by simp [hgl]) (fun b hb => by simp [Ne.symm hb]) (by rintro _ _ _ ⟨⟩) (by rintro _ _ _ ⟨⟩) rfl) (by simp) (fun b hb hne => by
              have := hne g bo hm
              simp [Ne.symm this]) rfl (fun g' bo' hp => by
              rw [hm] at hp
              cases hp
              exact ⟨by simpa using hgl, .inl ⟨bo, hm⟩⟩) (fun _ => by
              rw [hm]
              simp [ORel, hgl])
            refine ⟨.tuple #[.bool true, .int .i64 pos, .int .i32 (Utf8.decode s pos).1], _, by simp [Instr.next, hgo, hlt, hso]; rfl, _, ?_, hh.2, hh.1⟩
            exact .tp _ [.bool true, .int .i64 pos, .int .i32 (Utf8.decode s pos).1] rfl (fun j u x a b => by
              match j, a, b with
              | 0, a, b => simp at a b; subst a; subst b; exact .d _ _ (.v _)
              | 1, a, b => simp at a b; subst a; subst b; exact .d _ _ (.v _)
              | 2, a, b => simp at a b; subst a; subst b; exact .d _ _ (.v _)
              | (k + 3), a, b => simp at a)
          · rename_i hlt
            simp only [Option.some.injEq, Prod.mk.injEq] at ho
            obtain ⟨rfl, rfl⟩ := ho
            refine ⟨.tuple #[.bool false], _, by simp [Instr.next, hgo, hlt], Out.same H ?_⟩
            exact .tp _ [.bool false] rfl (fun j u x a b => by
              match j, a, b with
              | 0, a, b => simp at a b; subst a; subst b; exact .d _ _ (.v _)
              | (k + 1), a, b => simp at a)
        · cases ho
    · cases ho
  · cases ho
end
end Go.Abs

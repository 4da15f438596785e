import Derived.Test.YtfjgfcnhklopdaaDoorAbs11
set_option maxHeartbeats 400000
set_option linter.unusedVariables false
set_option linter.unusedSimpArgs false
namespace Go.Abs
open Go Go.RowKit

section
variable {W0 : World} {E : Nat → Prop} {X : Nat → Prop} {h h' : AHeap} {m : Places} {w w' : World} {P : Program}

theorem qmQ9 {α : Type} {l ys : List α} {o : Nat} (hle : o + ys.length ≤ l.length) (k : Nat) : (l.take o ++ ys ++ l.drop (o + ys.length))[k]? = if k < o then l[k]? else if k < o + ys.length then ys[k - o]? else l[k]? := by
  have e : (l.take o).length = o := by simp; omega
  rcases Nat.lt_or_ge k o with a | a
  · rw [if_pos a, List.append_assoc, List.getElem?_append_left (by omega), List.getElem?_take, if_pos a]
  · rw [if_neg (by omega)]
    rcases Nat.lt_or_ge k (o + ys.length) with b | b
    · rw [if_pos b, List.append_assoc, List.getElem?_append_right (by omega), List.getElem?_append_left (by omega), e]
    · rw [if_neg (by omega), List.getElem?_append_right (by simp; omega), List.getElem?_drop]
      congr 1
      simp
      omega

theorem qqE9 (H : HRel W0 X h m w) {t : TypeId} {a x : PV} {va vx : Value} {h1 : AHeap} (hv : VRel (Ex X h m) h m w a va) (hx : VRel (Ex X h m) h m w x vx) (ho : qlO9 P h t a x = some h1) :
    ∃ w', (Instr.storeAt t va vx).run P w = .ok () w' ∧ ∀ u, Out W0 X h m w .junk h1 u w' := by
  unfold qlO9 at ho
  split at ho
  · rename_i id ver idx off
    split at ho
    · rename_i fz ver' sz es n hid hn
      split at ho
      · rename_i cs hcs
        split at ho
        · rename_i hc
          obtain ⟨rfl, rfl, hok, hlen, hfit⟩ := hc
          simp only [Option.some.injEq] at ho
          subst ho
          obtain ⟨i, hi, rfl⟩ := qdo9 hn
          cases hv with
          | ptr _ _ _ _ _ hp =>
            obtain ⟨⟨ad, rfl⟩, fz1, ver1, sz1, es1, ho1, hle, hcur⟩ := hp
            rw [hid] at ho1
            simp only [Option.some.injEq, AObj.row.injEq] at ho1
            obtain ⟨rfl, rfl, rfl, rfl⟩ := ho1
            obtain ⟨c1, c2⟩ := hcur rfl
            have hor := H.obj id _ hid
            cases hm : m id with
            | none => rw [hm] at c2; exact c2.elim
            | some p =>
              obtain ⟨g, bo⟩ := p
              rw [hm] at hor c2
              simp only [Value.pointer.injEq, Option.some.injEq] at c2
              subst c2
              obtain ⟨s0, cur, e, r1, r2, r3, r4⟩ := hor
              have hcx := CRel.of_cells hx hok
              have hvl : vx.cells.toList.length = i.size := by rw [hcx.1, hlen]
              have hsz := r3 idx cs hcs
              have hpos : (bo + idx) * sz + sz ≤ (bo + es.length) * sz := by rw [← Nat.succ_mul]; exact Nat.mul_le_mul_right _ (by omega)
              have hgl : g < w.heap.size := H.lt id _ g bo hid hm
              let cur' : Array Value := (cur.toList.take ((bo + idx) * sz + off) ++ vx.cells.toList ++ cur.toList.drop ((bo + idx) * sz + off + vx.cells.toList.length)).toArray
              have hrun := run_storeCells_at P g ((bo + idx) * sz + off) e vx.cells.toList 0 cur w r1 (by rw [hvl]; omega) hcx.one
              simp only [Nat.add_zero] at hrun
              have hsz' : cur'.size = cur.size := by simp only [cur', List.size_toArray, List.length_append, List.length_take, List.length_drop, hvl, Array.length_toList]; omega
              have hg' : (w.setRow g cur').heap[g]? = some (.cells cur' e (0, 0)) := setRow_heap w g cur cur' e (0, 0) r1
              have hh := qgm9 (w' := w.setRow g cur') H hid rfl (.row false ver sz (es.set idx (splice cs off (qY9 x)))) (m id) rfl rfl (Outs.turn r1 hg' (fun b hb => setRow_other w g b cur' hb) (by rintro _ _ _ ⟨⟩; rfl) (by rintro _ _ _ ⟨⟩; rfl) rfl) (by simp) (fun b hb hne => setRow_other w g b cur' (hne g bo hm))
                ⟨Nat.le_refl _, fun z => z, rfl, fun _ => ⟨by simp, rfl, fun g1 bo1 cur1 e1 hp1 hg1 => by
                  rw [hm] at hp1
                  cases hp1
                  rw [r1] at hg1
                  cases hg1
                  exact ⟨cur', hg', hsz'⟩⟩⟩
                (fun g1 bo1 hp1 => by
                  rw [hm] at hp1
                  cases hp1
                  exact ⟨by simpa using hgl, .inl ⟨bo, hm⟩⟩)
                (fun hev => by
                  have hcx' : ∀ (j : Nat) (u : PV) (y : Value), (qY9 x)[j]? = some u → vx.cells.toList[j]? = some y → y.oneCell' = true ∧ VRel _ _ _ _ u y := fun j u y p q => ⟨(hcx.2 j u y p q).1, (hcx.2 j u y p q).2.evo hev⟩
                  have r4' : ∀ (i j : Nat) (cs : List PV) (u : PV), es[i]? = some cs → cs[j]? = some u → ∃ x, cur[(bo + i) * sz + j]? = some x ∧ x.oneCell' = true ∧ VRel _ _ _ _ u x := fun i j cs u p q => by
                    obtain ⟨x, q1, q2, q3⟩ := r4 i j cs u p q
                    exact ⟨x, q1, q2, q3.evo hev⟩
                  clear hev
                  rw [hm] at hcx' r4' ⊢
                  have hspl : (splice cs off (qY9 x)).length = sz := by unfold splice; simp; omega
                  have hsz2 : ∀ (i : Nat) (ds : List PV), (es.set idx (splice cs off (qY9 x)))[i]? = some ds → ds.length = sz := by
                    intro i ds hd
                    by_cases hii : i = idx
                    · subst hii
                      rw [List.getElem?_set_self c1] at hd
                      cases hd
                      exact hspl
                    · rw [List.getElem?_set_ne (Ne.symm hii)] at hd
                      exact r3 i ds hd
                  refine ⟨s0, cur', e, hg', by rw [hsz']; simpa using r2, hsz2, fun i' j ds u hd hj => ?_⟩
                  have hjl : j < sz := by rw [← hsz2 i' ds hd]; exact (List.getElem?_eq_some_iff.1 hj).1
                  have hget := fun k => qmQ9 (l := cur.toList) (ys := vx.cells.toList) (o := (bo + idx) * sz + off) (by rw [hvl]; simp; omega) k
                  have hcget : ∀ k, cur'[k]? = if k < (bo + idx) * sz + off then cur[k]? else if k < (bo + idx) * sz + off + i.size then vx.cells.toList[k - ((bo + idx) * sz + off)]? else cur[k]? := by
                    intro k
                    have := hget k
                    rw [hvl] at this
                    simp only [cur', hvl, List.getElem?_toArray, this, Array.getElem?_toList]
                  rw [hcget]
                  by_cases hii : i' = idx
                  · subst hii
                    rw [List.getElem?_set_self c1] at hd
                    cases hd
                    have hs := qmQ9 (l := cs) (ys := qY9 x) (o := off) (by omega) j
                    unfold splice at hj
                    rw [hs] at hj
                    rcases Nat.lt_or_ge j off with a | a
                    · rw [if_pos a] at hj
                      rw [if_pos (by omega)]
                      exact r4' i' j cs u hcs hj
                    · rw [if_neg (by omega)] at hj ⊢
                      rw [hlen] at hj
                      rcases Nat.lt_or_ge j (off + i.size) with b | b
                      · rw [if_pos b] at hj
                        rw [if_pos (by omega)]
                        have ej : (bo + i') * sz + j - ((bo + i') * sz + off) = j - off := by omega
                        rw [ej]
                        have hlt : j - off < vx.cells.toList.length := by rw [hvl]; omega
                        obtain ⟨q1, q2⟩ := hcx' (j - off) u _ hj (List.getElem?_eq_getElem hlt)
                        exact ⟨_, List.getElem?_eq_getElem hlt, q1, q2⟩
                      · rw [if_neg (by omega)] at hj ⊢
                        exact r4' i' j cs u hcs hj
                  · rw [List.getElem?_set_ne (Ne.symm hii)] at hd
                    rcases Nat.lt_or_ge i' idx with a | a
                    · have : (bo + i') * sz + sz ≤ (bo + idx) * sz := by rw [← Nat.succ_mul]; exact Nat.mul_le_mul_right _ (by omega)
                      rw [if_pos (by omega)]
                      exact r4' i' j ds u hd hj
                    · have : (bo + idx) * sz + sz ≤ (bo + i') * sz := by rw [← Nat.succ_mul]; exact Nat.mul_le_mul_right _ (by omega)
                      rw [if_neg (by omega), if_neg (by omega)]
                      exact r4' i' j ds u hd hj)
              refine ⟨_, ?_, fun u => ⟨_, .junk u, hh.2, hh.1⟩⟩
              have hne : vx.cells.size = i.size := by simpa using hvl
              simp only [Instr.storeAt, Instr.sureAddr, storeVar, Sem.run_bind, Sem.run_pure, Result.andThen_ok, qbs9 hi, hne, ne_eq, not_true_eq_false, if_false]
              exact hrun
        · cases ho
      · cases ho
    · cases ho
  · cases ho
end
end Go.Abs

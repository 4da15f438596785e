import Derived.Test.YtfjgfcnhklopdaaDoorAbs10
import Derived.Laws.MakeOwn
set_option maxHeartbeats 400000
set_option linter.unusedVariables false
set_option linter.unusedSimpArgs false
namespace Go.Abs
open Go Go.RowKit

section
variable {W0 : World} {E : Nat → Prop} {X : Nat → Prop} {h h' : AHeap} {m : Places} {w w' : World} {P : Program}

theorem qlg9 {x : PV} {v : Value} (hv : VRel E h m w x v) : VRel E h m w (setl x) v := by
  unfold setl
  split
  · cases hv with
    | im t xs A c sz f hc ht hsz hA hc1 hr =>
      exact .d _ _ (.rd [] A c 1 (fun _ _ => undef) (by simp) (fun i cs a => by simp at a) (fun i cs a => by simp at a) (fun i j cs u ad a => by simp at a) (fun i j cs u a => by simp at a))
  · exact hv
theorem qmb9 (H : HRel W0 X h m w) {t : TypeId} {l c y : PV} {vl vc : Value} {h1 : AHeap} (hl : VRel (Ex X h m) h m w l vl) (hcv : VRel (Ex X h m) h m w c vc) (ho : qhb9 P h t l c = some (y, h1)) :
    ∃ u w', (Instr.makeSlice t vl vc).run P w = .ok u w' ∧ Out W0 X h m w y h1 u w' := by
  unfold qhb9 at ho
  split at ho
  · rename_i e n k ht hn hk
    have hu := qbS9 ht
    obtain ⟨kl, rfl⟩ := hl.as_int hn
    obtain ⟨kc, rfl⟩ := hcv.as_int hk
    split at ho
    · rename_i i zs hi hz
      obtain ⟨i', z, hi', hzz, hs1, hs2, hs3, hs4⟩ := qev9 (E := Ex X h m) (h := h) (m := m) (w := w) hz
      rw [hi] at hi'
      cases hi'
      have hs2 : (zs.map setl).length = i.size := by rw [List.length_map]; exact hs2
      have hs4 : ∀ (j : Nat) (u : PV) (y : Value), (zs.map setl)[j]? = some u → z.cells[j]? = some y → y.oneCell' = true ∧ VRel (Ex X h m) h m w u y := by
        intro j u y a b
        rw [List.getElem?_map] at a
        cases hj : zs[j]? with
        | none => simp [hj] at a
        | some u0 =>
          simp only [hj, Option.map_some, Option.some.injEq] at a
          subst a
          have := hs4 j u0 y hj b
          exact ⟨this.1, qlg9 this.2⟩
      clear hz
      generalize zs.map setl = zs at ho hs2 hs4
      split at ho
      · rename_i hc
        obtain ⟨rfl, c2, c3, c4, c5⟩ := hc
        simp only [Option.some.injEq, Prod.mk.injEq] at ho
        obtain ⟨rfl, rfl⟩ := ho
        have hbig : n ≤ 140737488355328 := by
          have : (1 : Int) * n ≤ (i.bytes : Int) * n := Int.mul_le_mul_of_nonneg_right (by omega) c2
          omega
        have hr := run_make (P := P) w t e i z hu hi hzz kl kc n n c2 (Int.le_refl _) (by omega) (by omega)
        have hsz : ∀ (j : Nat) (cs : List PV), (List.replicate n.toNat zs)[j]? = some cs → cs.length = i.size := by
          intro j cs hj
          have := List.mem_of_getElem? hj
          rw [List.mem_replicate] at this
          rw [this.2]; exact hs2
        have hcr : CRel (Ex X h m) h m w (List.replicate n.toNat zs).flatten (madeCells z.cells (n.toNat * i.size)).toList := by
          have hfl := qeo9 hsz
          refine ⟨by rw [hfl]; simp [size_madeCells], fun j u y a b => ?_⟩
          have hj : j < n.toNat * i.size := by
            have := (List.getElem?_eq_some_iff.1 a).1
            rw [hfl] at this
            simpa using this
          have hm := Nat.mod_lt j c4
          have hd : j / i.size * i.size + j % i.size = j := by rw [Nat.mul_comm]; exact Nat.div_add_mod j i.size
          have hg := qfS9 hsz (j / i.size) (j % i.size) hm
          rw [hd, a, List.getElem?_replicate] at hg
          have hlt : j / i.size < n.toNat := by
            rw [Nat.div_lt_iff_lt_mul c4]; exact hj
          rw [if_pos hlt, Option.bind_some] at hg
          have hb : z.cells[j % i.size]? = some y := by
            have hlt2 : j % z.cells.size < z.cells.size := by rw [hs1]; exact hm
            simp only [madeCells, Array.toList_map, List.getElem?_map, Array.toList_range, List.getElem?_range hj, Option.map_some, Option.some.injEq] at b
            rw [getElem!_pos z.cells _ hlt2] at b
            rw [← b, ← hs1, Array.getElem?_eq_getElem hlt2]
          exact hs4 _ u y hg.symm hb
        have hh := qku9 (w' := w.alloc (.cells (madeCells z.cells (n.toNat * i.size)) e)) (rest := []) (e := e) (es := List.replicate n.toNat zs) (sz := i.size) H (by simp only [World.alloc, List.append_nil, Array.toArray_toList]) rfl rfl (Outs.push rfl (by rintro _ _ _ ⟨⟩; rfl) rfl) c4 hsz hcr
        refine ⟨_, _, hr, _, ?_, hh.2, hh.1⟩
        refine .ref _ _ _ _ _ ⟨_, n.toNat, rfl, Nat.le_refl _, fun _ => ⟨_, rfl⟩, false, 0, i.size, List.replicate n.toNat zs, by simp [qgl9], Nat.le_refl _, fun _ => ⟨by simp, ?_⟩⟩
        simp only [upd_same]
        refine ⟨madeCells z.cells (n.toNat * i.size), e, by simp only [World.alloc, Array.getElem?_push_size], fun _ => by simp, by simp [size_madeCells]⟩
      · cases ho
    · cases ho
  · cases ho

theorem qlE9 (a b : ByteArray) : (a == b) = true ↔ a = b := by
  obtain ⟨x⟩ := a
  obtain ⟨y⟩ := b
  show (x == y) = true ↔ _
  simp
theorem qse9 {k k' : Value} (h : keyEq k k' = some true) : k' = k := by
  cases k <;> cases k' <;> simp [keyEq] at h
  · rename_i a b c d
    obtain ⟨rfl, rfl⟩ := h
    rfl
  · rw [(qlE9 _ _).1 h]
theorem qpl9 {d : TypeDesc} {k : Value} (hk : keyD d k = true) (n : Nat) : Instr.sameBits n k k = true := by
  cases d <;> cases k <;> simp [keyD] at hk <;> cases n <;> simp [Instr.sameBits, qlE9]
theorem qjw9 {r : Nat} {o o' : Obj} (hg : w.heap[r]? = some o) (hc : ∀ a b c, o ≠ .cells a b c) : (setObj r o').run P w = .ok () { w with heap := w.heap.setIfInBounds r o' } := by
  cases o <;> first | exact absurd rfl (hc _ _ _) | simp only [setObj, Sem.run, hg]
theorem qll9 {d : TypeDesc} {k : Value} (hk : keyD d k = true) : (Instr.keyThatStays k k).run P w = .ok k w := by
  unfold Instr.keyThatStays
  rw [if_pos (qpl9 hk _)]
  rfl

theorem qly9 (H : HRel W0 X h m w) {t : TypeId} {x k v y : PV} {vx vk vv : Value} {h1 : AHeap} (hv : VRel (Ex X h m) h m w x vx) (hk : VRel (Ex X h m) h m w k vk) (hvv : VRel (Ex X h m) h m w v vv) (ho : qha9 P h t x k v = some (y, h1)) :
    y = .junk ∧ ∃ w', (Instr.mapUpdate t vx vk vv).run P w = .ok () w' ∧ ∀ u, Out W0 X h m w y h1 u w' := by
  unfold qha9 at ho
  split at ho
  · rename_i kt et id kv hu hkv
    obtain rfl := hk.to_v hkv
    split at ho
    · rename_i es hid
      split at ho
      · rename_i hkt
        cases hv with
        | mp id es' g bo ho' hm =>
          rw [hid] at ho'
          injection ho' with ho'
          injection ho' with ho'
          subst ho'
          have H1 := H.obj id _ hid
          rw [hm] at H1
          obtain ⟨ents, clock, a1, a2, a3⟩ := H1
          have hgo := qhR9 (P := P) a1 (by simp)
          have hgl : g < w.heap.size := H.lt id _ g bo hid hm
          obtain ⟨d, hd, hkd⟩ := qgX9 hkt
          have hck := fun b => qjR9 (P := P) (w := w) (b := b) hkt
          have hfind := fun {r} (hr : lookP vk es = some r) => qoJ9 (E := Ex X h m) (h := h) (m := m) (w := w) hd hkt (ents := ents.toList) (by simpa using a2) (fun i k u x p q => a3 i k u x p (by simpa using q)) hr 0
          have turn : ∀ (es' : List (Value × PV)) (ents' : Array MapEntry) (clock' : Nat), ents'.size = es'.length → (∀ (i : Nat) (k : Value) (u : PV) (x : MapEntry), es'[i]? = some (k, u) → ents'[i]? = some x → x.key = k ∧ VRel (Ex X h m) h m w u x.val) →
              ∀ u, Out W0 X h m w .junk (h.set id (.map es')) u { w with heap := w.heap.setIfInBounds g (.map ents' clock') } := by
            intro es' ents' clock' hs hr u
            have hh := qgm9 (w' := { w with heap := w.heap.setIfInBounds g (.map ents' clock') }) H hid rfl (.map es') (m id) rfl rfl (Outs.turn a1 (o' := .map ents' clock') (by simp [hgl]) (fun b hb => by simp [Ne.symm hb]) (by rintro _ _ _ ⟨⟩) (by rintro _ _ _ ⟨⟩) rfl) (by simp) (fun b hb hne => by
              have := hne g bo hm
              simp [Array.getElem?_setIfInBounds, Ne.symm this]) rfl (fun g' bo' hp => by
              rw [hm] at hp
              cases hp
              exact ⟨by simpa using hgl, .inl ⟨bo, hm⟩⟩) (fun hev => by
              have hk2 : ∀ (i : Nat) (k : Value) (u : PV) (x : MapEntry), es'[i]? = some (k, u) → ents'[i]? = some x → x.key = k ∧ VRel _ _ _ _ u x.val := fun i k u x p q => ⟨(hr i k u x p q).1, (hr i k u x p q).2.evo hev⟩
              clear hev
              rw [hm] at hk2 ⊢
              exact ⟨ents', clock', by simp [hgl], hs, hk2⟩)
            exact ⟨_, .junk _, hh.2, hh.1⟩
          split at ho
          · cases ho
          · rename_i hlk
            simp only [Option.some.injEq, Prod.mk.injEq] at ho
            obtain ⟨rfl, rfl⟩ := ho
            have hf := hfind hlk
            refine ⟨rfl, _, ?_, turn (es ++ [(vk, v)]) (ents.push { key := vk, val := vv, born := clock }) (clock + 1) (by simp [a2]) (fun i k u x p q => ?_)⟩
            · simp [Instr.mapUpdate, run_underlying hu, hgo, hck, Instr.findKey, run_underlying hd, hf, qjw9 a1 (by simp)]
            · rcases Nat.lt_trichotomy i es.length with hlt | rfl | hgt
              · rw [List.getElem?_append_left hlt] at p
                rw [Array.getElem?_push_lt (by omega)] at q
                exact a3 i k u x p (by rw [Array.getElem?_eq_getElem (by omega)]; exact q)
              · simp at p
                rw [← a2] at q
                simp at q
                obtain ⟨rfl, rfl⟩ := p
                subst q
                exact ⟨rfl, hvv⟩
              · rw [List.getElem?_eq_none (by simp; omega)] at p
                cases p
          · rename_i i u hlk
            simp only [Option.some.injEq, Prod.mk.injEq] at ho
            obtain ⟨rfl, rfl⟩ := ho
            obtain ⟨x, b1, b2, b3, b4, b5⟩ := hfind hlk
            have hxk := qse9 b3
            have b1' : ents[i]? = some x := by simpa using b1
            refine ⟨rfl, _, ?_, turn (es.set i (vk, v)) (ents.modify i fun e => { e with key := vk, val := vv }) clock (by simp [a2]) (fun j k u' x' p q => ?_)⟩
            · have hks := qll9 (P := P) (w := w) hkd
              simp [Instr.mapUpdate, run_underlying hu, hgo, hck, Instr.findKey, run_underlying hd, b4, b1', hxk, hks, qjw9 a1 (by simp)]
            · by_cases hij : j = i
              · subst hij
                rw [Array.getElem?_modify, if_pos rfl, b1'] at q
                have hlt : j < es.length := (List.getElem?_eq_some_iff.1 b2).1
                rw [List.getElem?_set_self hlt] at p
                simp at p q
                obtain ⟨rfl, rfl⟩ := p
                subst q
                exact ⟨rfl, hvv⟩
              · rw [Array.getElem?_modify, if_neg (Ne.symm hij)] at q
                rw [List.getElem?_set_ne (Ne.symm hij)] at p
                exact a3 j k u' x' p q
      · cases ho
    · cases ho
  · cases ho
end
end Go.Abs

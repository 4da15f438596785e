import Derived.Test.YtfjgfcnhklopdaaDoorSPW2
import Derived.Test.YtfjgfcnhklopdaaDoorSPW3
import Derived.Test.YtfjgfcnhklopdaaDoorSPW8
import Derived.Test.YtfjgfcnhklopdaaDoorSPW9
set_option maxHeartbeats 4000000
set_option linter.unusedVariables false
set_option linter.unusedSimpArgs false
namespace Ld
open Go Go.Proofs Go.Abs
set_option maxRecDepth 8000
def qgZ9 : ACode := .reg [] [] [.K 42 (.bin .lss (.tmp 41) (.tmp 40))]
def qgW9 : ACode := .reg [] [] [.T 43 (.ix 1 (.tmp 39) (.tmp 41)), .T 44 (.load none (.tmp 43)), .N 15 44]
def qgM9 : ACode := .reg [] [] [.M 45 13, .M 46 2, .T 47 (.lit 1 [(0, .tmp 46)]), .T 48 (.app 1 8 (.tmp 45) (.tmp 47)), .N 13 48]
def qgL9 : ACode := .reg [] [] [.M 49 2, .M 50 15, .T 51 (.inv (.tmp 50) "lodestone/term.size" []), .T 52 (.bin .add (.tmp 49) (.tmp 51)), .N 2 52]
def qgV9 : ACode := .reg [] [] [.T 53 (.bin .add (.tmp 41) (cI 1)), .N 41 53]
def qip9 : ACode := .reg [] [] [.K 6 (.mv (.const (.slice none 0 0))), .K 7 (.mv (cI 0))]
def qil9 : ACode := .reg [] [] [.M 17 0, .M 18 1, .M 19 2, .T 20 (.call 65 [.tmp 17, .tmp 18, .tmp 19]), .M 16 20, .T 21 (.ext (.tmp 16) 0), .T 22 (.ext (.tmp 16) 1), .T 23 (.ext (.tmp 16) 2), .N 8 21, .M 9 22, .N 10 23]
def qiF9 : ACode := .reg [] [] [.M 24 10, .K 25 (.bin .neq (.tmp 24) (cI 0))]
def qib9 : ACode := .reg [] [] [.M 26 10, .K 6 (.mv (.const (.slice none 0 0))), .N 7 26]
def qiH9 : ACode := .reg [] [] [.M 28 8, .T 29 (.asr 103 (some (.d (.v (.pointer none)))) (.tmp 28) true), .M 27 29, .T 30 (.ext (.tmp 27) 0), .T 31 (.ext (.tmp 27) 1), .N 11 30, .N 12 31]
def qiw9 : ACode := .reg [] [] [.M 32 12, .K 33 (.not (.tmp 32))]
def qiu9 : ACode := .reg [] [] [.K 6 (.mv (.const (.slice none 0 0))), .K 7 (.mv (cI 0))]
def qiv9 : ACode := .reg [] [(13, 1)] [.K 13 (.mv (.const (.slice none 0 0)))]
def qiG9 : ACode := .reg [] [] [.M 34 2, .T 35 (.bin .add (.tmp 34) (cI 1)), .N 2 35]
def qiq9 : ACode := .reg [] [] [.M 36 11, .T 37 (.nilC (.tmp 36)), .T 38 (.fa 2 (.tmp 37)), .K 39 (.load none (.tmp 38)), .K 40 (.len (.tmp 39)), .K 41 (.mv (cI 0))]
def qgQ9 : ACode := .reg [] [] [.M 54 13, .N 6 54, .K 7 (.mv (cI 0))]
def qjz9 : ACode := .seq (qgZ9) (.seq (.cond (.tmp 42) (some 42) (.skip) (.exit 0)) (.seq (.block 1 4398046543872 (.seq (qgW9) (.seq (qgM9) (qgL9)))) (qgV9)))
def c31 : ACode := .seq (qip9) (.seq (qil9) (.seq (.seq (qiF9) (.cond (.tmp 25) (some 25) (.seq (qib9) (.ret)) (.skip))) (.seq (qiH9) (.seq (.seq (qiw9) (.cond (.tmp 33) (some 33) (.seq (qiu9) (.ret)) (.skip))) (.seq (qiv9) (.seq (qiG9) (.seq (.seq (qiq9) (.block 0 4398046543872 (.loop qjz9))) (.seq (qgQ9) (.ret)))))))))
theorem is31 : IsF C 31 55 8254960745927 c31 [.tmp 6, .tmp 7] := ⟨⟨Tryd.f31, _, C_P ▸ Tryd.func31, rfl, rfl, rfl, by kernel_rfl, rfl⟩⟩
section
variable {sig : List Symbol} {t : List Int} {h : AHeap}
theorem qAf9 {z : PV} {n : Int} : asrA 103 (some z) (Lf n) true = some (okTup true z false) := by simp [asrA, dynOf, okTup]
abbrev KS (sig : List Symbol) (t : List Int) (p : Int) (id : Nat) (U K : PV) (n j : Int) (h : AHeap) : St := ⟨[(0, .d (.rd (sig.map qb9))), (1, .d (.rd (t.map intD))), (2, PI p), (6, .im true []), (7, PI 0), (8, In id), (10, PI 0), (11, .ptr id 0 0 0), (12, .d (.v (.bool true))), (13, U), (39, K), (40, PI n), (41, PI j)], h⟩
theorem qyC9 {s m : Int} {k : PV} {p j u w id kid v : Nat} {ks : List PV} {es : List (List PV)} (ho : h[kid]? = some (.row false v 1 (ks.map fun x => [x]))) (hj : ks[j]? = some k) (hu : h[u]? = some (.row false w 1 es)) (hs : SizeOk (h.set u (.row false (w + 1) 1 (es ++ [[PI (p : Int)]]))) k s) (hw : w64 ((p : Int) + s) = m) (hl : ks.length < 4611686018427387904) (hb : (es.length + 1) * 8 ≤ 140737488355328) :
    semA C (Lim C) 8254960745927 qjz9 (KS sig t p id (.ref u w 0 es.length) (.ref kid v 0 ks.length) ks.length j h) = some (.normal, KS sig t m id (.ref u (w + 1) 0 (es.length + 1)) (.ref kid v 0 ks.length) ks.length ((j + 1 : Nat) : Int) (h.set u (.row false (w + 1) 1 (es ++ [[PI (p : Int)]])))) := by
  obtain ⟨e1, e2⟩ := fk_ix ho hj
  have hlt0 := (List.getElem?_eq_some_iff.1 hj).1
  have hlt := eq_true (show (j : Int) < (ks.length : Int) by omega)
  have hw2 : w64 ((j : Int) + 1) = ((j + 1 : Nat) : Int) := by rw [qe9 (by omega) (by omega)]; omega
  have hb' := eq_true hb
  cases hs with
  | leaf m => simp +decide only [qjz9, qgZ9, qgW9, qgM9, qgL9, qgV9, qip9, qil9, qiF9, qib9, qiH9, qiw9, qiu9, qiv9, qiG9, qiq9, qgQ9, go_sem, ho, e1, e2, hlt, hu, hb', List.take_length, hw, hw2, qfJ9, qfr9]
  | inner id' a' s K' hi => simp +decide only [qjz9, qgZ9, qgW9, qgM9, qgL9, qgV9, qip9, qil9, qiF9, qib9, qiH9, qiw9, qiu9, qiv9, qiG9, qiq9, qgQ9, go_sem, ho, e1, e2, hlt, hu, hb', List.take_length, hw, hw2, qeC9, qeN9 hi]
theorem qrj9 {p n j : Int} {id : Nat} {U K : PV} (hj : ¬ j < n) : semA C (Lim C) 8254960745927 qjz9 (KS sig t p id U K n j h) = some (.exit 0, KS sig t p id U K n j h) := by
  have hlt := eq_false hj
  simp +decide only [qjz9, qgZ9, qgW9, qgM9, qgL9, qgV9, qip9, qil9, qiF9, qib9, qiH9, qiw9, qiu9, qiv9, qiG9, qiq9, qgQ9, go_sem, hlt]
theorem qvO9 {S : Nat → Prop} {id kid v u : Nat} {ks : List PV} (hr : qg9 sig t = 0) (hb : t.length * 8 ≤ 140737488355328) (hl : ks.length < 4611686018427387904) (hSu : ¬ S u) (hSk : S kid) : ∀ (xs : List PV) (i j e w : Nat) (l : List Int) (h : AHeap), ks.drop j = xs → Forest sig t S h xs i e → i ≤ t.length → l.length ≤ i → h[kid]? = some (.row false v 1 (ks.map fun x => [x])) → h[u]? = some (.row false w 1 (rowP intD l)) →
    ∃ (w' j' : Nat) (h' : AHeap), qbd9 (semA C (Lim C) 8254960745927 qjz9) (KS sig t i id (.ref u w 0 l.length) (.ref kid v 0 ks.length) ks.length j h) = some (.exit 0, KS sig t e id (.ref u w' 0 (l ++ kidsP sig t i xs.length).length) (.ref kid v 0 ks.length) ks.length j' h') ∧ h'[u]? = some (.row false w' 1 (rowP intD (l ++ kidsP sig t i xs.length))) := by
  intro xs
  induction xs with
  | nil =>
    intro i j e w l h hd hf h1 h2 ho hu
    cases hf
    have hj : ks.length ≤ j := List.drop_eq_nil_iff.1 hd
    refine ⟨w, j, h, ?_, ?_⟩
    · simp only [List.length_nil, kidsP, List.append_nil]
      exact qfD9 (qrj9 (by omega)) (by nofun)
    · simp only [List.length_nil, kidsP, List.append_nil]
      exact hu
  | cons k xs ih =>
    intro i j e w l h hd hf h1 h2 ho hu
    have hj : ks[j]? = some k := by
      have := congrArg (fun l => l[0]?) hd
      simpa using this
    have hd' : ks.drop (j + 1) = xs := by
      have := congrArg List.tail hd
      simpa using this
    obtain ⟨m, f1, f2, him⟩ : ∃ m, Forest sig t S h [k] i m ∧ Forest sig t S h xs m e ∧ i < m := by
      cases hf with
      | leaf _ _ _ c hc hn hf => exact ⟨i + 1, .leaf [] i _ c hc hn (.nil _), hf, by omega⟩
      | node _ ks' _ m _ c id s K hc hs hS ho hK hl hk hf => exact ⟨m, .node [] ks' i m _ c id s K hc hs hS ho hK hl hk (.nil _), hf, by have := hk.le; omega⟩
    have hm := f1.top h1
    have hend := f1.end hr hm
    have hmono : ∀ o, ∀ id', S id' → S id' ∧ (h.set u o)[id']? = h[id']? := fun o id' hs => ⟨hs, List.getElem?_set_ne (fun q : u = id' => hSu (q ▸ hs))⟩
    have hs := (f1.mono (hmono (.row false (w + 1) 1 (rowP intD l ++ [[PI (i : Int)]])))).size
    have hw : w64 ((i : Int) + ((m : Int) - i)) = (m : Int) := by rw [qe9 (by omega) (by omega)]; omega
    have hlen : (rowP intD l).length = l.length := qmP9
    have st := qyC9 (sig := sig) (t := t) (id := id) ho hj hu hs hw hl (by rw [hlen]; omega)
    have hul : u < h.length := (List.getElem?_eq_some_iff.1 hu).1
    have hap : rowP intD l ++ [[PI (i : Int)]] = rowP intD (l ++ [(i : Int)]) := by rw [qsm9]; rfl
    rw [hlen, hap, show l.length + 1 = (l ++ [(i : Int)]).length by simp] at st
    obtain ⟨w', j', h', q1, q2⟩ := ih m (j + 1) e (w + 1) (l ++ [(i : Int)]) _ hd' (f2.mono (hmono (.row false (w + 1) 1 (rowP intD (l ++ [(i : Int)]))))) hm (by simp; omega) (by rw [List.getElem?_set_ne (fun q : u = kid => hSu (q ▸ hSk))]; exact ho) (List.getElem?_set_self hul)
    have hk : l ++ kidsP sig t i (k :: xs).length = (l ++ [(i : Int)]) ++ kidsP sig t m xs.length := by
      rw [List.length_cons, kidsP, hend, List.append_assoc]; rfl
    rw [hk]
    exact ⟨w', j', h', qjq9 st q1, q2⟩
theorem Forest.count {S : Nat → Prop} {xs : List PV} {p q : Nat} (hf : Forest sig t S h xs p q) : p + xs.length ≤ q := by
  induction hf with
  | nil i => simp
  | leaf xs i e c hc hn hf ih => simp; omega
  | node xs ks i j e c id s K hc hs hS ho hK hl hk hf ih1 ih2 => have := hk.le; simp; omega
end
theorem qsI9 {sig : List Symbol} {t : List Int} {a : Int} {r : List Int × Int} (hr : qit9 sig t a = some r) : Res C 31 [.rd (sig.map qb9), .rd (t.map intD), .v (.int .i64 a)] (.tp [.d (.rd (r.1.map intD)), PI r.2]) := by
  unfold qit9 at hr
  obtain ⟨e, hp, hr⟩ := bsome hr
  refine run_V is31 (nbA rfl) ?_
  by_cases he : e = 0
  rotate_left
  · rw [if_neg he] at hr
    obtain rfl := oiA hr
    obtain ⟨h', hc⟩ := qmL9 hp he []
    have he' := eq_false he
    simp +decide only [c31, qgZ9, qgW9, qgM9, qgL9, qgV9, qip9, qil9, qiF9, qib9, qiH9, qiw9, qiu9, qiv9, qiG9, qiq9, qgQ9, go_sem, hc, he']
  subst he
  rw [if_pos rfl] at hr
  obtain rfl := oiA hr
  obtain ⟨n, x, U, h', rfl, hn, hb, ht, hc, hf, h3, h4, _⟩ := qnL9 hp []
  rw [Int.toNat_natCast]
  generalize hE : endT sig t n = E at hf h3 h4
  cases hf with
  | leaf _ _ _ c hc' hn' hf' =>
    have hk : kidsP sig t (n + 1) (((t[n]?).map (arOf sig)).getD 0) = [] := by
      rw [hc', Option.map_some, Option.getD_some, show arOf sig c = 0 by unfold arOf; rw [if_neg (by omega)]]; rfl
    rw [hk]
    simp +decide only [c31, qgZ9, qgW9, qgM9, qgL9, qgV9, qip9, qil9, qiF9, qib9, qiH9, qiw9, qiu9, qiv9, qiG9, qiq9, qgQ9, go_sem, hc, qAf9, okTup]
  | node _ ks _ j _ c id s K hc' hs' hS ho hK hl hk hf' =>
    cases hf'
    have har : ((t[n]?).map (arOf sig)).getD 0 = ks.length := by
      rw [hc', Option.map_some, Option.getD_some]
      unfold arOf
      rw [if_pos (by omega), Int.toNat_natCast, hs', hl]; rfl
    have hw : w64 ((n : Int) + 1) = ((n + 1 : Nat) : Int) := by rw [qe9 (by omega) (by omega)]; omega
    have ho' : ∀ o, (h' ++ [o])[id]? = some (XO n ((E : Int) - n) K) := fun o => by rw [List.getElem?_append_left hS.2]; exact ho
    rw [har]
    have hget : (h' ++ [AObj.row false 0 1 []])[h'.length]? = some (.row false 0 1 []) := by simp
    cases hK with
    | none =>
      have lv := qfD9 (qrj9 (sig := sig) (t := t) (p := ((n + 1 : Nat) : Int)) (n := 0) (j := 0) (id := id) (U := .ref h'.length 0 0 0) (K := .im true []) (h := h' ++ [AObj.row false 0 1 []]) (by omega)) (by nofun)
      simp +decide only [c31, qgZ9, qgW9, qgM9, qgL9, qgV9, qip9, qil9, qiF9, qib9, qiH9, qiw9, qiu9, qiv9, qiG9, qiq9, qgQ9, go_sem, hc, qrB9, okTup, hw, ho', lv, opNil, hget, List.length_nil, kidsP]
    | row kid v ks hSk hok =>
      have hc0 := hk.count
      have f2 : Forest sig t (fun id => ([] : AHeap).length < id ∧ id < h'.length) (h' ++ [AObj.row false 0 1 []]) ks (n + 1) E := hk.mono fun id' hid => ⟨hid, List.getElem?_append_left hid.2⟩
      obtain ⟨w', j', h2, q1, q2⟩ := qvO9 (id := id) (v := v) (u := h'.length) (kid := kid) ht hb (by omega) (fun q => by omega) hSk ks (n + 1) 0 E 0 [] _ rfl f2 (by omega) (Nat.zero_le _) (by rw [List.getElem?_append_left hSk.2]; exact hok) hget
      rw [List.nil_append, List.length_nil, show ((0 : Nat) : Int) = 0 from rfl] at q1
      rw [List.nil_append] at q2
      simp +decide only [c31, qgZ9, qgW9, qgM9, qgL9, qgV9, qip9, qil9, qiF9, qib9, qiH9, qiw9, qiu9, qiv9, qiG9, qiq9, qgQ9, go_sem, hc, qrB9, okTup, hw, ho', q1, opNil, hget, q2]

def lb8_2 : ACode := .seq (.seq (.reg [] [] [.M 84 14, .M 85 13, .T 86 (.len (.tmp 85)), .K 87 (.bin .lss (.tmp 84) (.tmp 86))]) (.cond (.tmp 87) (some 87) (.skip) (.exit 4))) (.seq (.block 5 935361137094779929420783572477765594758741701394432 (.seq (.seq (.reg [] [] [.M 90 7, .M 91 6, ⟨some (92, false), .len (.tmp 91), none, true, false⟩, .T 93 (.bin .geq (.tmp 90) (.tmp 92)), .M 94 93, .MG 95 94 false 6, .MG 96 94 false 7, ⟨some (97, false), .ix 2 (.tmp 95) (.tmp 96), some (94, false), true, false⟩, .TG 98 94 false (.fa 0 (.tmp 97)), ⟨some (99, false), .load none (.tmp 98), some (94, false), true, false⟩, .MG 100 94 false 13, .MG 101 94 false 14, ⟨some (102, false), .ix 2 (.tmp 100) (.tmp 101), some (94, false), true, false⟩, .TG 103 94 false (.fa 0 (.tmp 102)), ⟨some (104, false), .load none (.tmp 103), some (94, false), true, false⟩, .MG 105 94 false 8, .MG 106 94 false 10, ⟨some (107, false), .ix 1 (.tmp 105) (.tmp 106), some (94, false), true, false⟩, ⟨some (108, false), .load none (.tmp 107), some (94, false), true, false⟩, .TG 109 94 false (.bin .add (.tmp 104) (.tmp 108)), .TG 110 94 false (.bin .neq (.tmp 99) (.tmp 109)), .T 111 (.pick (.tmp 94) (.const (.bool true)) (.tmp 110)), .M 112 111, .MG 113 112 false 6, .MG 114 112 false 7, ⟨some (115, false), .ix 2 (.tmp 113) (.tmp 114), some (112, false), true, false⟩, .TG 116 112 false (.fa 1 (.tmp 115)), ⟨some (117, false), .load none (.tmp 116), some (112, false), true, false⟩, .MG 118 112 false 13, .MG 119 112 false 14, ⟨some (120, false), .ix 2 (.tmp 118) (.tmp 119), some (112, false), true, false⟩, .TG 121 112 false (.fa 1 (.tmp 120)), ⟨some (122, false), .load none (.tmp 121), some (112, false), true, false⟩, .TG 123 112 false (.bin .neq (.tmp 117) (.tmp 122)), .K 124 (.pick (.tmp 112) (.const (.bool true)) (.tmp 123))]) (.cond (.tmp 124) (some 124) (.seq (.reg [] [] [.K 4 (.mv (.const (.bool false)))]) (.ret)) (.skip))) (.seq (.reg [] [] [⟨some (126, false), .load (some 2) (.tmp 2), none, true, false⟩, .M 127 11, .M 128 13, .M 129 14, ⟨some (130, false), .ix 2 (.tmp 128) (.tmp 129), none, true, false⟩, ⟨some (131, false), .load (some 2) (.tmp 130), none, true, false⟩, ⟨some (132, false), .call 18 [.tmp 126, .tmp 127, .tmp 131], none, true, false⟩, .M 125 132, .T 133 (.ext (.tmp 125) 0), .T 134 (.ext (.tmp 125) 1), .N 15 133, .N 16 134]) (.seq (.reg [] [] [⟨some (136, false), .load (some 2) (.tmp 2), none, true, false⟩, .M 137 1, .M 138 6, .M 139 7, ⟨some (140, false), .ix 2 (.tmp 138) (.tmp 139), none, true, false⟩, ⟨some (141, false), .load (some 2) (.tmp 140), none, true, false⟩, ⟨some (142, false), .call 18 [.tmp 136, .tmp 137, .tmp 141], none, true, false⟩, .M 135 142, .T 143 (.ext (.tmp 135) 0), .T 144 (.ext (.tmp 135) 1), .N 17 143, .N 18 144]) (.seq (.seq (.reg [] [] [.M 145 16, .K 146 (.bin .eql (.tmp 145) (cI 0))]) (.cond (.tmp 146) (some 146) (.seq (.reg [] [] [.T 148 (.fa 0 (.tmp 2)), ⟨some (149, false), .load none (.tmp 148), none, true, false⟩, .M 150 1, .M 151 8, .M 152 10, ⟨some (153, false), .ix 1 (.tmp 151) (.tmp 152), none, true, false⟩, ⟨some (154, false), .load none (.tmp 153), none, true, false⟩, .M 155 15, ⟨some (156, false), .call 33 [.tmp 149, .tmp 150, .tmp 154, .tmp 155], none, true, false⟩, .M 147 156, .T 157 (.ext (.tmp 147) 0), .T 158 (.ext (.tmp 147) 1), .N 19 157, .N 20 158]) (.seq (.reg [] [] [.M 159 18, .M 160 20, .T 161 (.bin .neq (.tmp 159) (.tmp 160)), .M 162 161, .MG 163 162 false 17, .MG 164 162 false 19, .TG 165 162 false (.call 17 [.tmp 163, .tmp 164]), .TG 166 162 false (.not (.tmp 165)), .K 167 (.pick (.tmp 162) (.const (.bool true)) (.tmp 166))]) (.cond (.tmp 167) (some 167) (.seq (.reg [] [] [.K 4 (.mv (.const (.bool false)))]) (.ret)) (.skip)))) (.seq (.reg [] [] [.M 168 18, .K 169 (.bin .neq (.tmp 168) (cI 2))]) (.cond (.tmp 169) (some 169) (.seq (.reg [] [] [.K 4 (.mv (.const (.bool false)))]) (.ret)) (.skip))))) (.reg [] [] [.M 170 7, .T 171 (.bin .add (.tmp 170) (cI 1)), .N 7 171])))))) (.reg [] [] [.M 88 14, .T 89 (.bin .add (.tmp 88) (cI 1)), .N 14 89]))
def lb8_1 : ACode := .seq (.seq (.reg [] [] [.M 62 10, .M 63 8, .T 64 (.len (.tmp 63)), .K 65 (.bin .lss (.tmp 62) (.tmp 64))]) (.cond (.tmp 65) (some 65) (.skip) (.exit 2))) (.seq (.block 3 935361137094779929420783573686728307861518295234560 (.seq (.reg [] [] [.T 69 (.fa 0 (.tmp 2)), ⟨some (70, false), .load none (.tmp 69), none, true, false⟩, .M 71 1, .M 72 8, .M 73 10, ⟨some (74, false), .ix 1 (.tmp 72) (.tmp 73), none, true, false⟩, ⟨some (75, false), .load none (.tmp 74), none, true, false⟩, ⟨some (76, false), .call 32 [.tmp 70, .tmp 71, .tmp 75], none, true, false⟩, .M 68 76, .T 77 (.ext (.tmp 68) 0), .T 78 (.ext (.tmp 68) 1), .N 11 77, .N 12 78]) (.seq (.seq (.reg [] [] [.M 79 12, .K 80 (.bin .neq (.tmp 79) (cI 0))]) (.cond (.tmp 80) (some 80) (.seq (.reg [] [] [.K 4 (.mv (.const (.bool false)))]) (.ret)) (.skip))) (.seq (.reg [] [] [.T 81 (.load (some 2) (.tmp 2)), .M 82 11, .T 83 (.call 14 [.tmp 81, .tmp 82]), .N 13 83]) (.seq (.reg [] [] [.K 14 (.mv (cI 0))]) (.block 4 935361137094779929420783573686728307861518295234560 (.loop lb8_2))))))) (.reg [] [] [.M 66 10, .T 67 (.bin .add (.tmp 66) (cI 1)), .N 10 67]))
def lb8_0 : ACode := .seq (.seq (.reg [] [] [.M 39 7, .M 40 6, .T 41 (.len (.tmp 40)), .T 42 (.bin .lss (.tmp 39) (.tmp 41)), .M 43 42, .MG 44 43 true 6, .MG 45 43 true 7, .TG 46 43 true (.ix 2 (.tmp 44) (.tmp 45)), .TG 47 43 true (.fa 0 (.tmp 46)), .TG 48 43 true (.load none (.tmp 47)), .TG 49 43 true (.bin .eql (.tmp 48) (cI 0)), .K 50 (.pick (.tmp 43) (.tmp 49) (.const (.bool false)))]) (.cond (.tmp 50) (some 50) (.skip) (.exit 0))) (.block 1 1125899906842624 (.reg [] [] [.M 51 7, .T 52 (.bin .add (.tmp 51) (cI 1)), .N 7 52]))
def c8 : ACode := .seq (.reg [] [] [.K 2 (.box (.tmp 0)), .K 4 (.mv (.const (.bool false)))]) (.seq (.reg [] [] [.T 21 (.call 13 []), .N 5 21]) (.seq (.seq (.reg [] [] [.M 22 5, .K 23 (.not (.tmp 22))]) (.cond (.tmp 23) (some 23) (.seq (.reg [] [] [.K 4 (.mv (.const (.bool false)))]) (.ret)) (.skip))) (.seq (.seq (.reg [] [] [.T 24 (.load (some 2) (.tmp 2)), .M 25 1, .T 26 (.call 30 [.tmp 24, .tmp 25]), .K 27 (.not (.tmp 26))]) (.cond (.tmp 27) (some 27) (.seq (.reg [] [] [.M 28 5, .M 29 28, .TG 30 29 true (.load (some 2) (.tmp 2)), .MG 31 29 true 1, .TG 32 29 true (.call 14 [.tmp 30, .tmp 31]), .TG 33 29 true (.len (.tmp 32)), .TG 34 29 true (.bin .eql (.tmp 33) (cI 0)), .T 35 (.pick (.tmp 29) (.tmp 34) (.const (.bool false))), .N 4 35]) (.ret)) (.skip))) (.seq (.reg [] [] [.T 36 (.load (some 2) (.tmp 2)), .M 37 1, .T 38 (.call 14 [.tmp 36, .tmp 37]), .N 6 38]) (.seq (.reg [] [] [.K 7 (.mv (cI 0))]) (.seq (.block 0 1125899906842624 (.loop lb8_0)) (.seq (.reg [] [] [.T 54 (.fa 0 (.tmp 2)), .T 55 (.load none (.tmp 54)), .M 56 1, .T 57 (.call 31 [.tmp 55, .tmp 56, .const (.int .i64 0)]), .M 53 57, .T 58 (.ext (.tmp 53) 0), .T 59 (.ext (.tmp 53) 1), .N 8 58, .N 9 59]) (.seq (.seq (.reg [] [] [.M 60 9, .K 61 (.bin .neq (.tmp 60) (cI 0))]) (.cond (.tmp 61) (some 61) (.seq (.reg [] [] [.K 4 (.mv (.const (.bool false)))]) (.ret)) (.skip))) (.seq (.seq (.reg [] [] [.K 10 (.mv (cI 0))]) (.block 2 935361137094779929420783573686728307861518295234560 (.loop lb8_1))) (.seq (.reg [] [] [.M 172 5, .M 173 172, .MG 174 173 true 7, .MG 175 173 true 6, .TG 176 173 true (.len (.tmp 175)), .TG 177 173 true (.bin .eql (.tmp 174) (.tmp 176)), .T 178 (.pick (.tmp 173) (.tmp 177) (.const (.bool false))), .N 4 178]) (.ret)))))))))))
theorem is8 : IsF C 8 179 935361137094779929420783573686730614830427558379511 c8 [.tmp 4] := ⟨⟨Tryd.f8, _, C_P ▸ Tryd.func8, rfl, rfl, rfl, by kernel_rfl, rfl⟩⟩
def qeD9 (s0 : System) (s1 : List Int) (s5 : Bool) (s6 : List Redex) (s8 : List Int) (s9 : Int) (s10 : Int) (s11 : List Int) (s12 : Int) (s13 : List Redex) (b2_0 : List Symbol) (b2_1 : List Rule) : Int × Int → Unit → St := fun (s7, s14) _ => ⟨[(0, .d (.ag (qf9 s0))), (1, .d (.rd (s1.map intD))), (2, .ptr 0 0 0 0), (4, PB false), (5, PB s5), (6, .d (.rd (s6.map qp9))), (7, PI s7), (8, .d (.rd (s8.map intD))), (9, PI s9), (10, PI s10), (11, .d (.rd (s11.map intD))), (12, PI s12), (13, .d (.rd (s13.map qp9))), (14, PI s14)], (.row false 0 2 [[.d (.rd (b2_0.map qb9)), .d (.rd (b2_1.map qd9))]] :: [])⟩
def qmv9 (s0 : System) (s1 : List Int) (s5 : Bool) (s6 : List Redex) (s8 : List Int) (s9 : Int) (s10 : Int) (s11 : List Int) (s12 : Int) (s13 : List Redex) (b2_0 : List Symbol) (b2_1 : List Rule) : (Bool ⊕ Int) → AExit × St → Prop
  | .inl r, q => XV C [.tmp 4] (PB r) q
  | .inr s7, q => ∃ d11 : PV, ∃ d12 : PV, ∃ d13 : PV, ∃ d14 : PV, q = (.exit 4, ⟨[(0, .d (.ag (qf9 s0))), (1, .d (.rd (s1.map intD))), (2, .ptr 0 0 0 0), (4, PB false), (5, PB s5), (6, .d (.rd (s6.map qp9))), (7, PI s7), (8, .d (.rd (s8.map intD))), (9, PI s9), (10, PI s10), (11, d11), (12, d12), (13, d13), (14, d14)], (.row false 0 2 [[.d (.rd (b2_0.map qb9)), .d (.rd (b2_1.map qd9))]] :: [])⟩)
theorem qmI9 {s0 : System} {s1 : List Int} {s5 : Bool} {s6 : List Redex} {s8 : List Int} {s9 : Int} {s10 : Int} {s11 : List Int} {s12 : Int} {s13 : List Redex} {b2_0 : List Symbol} {b2_1 : List Rule} : Sim C 935361137094779929420783573686730614830427558379511 lb8_2 (qcs9 s0 s1 s5 s6 s8 s9 s10 s11 s12 s13 b2_0 b2_1) (qeD9 s0 s1 s5 s6 s8 s9 s10 s11 s12 s13 b2_0 b2_1) (qmv9 s0 s1 s5 s6 s8 s9 s10 s11 s12 s13 b2_0 b2_1) := by
  intro s g r hr
  obtain ⟨s7, s14⟩ := s
  simp only [qcs9] at hr
  rcases iteP hr with ⟨h1, hr⟩ | ⟨h1, hr⟩
  rcases iteP hr with ⟨h2, hr⟩ | ⟨h2, hr⟩
  obtain rfl := oiA hr
  refine xv_of ?_
  rotate_left
  obtain ⟨x11, h3, x12, h4, x13, h5, hr⟩ := bs3 hr
  rcases iteP hr with ⟨h6, hr⟩ | ⟨h6, hr⟩
  rcases iteP hr with ⟨h7, hr⟩ | ⟨h7, hr⟩
  obtain ⟨x14, h8, x15, h9, hr⟩ := bs2 hr
  have h8k := fun h => (qgN9 h8).o rfl rfl rfl (h := h) (args := [.ag [.d (.rd (b2_0.map qb9)), .d (.rd (b2_1.map qd9))], .d (.rd (s11.map intD)), .ag [PI x12.At, PI x12.Rule]]) rfl
  try simp only [go_sem] at h8k
  have h9k := fun h => (qgN9 h9).o rfl rfl rfl (h := h) (args := [.ag [.d (.rd (b2_0.map qb9)), .d (.rd (b2_1.map qd9))], .d (.rd (s1.map intD)), .ag [PI x11.At, PI x11.Rule]]) rfl
  try simp only [go_sem] at h9k
  rcases iteP hr with ⟨h10, hr⟩ | ⟨h10, hr⟩
  obtain ⟨x16, h11, hr⟩ := bsome hr
  have h11k := (qoF9 h11).k rfl rfl rfl
  try simp only [go_sem] at h11k
  rcases iteP hr with ⟨h12, hr⟩ | ⟨h12, hr⟩
  obtain ⟨x17, h13, hr⟩ := bsome hr
  have h13k := (qlc9 h13).k rfl rfl rfl
  try simp only [go_sem] at h13k
  rcases iteB hr with ⟨h14, hr⟩ | ⟨h14, hr⟩
  obtain rfl := oiA hr
  refine ⟨(), ?_⟩
  rotate_left
  obtain rfl := oiA hr
  refine xv_of ?_
  rotate_left
  obtain rfl := oiA hr
  refine xv_of ?_
  rotate_left
  rcases iteP hr with ⟨h15, hr⟩ | ⟨h15, hr⟩
  obtain rfl := oiA hr
  refine ⟨(), ?_⟩
  rotate_left
  obtain rfl := oiA hr
  refine xv_of ?_
  rotate_left
  obtain rfl := oiA hr
  refine xv_of ?_
  rotate_left
  obtain rfl := oiA hr
  refine xv_of ?_
  rotate_left
  obtain rfl := oiA hr
  refine xe_of ⟨.d (.rd (s11.map intD)), PI s12, .d (.rd (s13.map qp9)), PI s14, rfl⟩ ?_
  rotate_left
  all_goals (simp +decide only [go_sem, qeD9, lb8_2, *])
def qdA9 (s0 : System) (s1 : List Int) (s5 : Bool) (s6 : List Redex) (s8 : List Int) (s9 : Int) (b2_0 : List Symbol) (b2_1 : List Rule) : Int × Int → Unit → St := fun (s7, s10) _ => ⟨[(0, .d (.ag (qf9 s0))), (1, .d (.rd (s1.map intD))), (2, .ptr 0 0 0 0), (4, PB false), (5, PB s5), (6, .d (.rd (s6.map qp9))), (7, PI s7), (8, .d (.rd (s8.map intD))), (9, PI s9), (10, PI s10)], (.row false 0 2 [[.d (.rd (b2_0.map qb9)), .d (.rd (b2_1.map qd9))]] :: [])⟩
def qmu9 (s0 : System) (s1 : List Int) (s5 : Bool) (s6 : List Redex) (s8 : List Int) (s9 : Int) (b2_0 : List Symbol) (b2_1 : List Rule) : (Bool ⊕ (Int × Int)) → AExit × St → Prop
  | .inl r, q => XV C [.tmp 4] (PB r) q
  | .inr (s7, s10), q => ∃ g, q = (.exit 2, qdA9 s0 s1 s5 s6 s8 s9 b2_0 b2_1 (s7, s10) g)
theorem qmJ9 {s0 : System} {s1 : List Int} {s5 : Bool} {s6 : List Redex} {s8 : List Int} {s9 : Int} {b2_0 : List Symbol} {b2_1 : List Rule} : Sim C 935361137094779929420783573686730614830427558379511 lb8_1 (qcJ9 s0 s1 s5 s6 s8 s9 b2_0 b2_1) (qdA9 s0 s1 s5 s6 s8 s9 b2_0 b2_1) (qmu9 s0 s1 s5 s6 s8 s9 b2_0 b2_1) := by
  intro s g r hr
  obtain ⟨s7, s10⟩ := s
  simp only [qcJ9] at hr
  rcases iteP hr with ⟨h1, hr⟩ | ⟨h1, hr⟩
  obtain ⟨x8, h2, x9, h3, hr⟩ := bs2 hr
  have h3k := (qtP9 h3).k rfl rfl rfl
  try simp only [go_sem] at h3k
  rcases iteP hr with ⟨h4, hr⟩ | ⟨h4, hr⟩
  obtain ⟨x10, h5, hr⟩ := bsome hr
  have h5k := fun h => (qjl9 h5).o rfl rfl rfl (h := h) (args := [.ag [.d (.rd (b2_0.map qb9)), .d (.rd (b2_1.map qd9))], .d (.rd (x9.1.map intD))]) rfl
  try simp only [go_sem] at h5k
  obtain ⟨x18, h6, hr⟩ := bsome hr
  obtain ⟨q6, h6L, h6X⟩ := qmI9.L (g := ()) h6
  rcases x18 with x19 | x20
  try dsimp only at hr
  obtain ⟨st6, rfl, h6R⟩ := h6X
  simp only [qeD9, go_sem] at h6L
  obtain rfl := oiA hr
  refine xv_of ?_
  rotate_left
  try dsimp only at hr
  obtain ⟨z21, z22, z23, z24, rfl⟩ := h6X
  simp only [qeD9, go_sem] at h6L
  obtain rfl := oiA hr
  refine ⟨(), ?_⟩
  rotate_left
  obtain rfl := oiA hr
  refine xv_of ?_
  rotate_left
  obtain rfl := oiA hr
  refine xe_of ⟨(), rfl⟩ ?_
  rotate_left
  all_goals (simp +decide only [go_sem, qdA9, lb8_1, *])
def qeJ9 (s0 : System) (s1 : List Int) (s5 : Bool) (s6 : List Redex) (b2_0 : List Symbol) (b2_1 : List Rule) : Int → Unit → St := fun s7 _ => ⟨[(0, .d (.ag (qf9 s0))), (1, .d (.rd (s1.map intD))), (2, .ptr 0 0 0 0), (4, PB false), (5, PB s5), (6, .d (.rd (s6.map qp9))), (7, PI s7)], (.row false 0 2 [[.d (.rd (b2_0.map qb9)), .d (.rd (b2_1.map qd9))]] :: [])⟩
def qmt9 (s0 : System) (s1 : List Int) (s5 : Bool) (s6 : List Redex) (b2_0 : List Symbol) (b2_1 : List Rule) : Int → AExit × St → Prop := fun s7 q => ∃ g, q = (.exit 0, qeJ9 s0 s1 s5 s6 b2_0 b2_1 s7 g)
theorem qmO9 {s0 : System} {s1 : List Int} {s5 : Bool} {s6 : List Redex} {b2_0 : List Symbol} {b2_1 : List Rule} : Sim C 935361137094779929420783573686730614830427558379511 lb8_0 (qbO9 s0 s1 s5 s6 b2_0 b2_1) (qeJ9 s0 s1 s5 s6 b2_0 b2_1) (qmt9 s0 s1 s5 s6 b2_0 b2_1) := by
  intro s g r hr
  have ⟨s7, hs0⟩ : ∃ y, y = s := ⟨_, rfl⟩
  subst hs0
  simp only [qbO9] at hr
  rcases iteP hr with ⟨h1, hr⟩ | ⟨h1, hr⟩
  obtain ⟨x4, h2, hr⟩ := bsome hr
  rcases iteP hr with ⟨h3, hr⟩ | ⟨h3, hr⟩
  obtain rfl := oiA hr
  refine ⟨(), ?_⟩
  rotate_left
  obtain rfl := oiA hr
  refine xe_of ⟨(), rfl⟩ ?_
  rotate_left
  obtain rfl := oiA hr
  refine xe_of ⟨(), rfl⟩ ?_
  rotate_left
  all_goals (simp +decide only [go_sem, qeJ9, lb8_0, *])
theorem qnx9 {a0 : System} {a1 : List Int} {r : Bool} (hr : qeQ9 a0 a1 = some r) : Res C 8 [.ag (qf9 a0), .rd (a1.map intD)] (PB r) := by
  simp only [qeQ9] at hr
  obtain ⟨x1, h1, hr⟩ := bsome hr
  have h1k := (qtb9 h1).k rfl rfl rfl
  try simp only [go_sem] at h1k
  rcases iteB hr with ⟨h2, hr⟩ | ⟨h2, hr⟩
  simp only [h2] at hr
  obtain ⟨x2, h3, hr⟩ := bsome hr
  have h3k := fun h => (qsJ9 h3).o rfl rfl rfl (h := h) (args := [.ag [.d (.rd (a0.Sig.map qb9)), .d (.rd (a0.Rules.map qd9))], .d (.rd (a1.map intD))]) rfl
  try simp only [go_sem] at h3k
  rcases iteB hr with ⟨h4, hr⟩ | ⟨h4, hr⟩
  obtain ⟨x3, h5, hr⟩ := bsome hr
  have h5k := fun h => (qjl9 h5).o rfl rfl rfl (h := h) (args := [.ag [.d (.rd (a0.Sig.map qb9)), .d (.rd (a0.Rules.map qd9))], .d (.rd (a1.map intD))]) rfl
  try simp only [go_sem] at h5k
  obtain ⟨x5, h6, hr⟩ := bsome hr
  obtain ⟨q6, h6L, h6X⟩ := qmO9.L (g := ()) h6
  have ⟨x6, hq6⟩ : ∃ y, y = x5 := ⟨_, rfl⟩
  subst hq6
  try dsimp only at hr
  obtain ⟨⟨⟩, rfl⟩ := h6X
  simp only [qeJ9, go_sem] at h6L
  obtain ⟨x7, h7, hr⟩ := bsome hr
  have h7k := (qsI9 h7).k rfl rfl rfl
  try simp only [go_sem] at h7k
  rcases iteP hr with ⟨h8, hr⟩ | ⟨h8, hr⟩
  obtain ⟨x25, h9, hr⟩ := bsome hr
  obtain ⟨q9, h9L, h9X⟩ := qmJ9.L (g := ()) h9
  rcases x25 with x26 | ⟨x27, x28⟩
  try dsimp only at hr
  obtain ⟨st9, rfl, h9R⟩ := h9X
  simp only [qdA9, go_sem] at h9L
  obtain rfl := oiA hr
  refine run_V is8 (nbA rfl) ?_
  rotate_left
  try dsimp only at hr
  obtain ⟨⟨⟩, rfl⟩ := h9X
  simp only [qdA9, go_sem] at h9L
  obtain rfl := oiA hr
  refine run_V is8 (nbA rfl) ?_
  rotate_left
  obtain rfl := oiA hr
  refine run_V is8 (nbA rfl) ?_
  rotate_left
  obtain ⟨x29, h10, hr⟩ := bsome hr
  have h10k := fun h => (qjl9 h10).o rfl rfl rfl (h := h) (args := [.ag [.d (.rd (a0.Sig.map qb9)), .d (.rd (a0.Rules.map qd9))], .d (.rd (a1.map intD))]) rfl
  try simp only [go_sem] at h10k
  obtain rfl := oiA hr
  refine run_V is8 (nbA rfl) ?_
  rotate_left
  obtain rfl := oiA hr
  refine run_V is8 (nbA rfl) ?_
  rotate_left
  all_goals (simp +decide only [go_sem, c8, *])
end Ld

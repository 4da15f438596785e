import Derived.Test.YtfjgfcnhklopdaaDoorWNW1
set_option maxHeartbeats 4000000
set_option linter.unusedVariables false
set_option linter.unusedSimpArgs false
namespace Ld
open Go Go.Proofs Go.Abs
set_option maxRecDepth 8000
def qeK9 : ACode := .reg [] [] [.K 89 (.bin .lss (.tmp 88) (.tmp 87))]
def qeG9 : ACode := .reg [] [] [.M 90 0, .T 91 (.call 132 [.tmp 90]), .N 5 91]
def qda9 : ACode := .reg [] [] [.M 92 4, .M 93 4, .T 94 (.nilC (.tmp 93)), .T 95 (.fa 2 (.tmp 94)), .T 96 (.load none (.tmp 95)), .M 97 5, .T 98 (.lit 1 [(0, .tmp 97)]), .T 99 (.app 1 16 (.tmp 96) (.tmp 98)), .T 100 (.nilC (.tmp 92)), .T 101 (.fa 2 (.tmp 100)), ⟨none, .store 1 (.tmp 101) (.tmp 99), none, false, false⟩]
def qdC9 : ACode := .reg [] [] [.M 102 4, .T 103 (.nilC (.tmp 102)), .T 104 (.fa 1 (.tmp 103)), ⟨some (105, false), .load none (.tmp 104), none, true, false⟩, .M 106 5, ⟨some (107, false), .inv (.tmp 106) "lodestone/term.size" [], none, true, false⟩, .T 108 (.bin .add (.tmp 105) (.tmp 107)), .T 109 (.nilC (.tmp 102)), .T 110 (.fa 1 (.tmp 109)), ⟨none, .store 1 (.tmp 110) (.tmp 108), none, false, false⟩]
def qfO9 : ACode := .reg [] [] [.T 111 (.bin .add (.tmp 88) (cI 1)), .N 88 111]
def qgT9 : ACode := .reg [] [] [.K 2 (.mv (.const Go.Value.nilIface))]
def qgI9 : ACode := .reg [] [] [.M 7 0, .T 8 (.nilC (.tmp 7)), .T 9 (.fa 3 (.tmp 8)), .T 10 (.load none (.tmp 9)), .T 11 (.bin .neq (.tmp 10) (cI 0)), .N 6 11]
def qgC9 : ACode := .reg [] [] [.T 12 (.mkI 183 (cI 0)), .N 2 12]
def qgA9 : ACode := .reg [] [] [.M 14 0, .T 15 (.nilC (.tmp 14)), .T 16 (.fa 2 (.tmp 15)), ⟨some (17, false), .load none (.tmp 16), none, true, false⟩, .M 18 0, .T 19 (.nilC (.tmp 18)), .T 20 (.fa 1 (.tmp 19)), ⟨some (21, false), .load none (.tmp 20), none, true, false⟩, ⟨some (22, false), .len (.tmp 21), none, true, false⟩, .T 23 (.bin .eql (.tmp 17) (.tmp 22)), .N 13 23]
def qgB9 : ACode := .reg [] [] [.M 24 0, .T 25 (.nilC (.tmp 24)), .T 26 (.fa 3 (.tmp 25)), ⟨none, .store 1 (.tmp 26) (cI 31), none, false, false⟩]
def qgP9 : ACode := .reg [] [] [.T 27 (.mkI 183 (cI 0)), .N 2 27]
def qgF9 : ACode := .reg [] [] [.M 28 0, .T 29 (.nilC (.tmp 28)), .T 30 (.fa 1 (.tmp 29)), ⟨some (31, false), .load none (.tmp 30), none, true, false⟩, .M 32 0, .T 33 (.nilC (.tmp 32)), .T 34 (.fa 2 (.tmp 33)), ⟨some (35, false), .load none (.tmp 34), none, true, false⟩, ⟨some (36, false), .ix 1 (.tmp 31) (.tmp 35), none, true, false⟩, ⟨some (37, false), .load none (.tmp 36), none, true, false⟩, .N 3 37]
def qgG9 : ACode := .reg [] [] [.M 39 3, .M 40 0, .T 41 (.nilC (.tmp 40)), .T 42 (.fa 0 (.tmp 41)), .T 43 (.load none (.tmp 42)), .T 44 (.len (.tmp 43)), .T 45 (.bin .geq (.tmp 39) (.tmp 44)), .M 46 45, .MG 47 46 false 3, .TG 48 46 false (.bin .lss (.tmp 47) (cI (-1048576))), .T 49 (.pick (.tmp 46) (.const (.bool true)) (.tmp 48)), .N 38 49]
def qgH9 : ACode := .reg [] [] [.M 50 0, .T 51 (.nilC (.tmp 50)), .T 52 (.fa 3 (.tmp 51)), ⟨none, .store 1 (.tmp 52) (cI 30), none, false, false⟩]
def qgM9 : ACode := .reg [] [] [.T 53 (.mkI 183 (cI 0)), .N 2 53]
def qfJ9 : ACode := .reg [] [] [.M 55 3, .T 56 (.bin .lss (.tmp 55) (cI 0)), .N 54 56]
def qfK9 : ACode := .reg [] [] [.M 57 0, .T 58 (.nilC (.tmp 57)), .T 59 (.fa 2 (.tmp 58)), .T 60 (.load none (.tmp 59)), .T 61 (.bin .add (.tmp 60) (cI 1)), .T 62 (.nilC (.tmp 57)), .T 63 (.fa 2 (.tmp 62)), ⟨none, .store 1 (.tmp 63) (.tmp 61), none, false, false⟩]
def qfL9 : ACode := .reg [] [] [.M 64 3, .T 65 (.bin .sub (cI (-1)) (.tmp 64)), .T 66 (.mkI 183 (.tmp 65)), .N 2 66]
def qfN9 : ACode := .reg [] [] [.M 67 0, .T 68 (.nilC (.tmp 67)), .T 69 (.fa 2 (.tmp 68)), .T 70 (.load none (.tmp 69)), .T 71 (.build [(0, 1), (1, 1), (2, 1)] [.d (.v (.int .i64 0)), .d (.v (.int .i64 0)), .im true []] [(0, .tmp 70), (1, .const (.int .i64 1))]), .T 72 (.box (.tmp 71)), .N 4 72]
def qfM9 : ACode := .reg [] [] [.M 73 0, .T 74 (.nilC (.tmp 73)), .T 75 (.fa 2 (.tmp 74)), .T 76 (.load none (.tmp 75)), .T 77 (.bin .add (.tmp 76) (cI 1)), .T 78 (.nilC (.tmp 73)), .T 79 (.fa 2 (.tmp 78)), ⟨none, .store 1 (.tmp 79) (.tmp 77), none, false, false⟩]
def qfP9 : ACode := .reg [] [] [.M 80 0, .T 81 (.nilC (.tmp 80)), .T 82 (.fa 0 (.tmp 81)), .T 83 (.load none (.tmp 82)), .M 84 3, .T 85 (.ix 2 (.tmp 83) (.tmp 84)), .T 86 (.fa 1 (.tmp 85)), .K 87 (.load none (.tmp 86)), .K 88 (.mv (cI 0))]
def qfS9 : ACode := .reg [] [] [.M 112 4, .T 113 (.mkI 103 (.tmp 112)), .N 2 113]
def qgK9 : ACode := .seq (qeK9) (.seq (.cond (.tmp 89) (some 89) (.skip) (.exit 2)) (.seq (.block 3 618970019642690137449562144 (.seq (qeG9) (.seq (qda9) (qdC9)))) (qfO9)))
def c132 : ACode := .seq (qgT9) (.seq (.block 0 8256 (.seq (qgI9) (.cond (.tmp 6) (some 6) (.seq (qgC9) (.ret)) (.seq (qgA9) (.cond (.tmp 13) (some 13) (.seq (qgB9) (.seq (qgP9) (.ret))) (.skip)))))) (.seq (qgF9) (.seq (.block 1 18014673387388928 (.seq (qgG9) (.cond (.tmp 38) (some 38) (.seq (qgH9) (.seq (qgM9) (.ret))) (.seq (qfJ9) (.cond (.tmp 54) (some 54) (.seq (qfK9) (.seq (qfL9) (.ret))) (.skip)))))) (.seq (qfN9) (.seq (qfM9) (.seq (.seq (qfP9) (.block 2 618970019642690137449562144 (.loop qgK9))) (.seq (qfS9) (.ret))))))))
theorem is132 : IsF C 132 114 1083197534392722413924130941 c132 [.tmp 2] := ⟨⟨Tryd.f132, _, C_P ▸ Tryd.func132, rfl, rfl, rfl, by kernel_rfl, rfl⟩⟩
def qrP9 : ACode := .reg [] [] [.K 2 (.mv (cI 0))]
def qrR9 : ACode := .reg [] [] [.K 2 (.mv (cI 1))]
def c160 : ACode := .seq (qrP9) (.seq (qrR9) (.ret))
theorem is160 : IsF C 160 3 4 c160 [.tmp 2] := ⟨⟨Tryd.f160, _, C_P ▸ Tryd.func160, rfl, rfl, rfl, by kernel_rfl, rfl⟩⟩
def qrI9 : ACode := .reg [] [] [.K 2 (.mv (cI 0))]
def qrA9 : ACode := .reg [] [] [.M 3 0, .T 4 (.nilC (.tmp 3)), .T 5 (.fa 1 (.tmp 4)), .T 6 (.load none (.tmp 5)), .N 2 6]
def c157 : ACode := .seq (qrI9) (.seq (qrA9) (.ret))
theorem is157 : IsF C 157 7 5 c157 [.tmp 2] := ⟨⟨Tryd.f157, _, C_P ▸ Tryd.func157, rfl, rfl, rfl, by kernel_rfl, rfl⟩⟩
def qkj9 : ACode := .reg [] [] [.K 4 (.mv (.const Go.Value.nilIface)), .K 5 (.mv (cI 0))]
def qki9 : ACode := .reg [] [] [.M 8 0, .M 9 1, .T 10 (.build [(0, 1), (1, 1), (2, 1), (3, 1)] [.im true [], .im true [], .d (.v (.int .i64 0)), .d (.v (.int .i64 0))] [(0, .tmp 8), (1, .tmp 9)]), .T 11 (.box (.tmp 10)), .N 6 11]
def qkq9 : ACode := .reg [] [] [.M 12 6, .T 13 (.call 132 [.tmp 12]), .N 7 13]
def qku9 : ACode := .reg [] [] [.M 14 6, .T 15 (.nilC (.tmp 14)), .T 16 (.fa 3 (.tmp 15)), .T 17 (.load none (.tmp 16)), .T 18 (.bin .eql (.tmp 17) (cI 0)), .M 19 18, .MG 20 19 true 6, .TG 21 19 true (.nilC (.tmp 20)), .TG 22 19 true (.fa 2 (.tmp 21)), .TG 23 19 true (.load none (.tmp 22)), .MG 24 19 true 1, .TG 25 19 true (.len (.tmp 24)), .TG 26 19 true (.bin .lss (.tmp 23) (.tmp 25)), .K 27 (.pick (.tmp 19) (.tmp 26) (.const (.bool false)))]
def qkp9 : ACode := .reg [] [] [.M 28 6, .T 29 (.nilC (.tmp 28)), .T 30 (.fa 3 (.tmp 29)), ⟨none, .store 1 (.tmp 30) (cI 32), none, false, false⟩]
def qko9 : ACode := .reg [] [] [.M 31 7, .M 32 6, .T 33 (.nilC (.tmp 32)), .T 34 (.fa 3 (.tmp 33)), ⟨some (35, false), .load none (.tmp 34), none, true, false⟩, .N 4 31, .N 5 35]
def c113 : ACode := .seq (qkj9) (.seq (qki9) (.seq (qkq9) (.seq (.seq (qku9) (.cond (.tmp 27) (some 27) (qkp9) (.skip))) (.seq (qko9) (.ret)))))
theorem is113 : IsF C 113 36 134217971 c113 [.tmp 4, .tmp 5] := ⟨⟨Tryd.f113, _, C_P ▸ Tryd.func113, rfl, rfl, rfl, by kernel_rfl, rfl⟩⟩
def qoc9 : ACode := .reg [] [] [.K 4 (.mv (.const Go.Value.nilIface)), .K 5 (.mv (cI 0))]
def qpA9 : ACode := .reg [] [] [.M 7 0, .T 8 (.call 69 [.tmp 7]), .N 6 8]
def qof9 : ACode := .reg [] [] [.M 9 6, .K 10 (.bin .neq (.tmp 9) (cI 0))]
def qod9 : ACode := .reg [] [] [.M 11 6, .K 4 (.mv (.const Go.Value.nilIface)), .N 5 11]
def qpO9 : ACode := .reg [] [] [.M 12 0, .M 13 1, .T 14 (.call 113 [.tmp 12, .tmp 13]), .T 15 (.ext (.tmp 14) 0), .T 16 (.ext (.tmp 14) 1), .N 4 15, .N 5 16]
def c91 : ACode := .seq (qoc9) (.seq (.seq (qpA9) (.seq (qof9) (.cond (.tmp 10) (some 10) (.seq (qod9) (.ret)) (.skip)))) (.seq (qpO9) (.ret)))
theorem is91 : IsF C 91 17 1139 c91 [.tmp 4, .tmp 5] := ⟨⟨Tryd.f91, _, C_P ▸ Tryd.func91, rfl, rfl, rfl, by kernel_rfl, rfl⟩⟩
section
variable {sig : List Symbol} {t : List Int} {h : AHeap} {r : Nat}
abbrev RO (sig : List Symbol) (t : List Int) (a b : Int) : AObj := .row false 0 4 [[.d (.rd (sig.map qb9)), .d (.rd (t.map intD)), PI a, PI b]]
theorem quP9 : qez9 C.P 183 "lodestone/term.size" = some 160 := by kernel_rfl
theorem qsK9 : qez9 C.P 103 "lodestone/term.size" = some 157 := by kernel_rfl
theorem qtZ9 {n : Int} {h : AHeap} : callP C (Lim C) 160 [PI n] h = some (PI 1, h) := by
  refine qkv9 (ds := [.v (.int .i64 n)]) rfl rfl rfl ?_ h
  refine qtL9 is160 (nbA rfl) (q := (.ret, ⟨[(2, PI 1)], []⟩)) ?_ (.inr rfl) ⟨[PI 1], rfl, rfl⟩
  simp +decide only [c160, qrP9, qrR9, qL9, go_sem]
theorem qth9 {id : Nat} {a b : Int} {K : PV} (ho : h[id]? = some (.row false 0 3 [[PI a, PI b, K]])) : callP C (Lim C) 157 [.ptr id 0 0 0] h = some (PI b, h) := by
  have e : callP C (Lim C) 157 [.ptr id 0 0 0] h = Lim C 157 [.ptr id 0 0 0] h := rfl
  rw [e]
  refine Lim_A is157 (nbA rfl) (env := [(0, .ptr id 0 0 0), (2, PI b)]) (e := .ret) ?_ (.inr rfl) (vs := [PI b]) rfl
  simp +decide only [c157, qrI9, qrA9, qL9, go_sem, opNil, ho]
abbrev Lf (n : Int) : PV := .ifc 183 (PI n)
abbrev rdr (r : Nat) : PV := .ptr r 0 0 0
theorem rdA {a b : Int} (ho : h[r]? = some (RO sig t a b)) (hb : b ≠ 0) : Lim C 132 [rdr r] h = some (Lf 0, h) := by
  have hb' : (b = 0) = False := eq_false hb
  refine Lim_A is132 (nbA rfl) (env := [(0, rdr r), (2, Lf 0)]) (e := .ret) ?_ (.inr rfl) (vs := [Lf 0]) rfl
  simp +decide only [c132, qgT9, qgI9, qgC9, qgA9, qgB9, qgP9, qgF9, qgG9, qgH9, qgM9, qfJ9, qfK9, qfL9, qfN9, qfM9, qfP9, qeK9, qeG9, qda9, qdC9, qfO9, qfS9, qL9, go_sem, opNil, ho, hb']
theorem rdB {a : Int} (ho : h[r]? = some (RO sig t a 0)) (ha : a = (t.length : Int)) : Lim C 132 [rdr r] h = some (Lf 0, h.set r (RO sig t a 31)) := by
  have ha' : (a = (t.length : Int)) = True := eq_true ha
  refine Lim_A is132 (nbA rfl) (env := [(0, rdr r), (2, Lf 0)]) (e := .ret) ?_ (.inr rfl) (vs := [Lf 0]) rfl
  simp +decide only [c132, qgT9, qgI9, qgC9, qgA9, qgB9, qgP9, qgF9, qgG9, qgH9, qgM9, qfJ9, qfK9, qfL9, qfN9, qfM9, qfP9, qeK9, qeG9, qda9, qdC9, qfO9, qfS9, qL9, go_sem, opNil, ho, ha']
theorem rdC {a c : Int} (ho : h[r]? = some (RO sig t a 0)) (ha : a ≠ (t.length : Int)) (hx : idx t a = some c) (hc : (sig.length : Int) ≤ c ∨ c < -1048576) : Lim C 132 [rdr r] h = some (Lf 0, h.set r (RO sig t a 30)) := by
  have ha' : (a = (t.length : Int)) = False := eq_false ha
  refine Lim_A is132 (nbA rfl) (env := [(0, rdr r), (2, Lf 0), (3, PI c)]) (e := .ret) ?_ (.inr rfl) (vs := [Lf 0]) rfl
  rcases pcA ((sig.length : Int) ≤ c) with h1 | h1
  · simp +decide only [c132, qgT9, qgI9, qgC9, qgA9, qgB9, qgP9, qgF9, qgG9, qgH9, qgM9, qfJ9, qfK9, qfL9, qfN9, qfM9, qfP9, qeK9, qeG9, qda9, qdC9, qfO9, qfS9, qL9, go_sem, opNil, ho, ha', hx, h1]
  · have h2 : (c < -1048576) = True := eq_true (hc.resolve_left (of_eq_false h1))
    simp +decide only [c132, qgT9, qgI9, qgC9, qgA9, qgB9, qgP9, qgF9, qgG9, qgH9, qgM9, qfJ9, qfK9, qfL9, qfN9, qfM9, qfP9, qeK9, qeG9, qda9, qdC9, qfO9, qfS9, qL9, go_sem, opNil, ho, ha', hx, h1, h2]
theorem rdD {a c : Int} (ho : h[r]? = some (RO sig t a 0)) (ha : a ≠ (t.length : Int)) (hx : idx t a = some c) (hc : ¬ ((sig.length : Int) ≤ c ∨ c < -1048576)) (hn : c < 0) : Lim C 132 [rdr r] h = some (Lf (w64 (-1 - c)), h.set r (RO sig t (w64 (a + 1)) 0)) := by
  have ha' : (a = (t.length : Int)) = False := eq_false ha
  have h1 : ((sig.length : Int) ≤ c) = False := eq_false fun e => hc (.inl e)
  have h2 : (c < -1048576) = False := eq_false fun e => hc (.inr e)
  have h3 : (c < 0) = True := eq_true hn
  refine Lim_A is132 (nbA rfl) (env := [(0, rdr r), (2, Lf (w64 (-1 - c))), (3, PI c)]) (e := .ret) ?_ (.inr rfl) (vs := [Lf (w64 (-1 - c))]) rfl
  simp +decide only [c132, qgT9, qgI9, qgC9, qgA9, qgB9, qgP9, qgF9, qgG9, qgH9, qgM9, qfJ9, qfK9, qfL9, qfN9, qfM9, qfP9, qeK9, qeG9, qda9, qdC9, qfO9, qfS9, qL9, go_sem, opNil, ho, ha', hx, h1, h2, h3]
abbrev St5 (r X : Nat) (c ar j : Int) (h : AHeap) : St := ⟨[(0, rdr r), (2, .d (.v .nilIface)), (3, PI c), (4, .ptr X 0 0 0), (87, PI ar), (88, PI j)], h⟩
abbrev St6 (r X : Nat) (c ar j : Int) (x : PV) (h : AHeap) : St := ⟨[(0, rdr r), (2, .d (.v .nilIface)), (3, PI c), (4, .ptr X 0 0 0), (5, x), (87, PI ar), (88, PI j)], h⟩
abbrev In (id : Nat) : PV := .ifc 103 (.ptr id 0 0 0)
abbrev XO (a n : Int) (K : PV) : AObj := .row false 0 3 [[PI a, PI n, K]]
inductive SizeOk (h : AHeap) : PV → Int → Prop where
  | leaf (n : Int) : SizeOk h (Lf n) 1
  | inner (id : Nat) (a s : Int) (K : PV) (ho : h[id]? = some (XO a s K)) : SizeOk h (In id) s
theorem rd17 {X : Nat} {c ar j : Int} {x : PV} {h1 : AHeap} (hc : Lim C 132 [rdr r] h = some (x, h1)) : semA C (Lim C) 1083197534392722413924130941 qeG9 (St5 r X c ar j h) = some (.normal, St6 r X c ar j x h1) := by
  have e : callP C (Lim C) 132 [rdr r] h = some (x, h1) := hc
  simp +decide only [qeG9, go_sem, e]
theorem rd18a {X : Nat} {c ar j a n s : Int} {x : PV} (hx : SizeOk h x s) (ho : h[X]? = some (XO a n (.im true []))) : semA C (Lim C) 1083197534392722413924130941 qda9 (St6 r X c ar j x h) = some (.normal, St6 r X c ar j x ((h ++ [AObj.row false 0 1 [[x]]]).set X (XO a n (.ref h.length 0 0 1)))) := by
  have hlt := (List.getElem?_eq_some_iff.1 ho).1
  have ho2 : ∀ o, (h ++ [o])[X]? = some (XO a n (.im true [])) := fun o => by rw [List.getElem?_append_left hlt]; exact ho
  cases hx <;> simp +decide only [qda9, go_sem, opNil, ho, ho2]
theorem rd18b {X kid v : Nat} {c ar j a n s : Int} {x : PV} {es : List (List PV)} (hx : SizeOk h x s) (ho : h[X]? = some (XO a n (.ref kid v 0 es.length))) (hk : h[kid]? = some (.row false v 1 es)) (hne : X ≠ kid) (hb : (es.length + 1) * 16 ≤ 140737488355328) :
    semA C (Lim C) 1083197534392722413924130941 qda9 (St6 r X c ar j x h) = some (.normal, St6 r X c ar j x ((h.set kid (.row false (v + 1) 1 (es ++ [[x]]))).set X (XO a n (.ref kid (v + 1) 0 (es ++ [[x]]).length)))) := by
  have hb' := eq_true hb
  have ho2 : ∀ o, (h.set kid o)[X]? = some (XO a n (.ref kid v 0 es.length)) := fun o => by rw [List.getElem?_set_ne (Ne.symm hne)]; exact ho
  cases hx <;> simp +decide only [qda9, go_sem, opNil, ho, ho2, hk, hb', List.take_length]
theorem rd19 {X : Nat} {c ar j a n s : Int} {K x : PV} (hx : SizeOk h x s) (ho : h[X]? = some (XO a n K)) : semA C (Lim C) 1083197534392722413924130941 qdC9 (St6 r X c ar j x h) = some (.normal, St6 r X c ar j x (h.set X (XO a (w64 (n + s)) K))) := by
  cases hx with
  | leaf m => simp +decide only [qdC9, go_sem, opNil, ho, quP9, qtZ9]
  | inner id a' s K' hi => simp +decide only [qdC9, go_sem, opNil, ho, qsK9, qth9 hi]
theorem qwJ9 (l : List Int) : ∀ k, ∃ m, m ≤ l.length ∧ (rdT sig l k).1 = l.drop m := by
  induction l with
  | nil => intro k; cases k <;> exact ⟨0, Nat.le_refl _, rfl⟩
  | cons c l ih =>
    intro k
    cases k with
    | zero => exact ⟨0, Nat.zero_le _, rfl⟩
    | succ k =>
      rw [rdT]
      split
      · exact ⟨0, Nat.zero_le _, rfl⟩
      · obtain ⟨m, h1, h2⟩ := ih (k + arOf sig c)
        exact ⟨m + 1, by simp; omega, by rw [h2, List.drop_succ_cons]⟩
theorem qhV9 (l : List Int) : ∀ j k, rdT sig l (j + k) = if (rdT sig l j).2 = 0 then rdT sig (rdT sig l j).1 k else rdT sig l j := by
  induction l with
  | nil =>
    intro j k
    cases j with
    | zero => rw [Nat.zero_add]; rfl
    | succ j => rw [show j + 1 + k = (j + k) + 1 by omega]; rfl
  | cons c l ih =>
    intro j k
    cases j with
    | zero => rw [Nat.zero_add]; rfl
    | succ j =>
      rw [show j + 1 + k = (j + k) + 1 by omega, rdT, rdT]
      by_cases hc : (sig.length : Int) ≤ c ∨ c < -1048576
      · simp only [if_pos hc]; rfl
      · simp only [if_neg hc]
        rw [show j + k + arOf sig c = (j + arOf sig c) + k by omega]
        exact ih _ _
inductive KV (S : Nat → Prop) (h : AHeap) : PV → List PV → Prop where
  | none : KV S h (.im true []) []
  | row (kid v : Nat) (ks : List PV) (hS : S kid) (ho : h[kid]? = some (.row false v 1 (ks.map fun x => [x]))) : KV S h (.ref kid v 0 ks.length) ks
inductive Forest (sig : List Symbol) (t : List Int) (S : Nat → Prop) (h : AHeap) : List PV → Nat → Nat → Prop where
  | nil (i : Nat) : Forest sig t S h [] i i
  | leaf (xs : List PV) (i e : Nat) (c : Int) (hc : t[i]? = some c) (hn : c < 0) (hf : Forest sig t S h xs (i + 1) e) : Forest sig t S h (Lf (w64 (-1 - c)) :: xs) i e
  | node (xs ks : List PV) (i j e c id : Nat) (s : Symbol) (K : PV) (hc : t[i]? = some (c : Int)) (hs : sig[c]? = some s) (hS : S id) (ho : h[id]? = some (XO i ((j : Int) - i) K)) (hK : KV S h K ks) (hl : ks.length = s.Arity.toNat)
      (hk : Forest sig t S h ks (i + 1) j) (hf : Forest sig t S h xs j e) : Forest sig t S h (In id :: xs) i e
theorem KV.mono {S S' : Nat → Prop} {h h' : AHeap} (hh : ∀ id, S id → S' id ∧ h'[id]? = h[id]?) {K : PV} {ks : List PV} (hk : KV S h K ks) : KV S' h' K ks := by
  cases hk with
  | none => exact .none
  | row kid v ks hS ho => exact .row kid v ks (hh _ hS).1 ((hh _ hS).2.trans ho)
theorem Forest.mono {S S' : Nat → Prop} {h h' : AHeap} (hh : ∀ id, S id → S' id ∧ h'[id]? = h[id]?) {xs : List PV} {i e : Nat} (hf : Forest sig t S h xs i e) : Forest sig t S' h' xs i e := by
  induction hf with
  | nil i => exact .nil i
  | leaf xs i e c hc hn hf ih => exact .leaf xs i e c hc hn ih
  | node xs ks i j e c id s K hc hs hS ho hK hl hk hf ih1 ih2 => exact .node xs ks i j e c id s K hc hs (hh _ hS).1 ((hh _ hS).2.trans ho) (hK.mono hh) hl ih1 ih2
theorem Forest.append {S : Nat → Prop} {h : AHeap} {xs ys : List PV} {i j e : Nat} (h1 : Forest sig t S h xs i j) (h2 : Forest sig t S h ys j e) : Forest sig t S h (xs ++ ys) i e := by
  induction h1 with
  | nil i => exact h2
  | leaf xs i e c hc hn hf ih => exact .leaf _ i _ c hc hn (ih h2)
  | node xs ks i j e c id s K hc hs hS ho hK hl hk hf ih1 ih2 => exact .node _ ks i j _ c id s K hc hs hS ho hK hl hk (ih2 h2)
theorem Forest.size {S : Nat → Prop} {h : AHeap} {x : PV} {i e : Nat} (hf : Forest sig t S h [x] i e) : SizeOk h x ((e : Int) - i) := by
  cases hf with
  | leaf _ _ _ c hc hn hf => cases hf; rw [show ((i + 1 : Nat) : Int) - i = 1 by omega]; exact .leaf _
  | node _ ks _ j _ c id s K hc hs hS ho hK hl hk hf => cases hf; exact .inner _ _ _ _ ho
theorem SizeOk.inj {h : AHeap} {x : PV} {s s' : Int} (h1 : SizeOk h x s) (h2 : SizeOk h x s') : s = s' := by
  cases h1 with
  | leaf n => cases h2; rfl
  | inner id a s K ho =>
    cases h2 with
    | inner _ a' _ K' ho' =>
      rw [ho] at ho'
      simp only [Option.some.injEq, AObj.row.injEq, List.cons.injEq, PV.d.injEq, D.v.injEq, Value.int.injEq] at ho'
      exact ho'.2.2.2.1.2.1.2
theorem SizeOk.stay {h h' : AHeap} {x : PV} {s : Int} (h1 : SizeOk h x s) (hh : ∀ id o, h[id]? = some o → x = In id → h'[id]? = some o) : SizeOk h' x s := by
  cases h1 with
  | leaf n => exact .leaf n
  | inner id a s K ho => exact .inner id a s K (hh id _ ho rfl)
def RdOk (sig : List Symbol) (t : List Int) (r : Nat) (h : AHeap) (i : Nat) : Prop := ∃ x h', Lim C 132 [rdr r] h = some (x, h') ∧ h'[r]? = some (RO sig t ((t.length - (rdT sig (t.drop i) 1).1.length : Nat) : Int) (rdT sig (t.drop i) 1).2) ∧ h.length ≤ h'.length ∧
  (∀ id, id < h.length → id ≠ r → h'[id]? = h[id]?) ∧ (∃ s id, SizeOk h' x s ∧ h.length ≤ id ∧ (∀ k, x = In k → h.length ≤ k ∧ k < h'.length)) ∧ ((rdT sig (t.drop i) 1).2 = 0 → Forest sig t (fun id => h.length ≤ id ∧ id < h'.length) h' [x] i (t.length - (rdT sig (t.drop i) 1).1.length))
def KVk (X : Nat) (h : AHeap) (K : PV) (ks : List PV) (kd : Option Nat) : Prop := (kd = none ∧ K = .im true [] ∧ ks = []) ∨ ∃ kid v, kd = some kid ∧ X < kid ∧ K = .ref kid v 0 ks.length ∧ h[kid]? = some (.row false v 1 (ks.map fun x => [x]))
theorem KVk.stay {X : Nat} {h h' : AHeap} {K : PV} {ks : List PV} {kd : Option Nat} (hk : KVk X h K ks kd) (hh : ∀ id, kd = some id → h'[id]? = h[id]?) : KVk X h' K ks kd := by
  rcases hk with h1 | ⟨kid, v, h1, h2, h3, h4⟩
  · exact .inl h1
  · exact .inr ⟨kid, v, h1, h2, h3, (hh _ h1).trans h4⟩
theorem qgE9 {h : AHeap} {o : AObj} {id : Nat} (hlt : id < h.length) : (h ++ [o])[id]? = h[id]? := List.getElem?_append_left hlt
theorem step18 {X i : Nat} {c ar j n s : Int} {K x : PV} {ks : List PV} {kd : Option Nat} (hX : h[X]? = some (XO i n K)) (hK : KVk X h K ks kd) (hx : SizeOk h x s) (hxk : ∀ k, x = In k → k ≠ X ∧ kd ≠ some k) (hb : (ks.length + 1) * 16 ≤ 140737488355328) :
    ∃ h2 h3 K' kd', semA C (Lim C) 1083197534392722413924130941 qda9 (St6 r X c ar j x h) = some (.normal, St6 r X c ar j x h2) ∧ semA C (Lim C) 1083197534392722413924130941 qdC9 (St6 r X c ar j x h2) = some (.normal, St6 r X c ar j x h3) ∧
      h3[X]? = some (XO i (w64 (n + s)) K') ∧ KVk X h3 K' (ks ++ [x]) kd' ∧ h.length ≤ h3.length ∧ (∀ id, id < h.length → id ≠ X → kd ≠ some id → h3[id]? = h[id]?) ∧ (∀ id, kd' = some id → kd = some id ∨ id = h.length) ∧ (∀ id, kd' = some id → id < h3.length) := by
  have hlt := (List.getElem?_eq_some_iff.1 hX).1
  rcases hK with ⟨rfl, rfl, rfl⟩ | ⟨kid, v, rfl, hXk, rfl, hkid⟩
  · have e18 := rd18a (r := r) (c := c) (ar := ar) (j := j) hx hX
    have hx2 : SizeOk ((h ++ [AObj.row false 0 1 [[x]]]).set X (XO i n (.ref h.length 0 0 1))) x s := hx.stay fun id o ho he => by
      rw [List.getElem?_set_ne (Ne.symm (hxk id he).1), qgE9 (List.getElem?_eq_some_iff.1 ho).1]; exact ho
    have hX2 : ((h ++ [AObj.row false 0 1 [[x]]]).set X (XO i n (.ref h.length 0 0 1)))[X]? = some (XO i n (.ref h.length 0 0 1)) := by
      rw [List.getElem?_set_self (by simp; omega)]
    have e19 := rd19 (r := r) (c := c) (ar := ar) (j := j) hx2 hX2
    refine ⟨_, _, .ref h.length 0 0 1, some h.length, e18, e19, ?_, ?_, by simp, fun id h1 h2 _ => ?_, fun id e => .inr (oiA e).symm, fun id e => by cases e; simp⟩
    · rw [List.getElem?_set_self (by simp; omega)]
    · refine .inr ⟨h.length, 0, rfl, hlt, rfl, ?_⟩
      rw [List.getElem?_set_ne (by omega), List.getElem?_set_ne (by omega)]
      simp
    · rw [List.getElem?_set_ne (Ne.symm h2), List.getElem?_set_ne (Ne.symm h2), qgE9 h1]
  · have hne : X ≠ kid := by omega
    have hl : (ks.map fun x => [x]).length = ks.length := by simp
    have hX' : h[X]? = some (XO i n (.ref kid v 0 (ks.map fun x => [x]).length)) := by rw [hl]; exact hX
    have e18 := rd18b (r := r) (c := c) (ar := ar) (j := j) hx hX' hkid hne (by rw [hl]; exact hb)
    have hkl := (List.getElem?_eq_some_iff.1 hkid).1
    have hx2 : SizeOk ((h.set kid (.row false (v + 1) 1 ((ks.map fun x => [x]) ++ [[x]]))).set X (XO i n (.ref kid (v + 1) 0 ((ks.map fun x => [x]) ++ [[x]]).length))) x s := hx.stay fun id o ho he => by
      have h1 := (hxk id he).1
      have h2 : kid ≠ id := fun e => (hxk id he).2 (by rw [e])
      rw [List.getElem?_set_ne (Ne.symm h1), List.getElem?_set_ne h2]; exact ho
    have hX2 : ((h.set kid (.row false (v + 1) 1 ((ks.map fun x => [x]) ++ [[x]]))).set X (XO i n (.ref kid (v + 1) 0 ((ks.map fun x => [x]) ++ [[x]]).length)))[X]? = some (XO i n (.ref kid (v + 1) 0 ((ks.map fun x => [x]) ++ [[x]]).length)) := by
      rw [List.getElem?_set_self (by simp; omega)]
    have e19 := rd19 (r := r) (c := c) (ar := ar) (j := j) hx2 hX2
    refine ⟨_, _, .ref kid (v + 1) 0 ((ks.map fun x => [x]) ++ [[x]]).length, some kid, e18, e19, ?_, ?_, by simp, fun id h1 h2 h3 => ?_, fun id e => .inl e, fun id e => by cases e; simp; omega⟩
    · rw [List.getElem?_set_self (by simp; omega)]
    · refine .inr ⟨kid, v + 1, rfl, hXk, by simp, ?_⟩
      rw [List.getElem?_set_ne (by omega), List.getElem?_set_ne (by omega), List.getElem?_set_self (by omega)]
      simp
    · have h4 : kid ≠ id := fun e => h3 (by rw [e])
      rw [List.getElem?_set_ne (Ne.symm h2), List.getElem?_set_ne (Ne.symm h2), List.getElem?_set_ne h4]
theorem round101 {X : Nat} {c ar j : Int} {x : PV} {h1 h2 h3 : AHeap} (hj : j < ar) (hc : Lim C 132 [rdr r] h = some (x, h1)) (e18 : semA C (Lim C) 1083197534392722413924130941 qda9 (St6 r X c ar j x h1) = some (.normal, St6 r X c ar j x h2))
    (e19 : semA C (Lim C) 1083197534392722413924130941 qdC9 (St6 r X c ar j x h2) = some (.normal, St6 r X c ar j x h3)) : semA C (Lim C) 1083197534392722413924130941 qgK9 (St5 r X c ar j h) = some (.normal, St5 r X c ar (w64 (j + 1)) h3) := by
  have hj' := eq_true hj
  have e17 := rd17 (X := X) (c := c) (ar := ar) (j := j) hc
  simp +decide only [qgK9, qeK9, qfO9, go_sem, e17, e18, e19, hj']
theorem leave101 {X : Nat} {c ar j : Int} (hj : ¬ j < ar) : semA C (Lim C) 1083197534392722413924130941 qgK9 (St5 r X c ar j h) = some (.exit 2, St5 r X c ar j h) := by
  have hj' := eq_false hj
  simp +decide only [qgK9, qeK9, go_sem, hj']
theorem rdE {a c ar : Int} {f : Symbol} {h' : AHeap} (hlt : r < h.length) (ho : h[r]? = some (RO sig t a 0)) (ha : a ≠ (t.length : Int)) (hx : idx t a = some c) (hc : ¬ ((sig.length : Int) ≤ c ∨ c < -1048576)) (hn : ¬ c < 0) (hf : idx sig c = some f) (hl : qbq9 (semA C (Lim C) 1083197534392722413924130941 qgK9) (St5 r h.length c f.Arity 0 ((h ++ [XO a 1 (.im true [])]).set r (RO sig t (w64 (a + 1)) 0))) = some (.exit 2, St5 r h.length c f.Arity ar h')) :
    Lim C 132 [rdr r] h = some (In h.length, h') := by
  have ha' : (a = (t.length : Int)) = False := eq_false ha
  have h1 : ((sig.length : Int) ≤ c) = False := eq_false fun e => hc (.inl e)
  have h2 : (c < -1048576) = False := eq_false fun e => hc (.inr e)
  have h3 : (c < 0) = False := eq_false hn
  have ho2 : ∀ o, (h ++ [o])[r]? = some (RO sig t a 0) := fun o => by rw [qgE9 hlt]; exact ho
  have ho3 : ∀ o o', ((h ++ [o]).set r o')[r]? = some o' := fun o o' => List.getElem?_set_self (by simp; omega)
  refine Lim_A is132 (nbA rfl) (env := [(0, rdr r), (2, In h.length), (3, PI c), (4, .ptr h.length 0 0 0), (87, PI f.Arity), (88, PI ar)]) (e := .ret) ?_ (.inr rfl) (vs := [In h.length]) rfl
  simp +decide only [c132, qgT9, qgI9, qgC9, qgA9, qgB9, qgP9, qgF9, qgG9, qgH9, qgM9, qfJ9, qfK9, qfL9, qfN9, qfM9, qfP9, qfS9, qL9, go_sem, opNil, ho, ho2, ho3, ha', hx, h1, h2, h3, hf, hl]
structure LInv (sig : List Symbol) (t : List Int) (r X i : Nat) (h0 : AHeap) (j : Nat) (h : AHeap) : Prop where
  rx : r < X
  xl : X < h.length
  fr : ∀ id, id < X → id ≠ r → h[id]? = h0[id]?
  rd : h[r]? = some (RO sig t ((t.length - (rdT sig (t.drop (i + 1)) j).1.length : Nat) : Int) (rdT sig (t.drop (i + 1)) j).2)
  ex : ∃ (n : Int) (K : PV) (ks : List PV) (kd : Option Nat), h[X]? = some (XO i n K) ∧ ks.length = j ∧ KVk X h K ks kd ∧ (∀ id, kd = some id → id < h.length) ∧
    ((rdT sig (t.drop (i + 1)) j).2 = 0 → n = ((t.length - (rdT sig (t.drop (i + 1)) j).1.length : Nat) : Int) - i ∧ Forest sig t (fun id => X < id ∧ id < h.length ∧ kd ≠ some id) h ks (i + 1) (t.length - (rdT sig (t.drop (i + 1)) j).1.length))
theorem qpj9 {l : List Int} {i k : Nat} (hi : i ≤ t.length) : i ≤ t.length - (rdT sig (t.drop i) k).1.length ∧ t.length - (rdT sig (t.drop i) k).1.length ≤ t.length ∧ t.drop (t.length - (rdT sig (t.drop i) k).1.length) = (rdT sig (t.drop i) k).1 := by
  obtain ⟨m, h1, h2⟩ := qwJ9 (sig := sig) (t.drop i) k
  rw [h2]
  rw [List.length_drop] at h1
  rw [List.drop_drop, List.length_drop]
  refine ⟨by omega, by omega, ?_⟩
  congr 1
  omega
theorem loop101 {X i : Nat} {c ar : Int} {h0 : AHeap} (hL : t.length < 4611686018427387904) (hi : i + 1 ≤ t.length) (hA : ar ≤ 1099511627776) (IH : ∀ (i' : Nat) (h' : AHeap), i < i' → i' ≤ t.length → h'[r]? = some (RO sig t i' 0) → RdOk sig t r h' i') :
    ∀ (m j : Nat) (h : AHeap), j + m = ar.toNat → LInv sig t r X i h0 j h → ∃ h', qbq9 (semA C (Lim C) 1083197534392722413924130941 qgK9) (St5 r X c ar j h) = some (.exit 2, St5 r X c ar ar.toNat h') ∧ LInv sig t r X i h0 ar.toNat h' := by
  intro m
  induction m with
  | zero =>
    intro j h hj hv
    have : j = ar.toNat := by omega
    subst this
    exact ⟨h, qlf9 (leave101 (by omega)) (by simp), hv⟩
  | succ m ih =>
    intro j h hj hv
    have hlt : (j : Int) < ar := by omega
    obtain ⟨n, K, ks, kd, k1, k2, k3, k3b, k4⟩ := hv.ex
    obtain ⟨p1, p2, p3⟩ := qpj9 (sig := sig) (l := t) (k := j) hi
    have hadd := qhV9 (sig := sig) (t.drop (i + 1)) j 1
    have hw : w64 ((j : Int) + 1) = ((j + 1 : Nat) : Int) := by unfold w64; rw [IntKind.wrap_i64]; omega
    have hbd : (ks.length + 1) * 16 ≤ 140737488355328 := by omega
    -- one argument is read
    have step : ∃ x h1 s, Lim C 132 [rdr r] h = some (x, h1) ∧ h1[r]? = some (RO sig t ((t.length - (rdT sig (t.drop (i + 1)) (j + 1)).1.length : Nat) : Int) (rdT sig (t.drop (i + 1)) (j + 1)).2) ∧ h.length ≤ h1.length ∧ (∀ id, id < h.length → id ≠ r → h1[id]? = h[id]?) ∧
        SizeOk h1 x s ∧ (∀ k, x = In k → h.length ≤ k ∧ k < h1.length) ∧ ((rdT sig (t.drop (i + 1)) (j + 1)).2 = 0 → (rdT sig (t.drop (i + 1)) j).2 = 0 ∧ Forest sig t (fun id => h.length ≤ id ∧ id < h1.length) h1 [x] (t.length - (rdT sig (t.drop (i + 1)) j).1.length) (t.length - (rdT sig (t.drop (i + 1)) (j + 1)).1.length)) := by
      have hrd := hv.rd
      by_cases hb : (rdT sig (t.drop (i + 1)) j).2 = 0
      · rw [hb] at hrd
        rw [if_pos hb] at hadd
        obtain ⟨x, h1, q1, q2, q3, q4, ⟨s, _, q5, _, q6⟩, q7⟩ := IH _ h (by omega) p2 hrd
        rw [p3, ← hadd] at q2 q7
        exact ⟨x, h1, s, q1, q2, q3, q4, q5, q6, fun e => ⟨hb, q7 e⟩⟩
      · rw [if_neg hb] at hadd
        rw [hadd]
        exact ⟨Lf 0, h, 1, rdA hrd hb, hrd, Nat.le_refl _, fun _ _ _ => rfl, .leaf 0, fun k e => (by cases e), fun e => absurd e hb⟩
    obtain ⟨x, h1, s, s1, s2, s3, s4, s5, s6, s7⟩ := step
    have hXr : X ≠ r := by have := hv.rx; omega
    have hkr : ∀ id, kd = some id → X < id := by
      intro id e
      rcases k3 with ⟨e1, _⟩ | ⟨kid, v, e1, e2, _⟩
      · rw [e1] at e; cases e
      · rw [e1] at e; cases e; exact e2
    have hX1 : h1[X]? = some (XO i n K) := (s4 X hv.xl hXr).trans k1
    have hK1 : KVk X h1 K ks kd := k3.stay fun id e => s4 id (k3b id e) (by have := hkr id e; have := hv.rx; omega)
    have hxk : ∀ k, x = In k → k ≠ X ∧ kd ≠ some k := fun k e => by
      have h1' := s6 k e
      have := hv.xl
      exact ⟨by omega, fun e' => by have := k3b k e'; omega⟩
    obtain ⟨h2, h3, K', kd', e18, e19, g1, g2, g3, g4, g5, g6⟩ := step18 (r := r) (c := c) (ar := ar) (j := j) hX1 hK1 s5 hxk hbd
    have hr3 : h3[r]? = h1[r]? := g4 r (by have := hv.rx; have := hv.xl; omega) (Ne.symm hXr) (fun e => by have := hkr r e; have := hv.rx; omega)
    have hv' : LInv sig t r X i h0 (j + 1) h3 := by
      refine ⟨hv.rx, by have := hv.xl; omega, fun id hid hne => ?_, by rw [hr3]; exact s2, w64 (n + s), K', ks ++ [x], kd', g1, by simp [k2], g2, g6, fun hb => ?_⟩
      · rw [g4 id (by have := hv.xl; omega) (by omega) (fun e => by have := hkr id e; omega), s4 id (by have := hv.xl; omega) hne]
        exact hv.fr id hid hne
      · obtain ⟨hb0, hF⟩ := s7 hb
        obtain ⟨c1, c2⟩ := k4 hb0
        have hsz := s5.inj hF.size
        obtain ⟨p1', p2', _⟩ := qpj9 (sig := sig) (l := t) (k := j + 1) hi
        refine ⟨?_, ?_⟩
        · rw [c1, hsz]
          unfold w64
          rw [IntKind.wrap_i64]
          omega
        · refine Forest.append (c2.mono fun id hid => ?_) (hF.mono fun id hid => ?_)
          · obtain ⟨a1, a2, a3⟩ := hid
            refine ⟨⟨a1, by omega, fun e => ?_⟩, ?_⟩
            · rcases g5 id e with e' | e'
              · exact a3 e'
              · omega
            · rw [g4 id (by omega) (by omega) a3, s4 id a2 (by have := hv.rx; omega)]
          · obtain ⟨a1, a2⟩ := hid
            have hne : kd ≠ some id := fun e => by have := k3b id e; omega
            refine ⟨⟨by have := hv.xl; omega, by omega, fun e => ?_⟩, ?_⟩
            · rcases g5 id e with e' | e'
              · exact hne e'
              · omega
            · rw [g4 id a2 (by have := hv.xl; omega) hne]
    obtain ⟨h', f1, f2⟩ := ih (j + 1) h3 (by omega) hv'
    have hround := round101 hlt s1 e18 e19
    rw [hw] at hround
    exact ⟨h', qmI9 hround f1, f2⟩
theorem rd_ok (hL : t.length < 4611686018427387904) (hA : ∀ s ∈ sig, s.Arity ≤ 1099511627776) : ∀ (n i : Nat) (h : AHeap), i ≤ t.length → t.length - i ≤ n → h[r]? = some (RO sig t i 0) → RdOk sig t r h i := by
  intro n
  induction n with
  | zero =>
    intro i h hi hn ho
    have : i = t.length := by omega
    subst this
    have hlt := (List.getElem?_eq_some_iff.1 ho).1
    have e : rdT sig (t.drop t.length) 1 = ([], 31) := by rw [List.drop_eq_nil_of_le (Nat.le_refl _)]; rfl
    rw [RdOk, e]
    refine ⟨_, _, rdB ho rfl, ?_, by simp, fun id h1 h2 => by rw [List.getElem?_set_ne (Ne.symm h2)], ⟨1, h.length, .leaf 0, Nat.le_refl _, fun k e => by cases e⟩, fun e => by cases e⟩
    rw [List.getElem?_set_self hlt]; rfl
  | succ n ih =>
    intro i h hi hn ho
    have hlt := (List.getElem?_eq_some_iff.1 ho).1
    by_cases hil : i = t.length
    · exact ih i h hi (by omega) ho
    have hit : i < t.length := by omega
    have ha : (i : Int) ≠ (t.length : Int) := by omega
    have hd := List.drop_eq_getElem_cons hit
    have hget : t[i]? = some t[i] := List.getElem?_eq_getElem hit
    have hx : idx t (i : Int) = some t[i] := by unfold idx; rw [if_pos (by omega)]; simp
    have hw : w64 ((i : Int) + 1) = ((i + 1 : Nat) : Int) := by unfold w64; rw [IntKind.wrap_i64]; omega
    by_cases hc : (sig.length : Int) ≤ t[i] ∨ t[i] < -1048576
    · have e : rdT sig (t.drop i) 1 = (t.drop i, 30) := by rw [hd]; simp only [rdT, if_pos hc]
      rw [RdOk, e]
      refine ⟨_, _, rdC ho ha hx hc, ?_, by simp, fun id h1 h2 => by rw [List.getElem?_set_ne (Ne.symm h2)], ⟨1, h.length, .leaf 0, Nat.le_refl _, fun k e => by cases e⟩, fun e => by cases e⟩
      rw [List.getElem?_set_self hlt, List.length_drop, show t.length - (t.length - i) = i by omega]
    by_cases hneg : t[i] < 0
    · have har : arOf sig t[i] = 0 := by unfold arOf; rw [if_neg (by omega)]
      have e : rdT sig (t.drop i) 1 = (t.drop (i + 1), 0) := by
        rw [hd]; simp only [rdT, if_neg hc, har]
        cases t.drop (i + 1) <;> rfl
      rw [RdOk, e]
      have hp : t.length - (t.drop (i + 1)).length = i + 1 := by rw [List.length_drop]; omega
      simp only [hp]
      refine ⟨_, _, rdD ho ha hx hc hneg, ?_, by simp, fun id h1 h2 => by rw [List.getElem?_set_ne (Ne.symm h2)], ⟨1, h.length, .leaf _, Nat.le_refl _, fun k e => by cases e⟩, fun _ => .leaf _ _ _ _ hget hneg (.nil _)⟩
      rw [List.getElem?_set_self hlt, hw]
    · obtain ⟨c, hcn⟩ : ∃ c : Nat, t[i] = (c : Int) := ⟨t[i].toNat, by omega⟩
      have hcs : c < sig.length := by rw [hcn] at hc; omega
      have hs : sig[c]? = some sig[c] := List.getElem?_eq_getElem hcs
      have hf : idx sig t[i] = some sig[c] := by unfold idx; rw [if_pos (by omega), hcn]; simp
      have har : arOf sig t[i] = sig[c].Arity.toNat := by unfold arOf; rw [if_pos (by omega), hcn]; simp [hs]
      have e : rdT sig (t.drop i) 1 = rdT sig (t.drop (i + 1)) sig[c].Arity.toNat := by
        rw [hd]; simp only [rdT, if_neg hc, har, Nat.zero_add]
      have hi1 : i + 1 ≤ t.length := hit
      have hr0 : ((h ++ [XO (i : Int) 1 (.im true [])]).set r (RO sig t (w64 ((i : Int) + 1)) 0))[h.length]? = some (XO (i : Int) 1 (.im true [])) := by
        rw [List.getElem?_set_ne (by omega)]; simp
      have hv0 : LInv sig t r h.length i h 0 ((h ++ [XO (i : Int) 1 (.im true [])]).set r (RO sig t (w64 ((i : Int) + 1)) 0)) := by
        have e0 : rdT sig (t.drop (i + 1)) 0 = (t.drop (i + 1), 0) := by cases t.drop (i + 1) <;> rfl
        have hp : t.length - (t.drop (i + 1)).length = i + 1 := by rw [List.length_drop]; omega
        refine ⟨hlt, by simp, fun id h1 h2 => ?_, ?_, 1, .im true [], [], none, hr0, rfl, .inl ⟨rfl, rfl, rfl⟩, fun id e => (by cases e), fun _ => ?_⟩
        · rw [List.getElem?_set_ne (Ne.symm h2), qgE9 h1]
        · rw [e0, hp, List.getElem?_set_self (by simp; omega), hw]
        · rw [e0, hp]
          exact ⟨by omega, .nil _⟩
      obtain ⟨h', f1, f2⟩ := loop101 (c := t[i]) (ar := sig[c].Arity) hL hi1 (hA _ (List.getElem_mem hcs)) (fun i' h'' h1 h2 h3 => ih i' h'' h2 (by omega) h3) sig[c].Arity.toNat 0 _ (by omega) hv0
      have hE := rdE hlt ho ha hx hc hneg hf (by simpa using f1)
      rw [RdOk, e]
      obtain ⟨n', K, ks, kd, k1, k2, k3, k3b, k4⟩ := f2.ex
      refine ⟨_, _, hE, f2.rd, by have := f2.xl; omega, fun id h1 h2 => f2.fr id h1 h2, ⟨n', h.length, .inner _ _ _ _ k1, Nat.le_refl _, fun k e => by cases e; exact ⟨Nat.le_refl _, f2.xl⟩⟩, fun hb => ?_⟩
      obtain ⟨c1, c2⟩ := k4 hb
      refine .node [] ks i _ _ c h.length sig[c] K (by rw [hget, hcn]) hs ⟨Nat.le_refl _, f2.xl⟩ (by rw [k1, c1]) ?_ k2 (c2.mono fun id hid => ⟨⟨by omega, hid.2.1⟩, rfl⟩) (.nil _)
      rcases k3 with ⟨_, rfl, rfl⟩ | ⟨kid, v, e1, e2, rfl, e4⟩
      · exact .none
      · exact .row kid v ks ⟨by omega, k3b _ e1⟩ e4
abbrev TArgs (sig : List Symbol) (t : List Int) : List PV := [.d (.rd (sig.map qb9)), .d (.rd (t.map intD))]
theorem qoq9 (hL : t.length < 4611686018427387904) (hA : ∀ s ∈ sig, s.Arity ≤ 1099511627776) (h : AHeap) : ∃ x h', Lim C 113 (TArgs sig t) h = some (.tp [x, PI (qn9 sig t)], h') ∧ h.length ≤ h'.length ∧ (∀ id, id < h.length → h'[id]? = h[id]?) ∧
    (∃ s, SizeOk h' x s) ∧ (qn9 sig t = 0 → Forest sig t (fun id => h.length < id ∧ id < h'.length) h' [x] 0 t.length) := by
  have ho : (h ++ [RO sig t 0 0])[h.length]? = some (RO sig t ((0 : Nat) : Int) 0) := by simp
  obtain ⟨x, h1, q1, q2, q3, q4, ⟨s, _, q5, _, q6⟩, q7⟩ := rd_ok (r := h.length) hL hA t.length 0 _ (Nat.zero_le _) (by omega) ho
  have hcall : callP C (Lim C) 132 [.ptr h.length 0 0 0] (h ++ [RO sig t 0 0]) = some (x, h1) := q1
  obtain ⟨p1, p2, p3⟩ := qpj9 (sig := sig) (l := t) (k := 1) (Nat.zero_le t.length)
  rw [List.drop_zero] at *
  have hle : h.length + 1 ≤ h1.length := by simpa using q3
  have hself : ∀ o, (h1.set h.length o)[h.length]? = some o := fun o => List.getElem?_set_self (by omega)
  have hst : ∀ o, SizeOk (h1.set h.length o) x s := fun o => q5.stay fun id ob hob he => by
    have := (q6 id he).1
    rw [List.length_append] at this
    rw [List.getElem?_set_ne (by simp at this; omega)]; exact hob
  by_cases hb : (rdT sig t 1).2 = 0
  · by_cases hn : (rdT sig t 1).1 = []
    · have e : qn9 sig t = 0 := by unfold qn9; simp [hb, hn]
      rw [e]
      have hlen : t.length - (rdT sig t 1).1.length = t.length := by rw [hn]; simp
      rw [hb, hlen] at q2
      have hlt : ((t.length : Int) < (t.length : Int)) = False := eq_false (by omega)
      refine ⟨x, h1, Lim_A is113 (nbA rfl) (env := [(0, .d (.rd (sig.map qb9))), (1, .d (.rd (t.map intD))), (4, x), (5, PI 0), (6, .ptr h.length 0 0 0), (7, x)]) (e := .ret) ?_ (.inr rfl) (vs := [x, PI 0]) rfl, by omega, fun id hid => ?_, ⟨s, q5⟩, fun _ => ?_⟩
      · simp +decide only [c113, qkj9, qki9, qkq9, qku9, qkp9, qko9, qL9, go_sem, opNil, hcall, q2, hlt]
      · rw [q4 id (by simp; omega) (by omega), qgE9 hid]
      · have := q7 hb
        rw [hlen] at this
        exact this.mono fun id hid => ⟨⟨by have := hid.1; simp at this; omega, hid.2⟩, rfl⟩
    · have e : qn9 sig t = 32 := by unfold qn9; simp [hb, hn]
      rw [e]
      rw [hb] at q2
      have hlt : (((t.length - (rdT sig t 1).1.length : Nat) : Int) < (t.length : Int)) = True := by
        have h1 : 0 < (rdT sig t 1).1.length := List.length_pos_iff.2 hn
        have h2 : (rdT sig t 1).1.length ≤ t.length := by
          have := congrArg List.length p3
          rw [List.length_drop] at this
          omega
        exact eq_true (by omega)
      refine ⟨x, _, Lim_A is113 (h' := h1.set h.length (RO sig t ((t.length - (rdT sig t 1).1.length : Nat) : Int) 32)) (nbA rfl) (env := [(0, .d (.rd (sig.map qb9))), (1, .d (.rd (t.map intD))), (4, x), (5, PI 32), (6, .ptr h.length 0 0 0), (7, x)]) (e := .ret) ?_ (.inr rfl) (vs := [x, PI 32]) rfl, by simp; omega, fun id hid => ?_, ⟨s, hst _⟩, fun e => by cases e⟩
      · simp +decide only [c113, qkj9, qki9, qkq9, qku9, qkp9, qko9, qL9, go_sem, opNil, hcall, q2, hlt, hself]
      · rw [List.getElem?_set_ne (by omega), q4 id (by simp; omega) (by omega), qgE9 hid]
  · have e : qn9 sig t = (rdT sig t 1).2 := by unfold qn9; simp [hb]
    rw [e]
    have hb' := eq_false hb
    refine ⟨x, h1, Lim_A is113 (nbA rfl) (env := [(0, .d (.rd (sig.map qb9))), (1, .d (.rd (t.map intD))), (4, x), (5, PI (rdT sig t 1).2), (6, .ptr h.length 0 0 0), (7, x)]) (e := .ret) ?_ (.inr rfl) (vs := [x, PI (rdT sig t 1).2]) rfl, by omega, fun id hid => ?_, ⟨s, q5⟩, fun e => absurd e hb⟩
    · simp +decide only [c113, qkj9, qki9, qkq9, qku9, qkp9, qko9, qL9, go_sem, opNil, hcall, q2, hb']
    · rw [q4 id (by simp; omega) (by omega), qgE9 hid]
theorem qxt9 (hL : t.length < 4611686018427387904) (hA : ∀ s ∈ sig, s.Arity ≤ 1099511627776) (hs : qr9 sig = some 0) (h : AHeap) : ∃ x h', Lim C 91 (TArgs sig t) h = some (.tp [x, PI (qn9 sig t)], h') ∧ h.length ≤ h'.length ∧ (∀ id, id < h.length → h'[id]? = h[id]?) ∧
    (∃ s, SizeOk h' x s) ∧ (qn9 sig t = 0 → Forest sig t (fun id => h.length < id ∧ id < h'.length) h' [x] 0 t.length) := by
  obtain ⟨x, h', q1, q2⟩ := qoq9 hL hA h
  have hcall : callP C (Lim C) 113 (TArgs sig t) h = some (.tp [x, PI (qn9 sig t)], h') := q1
  have hk := (qgl9 hs).k rfl rfl rfl
  simp only [List.map_cons, List.map_nil] at hk
  refine ⟨x, h', Lim_A is91 (nbA rfl) (env := [(0, .d (.rd (sig.map qb9))), (1, .d (.rd (t.map intD))), (4, x), (5, PI (qn9 sig t)), (6, PI 0)]) (e := .ret) ?_ (.inr rfl) (vs := [x, PI (qn9 sig t)]) rfl, q2⟩
  simp +decide only [c91, qoc9, qpA9, qof9, qod9, qpO9, qL9, go_sem, opNil, hcall, hk]
theorem qxp9 {e : Int} (hs : qr9 sig = some e) (he : e ≠ 0) (h : AHeap) : Lim C 91 (TArgs sig t) h = some (.tp [.d (.v .nilIface), PI e], h) := by
  have hk := (qgl9 hs).k rfl rfl rfl
  simp only [List.map_cons, List.map_nil] at hk
  have he' := eq_false he
  refine Lim_A is91 (nbA rfl) (env := [(0, .d (.rd (sig.map qb9))), (1, .d (.rd (t.map intD))), (4, .d (.v .nilIface)), (5, PI e), (6, PI e)]) (e := .ret) ?_ (.inr rfl) (vs := [.d (.v .nilIface), PI e]) rfl
  simp +decide only [c91, qoc9, qpA9, qof9, qod9, qpO9, qL9, go_sem, opNil, hk, he']
end

def qrN9 : ACode := .reg [] [] [.K 4 (.mv (cI 0))]
def qrK9 : ACode := .reg [] [] [.M 8 0, .M 9 1, .T 10 (.call 113 [.tmp 8, .tmp 9]), .M 7 10, .T 11 (.ext (.tmp 7) 0), .T 12 (.ext (.tmp 7) 1), .M 5 11, .N 6 12]
def qrF9 : ACode := .reg [] [] [.M 13 6, .N 4 13]
def c119 : ACode := .seq (qrN9) (.seq (qrK9) (.seq (qrF9) (.ret)))
theorem is119 : IsF C 119 14 83 c119 [.tmp 4] := ⟨⟨Tryd.f119, _, C_P ▸ Tryd.func119, rfl, rfl, rfl, by kernel_rfl, rfl⟩⟩
theorem qpn9 {sig : List Symbol} {t : List Int} {r : Int} (hr : qel9 sig t = some r) : ∃ p hp, Lim C 119 (TArgs sig t) [] = some (p, hp) ∧ rsT hp p = some (PI r) := by
  simp only [qel9] at hr
  obtain ⟨hL, hr⟩ := gsome hr
  replace hL := of_eq_true hL
  replace hr := oiA hr
  subst hr
  obtain ⟨x, h', q1, _⟩ := qoq9 hL.1 (fun s hs => by have := List.all_eq_true.1 hL.2 s hs; exact of_decide_eq_true this) []
  have hcall : callP C (Lim C) 113 (TArgs sig t) [] = some (.tp [x, PI (qn9 sig t)], h') := q1
  refine ⟨_, _, Lim_A is119 (h' := h') (nbA rfl) (env := [(0, .d (.rd (sig.map qb9))), (1, .d (.rd (t.map intD))), (4, PI (qn9 sig t)), (6, PI (qn9 sig t))]) (e := .ret) ?_ (.inr rfl) (vs := [PI (qn9 sig t)]) rfl, rfl⟩
  simp +decide only [c119, qrN9, qrK9, qrF9, qL9, go_sem, opNil, hcall]
theorem qjU9 {a0 : List Symbol} {a1 : List Int} {r : Int} (hr : qel9 a0 a1 = some r) {h : AHeap} : callP C (Lim C) 119 (TArgs a0 a1) h = some (PI r, h) := qkv9 (ds := [.rd (a0.map qb9), .rd (a1.map intD)]) rfl rfl rfl (qpn9 hr) h

def qmd9 : ACode := .seq (.reg [] [] [.K 47 (.bin .lss (.tmp 46) (.tmp 45))]) (.seq (.cond (.tmp 47) (some 47) (.skip) (.exit 1)) (.seq (.block 2 9147936743096832 (.seq (.reg [] [] [.T 48 (.ix 1 (.tmp 44) (.tmp 46)), .T 49 (.load none (.tmp 48)), .N 9 49]) (.seq (.reg [] [] [.M 50 7, .M 51 9, .T 52 (.call 121 [.tmp 50, .tmp 51]), .K 53 (.not (.tmp 52))]) (.cond (.tmp 53) (some 53) (.seq (.reg [] [] [.K 4 (.mv (cI 72))]) (.ret)) (.skip))))) (.reg [] [] [.T 54 (.bin .add (.tmp 46) (cI 1)), .N 46 54])))
def c101 : ACode := .seq (.reg [] [] [.K 3 (.box (.tmp 1)), .K 4 (.mv (cI 0))]) (.seq (.seq (.reg [] [] [.M 10 0, .T 11 (.fa 0 (.tmp 3)), .T 12 (.load none (.tmp 11)), .T 13 (.call 119 [.tmp 10, .tmp 12]), .N 5 13]) (.seq (.reg [] [] [.M 14 5, .K 15 (.bin .neq (.tmp 14) (cI 0))]) (.cond (.tmp 15) (some 15) (.seq (.reg [] [] [.M 16 5, .N 4 16]) (.ret)) (.skip)))) (.seq (.seq (.reg [] [] [.M 17 0, .T 18 (.fa 1 (.tmp 3)), .T 19 (.load none (.tmp 18)), .T 20 (.call 119 [.tmp 17, .tmp 19]), .N 6 20]) (.seq (.reg [] [] [.M 21 6, .K 22 (.bin .neq (.tmp 21) (cI 0))]) (.cond (.tmp 22) (some 22) (.seq (.reg [] [] [.M 23 6, .N 4 23]) (.ret)) (.skip)))) (.seq (.block 0 8606711808 (.seq (.reg [] [] [.T 25 (.fa 0 (.tmp 3)), .T 26 (.load none (.tmp 25)), .T 27 (.len (.tmp 26)), .T 28 (.fa 1 (.tmp 3)), .T 29 (.load none (.tmp 28)), .T 30 (.len (.tmp 29)), .T 31 (.raw ({ dst := some 31, op := Go.Op.call { callee := Go.Callee.builtin Go.Builtin.max, args := #[.tmp 27, .tmp 30], argTypes := #[3, 3] }, type := 3, pos := "system.go:37", after := #[{ on := 2, ground := Go.Ground.data }, { on := 5, ground := Go.Ground.data }], guard := none })), .T 32 (.bin .gtr (.tmp 31) (cI 512)), .N 24 32]) (.cond (.tmp 24) (some 24) (.seq (.reg [] [] [.K 4 (.mv (cI 2))]) (.ret)) (.seq (.reg [] [] [.T 34 (.fa 0 (.tmp 3)), .T 35 (.load none (.tmp 34)), .T 36 (.ix 1 (.tmp 35) (cI 0)), .T 37 (.load none (.tmp 36)), .T 38 (.bin .lss (.tmp 37) (cI 0)), .N 33 38]) (.cond (.tmp 33) (some 33) (.seq (.reg [] [] [.K 4 (.mv (cI 71))]) (.ret)) (.skip)))))) (.seq (.reg [] [] [.T 39 (.fa 0 (.tmp 3)), .T 40 (.load none (.tmp 39)), .T 41 (.call 120 [.tmp 40]), .N 7 41]) (.seq (.seq (.reg [] [] [.T 42 (.fa 1 (.tmp 3)), .T 43 (.load none (.tmp 42)), .K 44 (.call 120 [.tmp 43]), .K 45 (.len (.tmp 44)), .K 46 (.mv (cI 0))]) (.block 1 9147936743096832 (.loop qmd9))) (.seq (.reg [] [] [.K 4 (.mv (cI 0))]) (.ret)))))))
theorem is101 : IsF C 101 55 9271090656346875 c101 [.tmp 4] := ⟨⟨Tryd.f101, _, C_P ▸ Tryd.func101, rfl, rfl, rfl, by kernel_rfl, rfl⟩⟩
def qdU9 (s0 : List Symbol) (s1 : Rule) (s5 : Int) (s6 : Int) (s7 : List Int) (s44 : List Int) (s45 : Int) (b3_0 : List Int) (b3_1 : List Int) : Int → Unit → St := fun s46 _ => ⟨[(0, .d (.rd (s0.map qb9))), (1, .d (.ag (qd9 s1))), (3, .ptr 0 0 0 0), (4, PI 0), (5, PI s5), (6, PI s6), (7, .d (.rd (s7.map intD))), (44, .d (.rd (s44.map intD))), (45, PI s45), (46, PI s46)], (.row false 0 2 [[.d (.rd (b3_0.map intD)), .d (.rd (b3_1.map intD))]] :: [])⟩
def qmn9 (s0 : List Symbol) (s1 : Rule) (s5 : Int) (s6 : Int) (s7 : List Int) (s44 : List Int) (s45 : Int) (b3_0 : List Int) (b3_1 : List Int) : (Int ⊕ Int) → AExit × St → Prop
  | .inl r, q => XV C [.tmp 4] (PI r) q
  | .inr s46, q => ∃ g, q = (.exit 1, qdU9 s0 s1 s5 s6 s7 s44 s45 b3_0 b3_1 s46 g)
theorem qmo9 {s0 : List Symbol} {s1 : Rule} {s5 : Int} {s6 : Int} {s7 : List Int} {s44 : List Int} {s45 : Int} {b3_0 : List Int} {b3_1 : List Int} : Sim C 9271090656346875 qmd9 (qbM9 s0 s1 s5 s6 s7 s44 s45 b3_0 b3_1) (qdU9 s0 s1 s5 s6 s7 s44 s45 b3_0 b3_1) (qmn9 s0 s1 s5 s6 s7 s44 s45 b3_0 b3_1) := by
  intro s g r hr
  have ⟨s46, hs0⟩ : ∃ y, y = s := ⟨_, rfl⟩
  subst hs0
  simp only [qbM9] at hr
  rcases iteP hr with ⟨h1, hr⟩ | ⟨h1, hr⟩
  obtain ⟨x6, h2, x7, h3, hr⟩ := bs2 hr
  have h3k := (qhn9 h3).k rfl rfl rfl
  try simp only [go_sem] at h3k
  rcases iteB hr with ⟨h4, hr⟩ | ⟨h4, hr⟩
  obtain rfl := oiA hr
  refine ⟨(), ?_⟩
  rotate_left
  obtain rfl := oiA hr
  refine xv_of ?_
  rotate_left
  obtain rfl := oiA hr
  refine xe_of ⟨(), rfl⟩ ?_
  rotate_left
  all_goals (simp +decide only [go_sem, qdU9, qmd9, *])
theorem qnV9 {a0 : List Symbol} {a1 : Rule} {r : Int} (hr : qQ9 a0 a1 = some r) : Res C 101 [.rd (a0.map qb9), .ag (qd9 a1)] (PI r) := by
  simp only [qQ9] at hr
  obtain ⟨x1, h1, hr⟩ := bsome hr
  have h1k := fun h => qjU9 (h := h) h1
  try simp only [go_sem] at h1k
  rcases iteP hr with ⟨h2, hr⟩ | ⟨h2, hr⟩
  obtain ⟨x2, h3, hr⟩ := bsome hr
  have h3k := fun h => qjU9 (h := h) h3
  try simp only [go_sem] at h3k
  rcases iteP hr with ⟨h4, hr⟩ | ⟨h4, hr⟩
  rcases iteP hr with ⟨h5, hr⟩ | ⟨h5, hr⟩
  obtain rfl := oiA hr
  refine run_V is101 (nbA rfl) ?_
  rotate_left
  obtain ⟨x3, h6, hr⟩ := bsome hr
  rcases iteP hr with ⟨h7, hr⟩ | ⟨h7, hr⟩
  obtain rfl := oiA hr
  refine run_V is101 (nbA rfl) ?_
  rotate_left
  obtain ⟨x4, h8, x5, h9, hr⟩ := bs2 hr
  have h8k := (qkM9 h8).k rfl rfl rfl
  try simp only [go_sem] at h8k
  have h9k := (qkM9 h9).k rfl rfl rfl
  try simp only [go_sem] at h9k
  obtain ⟨x8, h10, hr⟩ := bsome hr
  obtain ⟨q10, h10L, h10X⟩ := qmo9.L (g := ()) h10
  rcases x8 with x9 | x10
  try dsimp only at hr
  obtain ⟨st10, rfl, h10R⟩ := h10X
  simp only [qdU9, go_sem] at h10L
  obtain rfl := oiA hr
  refine run_V is101 (nbA rfl) ?_
  rotate_left
  try dsimp only at hr
  obtain ⟨⟨⟩, rfl⟩ := h10X
  simp only [qdU9, go_sem] at h10L
  obtain rfl := oiA hr
  refine run_V is101 (nbA rfl) ?_
  rotate_left
  obtain rfl := oiA hr
  refine run_V is101 (nbA rfl) ?_
  rotate_left
  obtain rfl := oiA hr
  refine run_V is101 (nbA rfl) ?_
  rotate_left
  all_goals (simp +decide only [go_sem, c101, *])
def qqj9 : ACode := .seq (.reg [] [] [.K 22 (.bin .lss (.tmp 21) (.tmp 20))]) (.seq (.cond (.tmp 22) (some 22) (.skip) (.exit 0)) (.seq (.block 1 2151678176 (.seq (.reg [] [] [.M 23 21, .T 24 (.ix 2 (.tmp 19) (.tmp 21)), .T 25 (.load (some 2) (.tmp 24)), .K 6 (.alloc [.im true [], .im true []] 2), .N 5 23, ⟨none, .store 2 (.tmp 6) (.tmp 25), none, false, false⟩]) (.seq (.reg [] [] [.T 26 (.fa 0 (.tmp 1)), .T 27 (.load none (.tmp 26)), .T 28 (.load (some 2) (.tmp 6)), .T 29 (.call 101 [.tmp 27, .tmp 28]), .N 7 29]) (.seq (.reg [] [] [.M 30 7, .K 31 (.bin .neq (.tmp 30) (cI 0))]) (.cond (.tmp 31) (some 31) (.seq (.reg [] [] [.M 32 7, .M 33 5, .N 2 32, .N 3 33]) (.ret)) (.skip)))))) (.reg [] [] [.T 34 (.bin .add (.tmp 21) (cI 1)), .N 21 34])))
def c77 : ACode := .seq (.reg [] [] [.K 1 (.box (.tmp 0)), .K 2 (.mv (cI 0)), .K 3 (.mv (cI 0))]) (.seq (.seq (.reg [] [] [.T 8 (.fa 0 (.tmp 1)), .T 9 (.load none (.tmp 8)), .T 10 (.call 100 [.tmp 9]), .N 4 10]) (.seq (.reg [] [] [.M 11 4, .K 12 (.bin .neq (.tmp 11) (cI 0))]) (.cond (.tmp 12) (some 12) (.seq (.reg [] [] [.M 13 4, .N 2 13, .K 3 (.mv (cI (-1)))]) (.ret)) (.skip)))) (.seq (.seq (.reg [] [] [.T 14 (.fa 1 (.tmp 1)), .T 15 (.load none (.tmp 14)), .T 16 (.len (.tmp 15)), .K 17 (.bin .gtr (.tmp 16) (cI 64))]) (.cond (.tmp 17) (some 17) (.seq (.reg [] [] [.K 2 (.mv (cI 70)), .K 3 (.mv (cI (-1)))]) (.ret)) (.skip))) (.seq (.seq (.reg [] [] [.T 18 (.fa 1 (.tmp 1)), .K 19 (.load none (.tmp 18)), .K 20 (.len (.tmp 19)), .K 21 (.mv (cI 0))]) (.block 0 2151678176 (.loop qqj9))) (.seq (.reg [] [] [.K 2 (.mv (cI 0)), .K 3 (.mv (cI 0))]) (.ret)))))
theorem is77 : IsF C 77 35 2155483391 c77 [.tmp 2, .tmp 3] := ⟨⟨Tryd.f77, _, C_P ▸ Tryd.func77, rfl, rfl, rfl, by kernel_rfl, rfl⟩⟩
def qdN9 (s0 : System) (s4 : Int) (s19 : List Rule) (s20 : Int) (b1_0 : List Symbol) (b1_1 : List Rule) : Int → AHeap → St := fun s21 gt => ⟨[(0, .d (.ag (qg9 s0))), (1, .ptr 0 0 0 0), (2, PI 0), (3, PI 0), (4, PI s4), (19, .d (.rd (s19.map qd9))), (20, PI s20), (21, PI s21)], (.row false 0 2 [[.d (.rd (b1_0.map qb9)), .d (.rd (b1_1.map qd9))]] :: gt)⟩
def qlB9 (s0 : System) (s4 : Int) (s19 : List Rule) (s20 : Int) (b1_0 : List Symbol) (b1_1 : List Rule) : ((Int × Int) ⊕ Int) → AExit × St → Prop
  | .inl r, q => XV C [.tmp 2, .tmp 3] (.tp [PI r.1, PI r.2]) q
  | .inr s21, q => ∃ g, q = (.exit 0, qdN9 s0 s4 s19 s20 b1_0 b1_1 s21 g)
theorem qlk9 {s0 : System} {s4 : Int} {s19 : List Rule} {s20 : Int} {b1_0 : List Symbol} {b1_1 : List Rule} : Sim C 2155483391 qqj9 (qbF9 s0 s4 s19 s20 b1_0 b1_1) (qdN9 s0 s4 s19 s20 b1_0 b1_1) (qlB9 s0 s4 s19 s20 b1_0 b1_1) := by
  intro s g r hr
  have ⟨s21, hs0⟩ : ∃ y, y = s := ⟨_, rfl⟩
  subst hs0
  have ⟨gt, hg0⟩ : ∃ y, y = g := ⟨_, rfl⟩
  subst hg0
  simp only [qbF9] at hr
  rcases iteP hr with ⟨h1, hr⟩ | ⟨h1, hr⟩
  obtain ⟨x2, h2, x3, h3, hr⟩ := bs2 hr
  have h3k := fun h => (qnV9 h3).o rfl rfl rfl (h := h) (args := [.d (.rd (b1_0.map qb9)), .ag [.d (.rd (x2.L.map intD)), .d (.rd (x2.R.map intD))]]) rfl
  try simp only [go_sem] at h3k
  rcases iteP hr with ⟨h4, hr⟩ | ⟨h4, hr⟩
  obtain rfl := oiA hr
  refine ⟨(gt ++ (.row false 0 2 [[.d (.rd (x2.L.map intD)), .d (.rd (x2.R.map intD))]] :: [])), ?_⟩
  rotate_left
  obtain rfl := oiA hr
  refine xv_of ?_
  rotate_left
  obtain rfl := oiA hr
  refine xe_of ⟨gt, rfl⟩ ?_
  rotate_left
  all_goals (simp +decide only [go_sem, qdN9, qqj9, *])
theorem qiS9 {a0 : System} {r : Int × Int} (hr : qcT9 a0 = some r) : Res C 77 [.ag (qg9 a0)] (.tp [PI r.1, PI r.2]) := by
  simp only [qcT9] at hr
  obtain ⟨x1, h1, hr⟩ := bsome hr
  have h1k := (qmV9 h1).k rfl rfl rfl
  try simp only [go_sem] at h1k
  rcases iteP hr with ⟨h2, hr⟩ | ⟨h2, hr⟩
  rcases iteP hr with ⟨h3, hr⟩ | ⟨h3, hr⟩
  obtain rfl := oiA hr
  refine run_V is77 (nbA rfl) ?_
  rotate_left
  obtain ⟨x4, h4, hr⟩ := bsome hr
  obtain ⟨q4, h4L, h4X⟩ := qlk9.L (g := []) h4
  rcases x4 with x5 | x6
  try dsimp only at hr
  obtain ⟨st4, rfl, h4R⟩ := h4X
  simp only [qdN9, go_sem] at h4L
  obtain rfl := oiA hr
  refine run_V is77 (nbA rfl) ?_
  rotate_left
  try dsimp only at hr
  obtain ⟨z7, rfl⟩ := h4X
  simp only [qdN9, go_sem] at h4L
  obtain rfl := oiA hr
  refine run_V is77 (nbA rfl) ?_
  rotate_left
  obtain rfl := oiA hr
  refine run_V is77 (nbA rfl) ?_
  rotate_left
  all_goals (simp +decide only [go_sem, c77, *])
end Ld

import Derived.Test.YtfjgfcnhklopdaaDoorWNW1
import Derived.Test.YtfjgfcnhklopdaaDoorWNW2
import Derived.Test.YtfjgfcnhklopdaaDoorWNW7
set_option maxHeartbeats 4000000
set_option linter.unusedVariables false
set_option linter.unusedSimpArgs false
namespace Ld
open Go Go.Proofs Go.Abs
set_option maxRecDepth 8000
def qoi9 : ACode := .reg [] [] [.K 4 (.mv (cI 0))]
def qqa9 : ACode := .reg [] [] [.M 8 0, .M 9 1, .T 10 (.call 91 [.tmp 8, .tmp 9]), .M 7 10, .T 11 (.ext (.tmp 7) 0), .T 12 (.ext (.tmp 7) 1), .M 5 11, .N 6 12]
def qqe9 : ACode := .reg [] [] [.M 13 6, .N 4 13]
def c62 : ACode := .seq (qoi9) (.seq (qqa9) (.seq (qqe9) (.ret)))
theorem is62 : IsF C 62 14 83 c62 [.tmp 4] := ⟨⟨Tryd.f62, _, C_P ▸ Tryd.func62, rfl, rfl, rfl, by kernel_rfl, rfl⟩⟩
theorem qpa9 {sig : List Symbol} {t : List Int} {r : Int} (hr : qbG9 sig t = some r) : ∃ p hp, Lim C 62 (TArgs sig t) [] = some (p, hp) ∧ rsT hp p = some (PI r) := by
  simp only [qbG9] at hr
  obtain ⟨e, he, hr⟩ := bsome hr
  by_cases h0 : e = 0
  · subst h0
    simp only [if_true] at hr
    obtain ⟨hL, hr⟩ := gsome hr
    replace hr := oiA hr
    subst hr
    obtain ⟨x, h', q1, _⟩ := qxt9 (of_eq_true hL) (fun s hs => by have := qdq9 he s hs; omega) he []
    have hcall : callP C (Lim C) 91 (TArgs sig t) [] = some (.tp [x, PI (qn9 sig t)], h') := q1
    refine ⟨_, _, Lim_A is62 (h' := h') (nbA rfl) (env := [(0, .d (.rd (sig.map qb9))), (1, .d (.rd (t.map intD))), (4, PI (qn9 sig t)), (6, PI (qn9 sig t))]) (e := .ret) ?_ (.inr rfl) (vs := [PI (qn9 sig t)]) rfl, rfl⟩
    simp +decide only [c62, qoi9, qqa9, qqe9, qL9, go_sem, opNil, hcall]
  · rw [if_neg h0] at hr
    replace hr := oiA hr
    subst hr
    have hcall : callP C (Lim C) 91 (TArgs sig t) [] = some (.tp [.d (.v .nilIface), PI e], []) := qxp9 he h0 []
    refine ⟨_, _, Lim_A is62 (h' := []) (nbA rfl) (env := [(0, .d (.rd (sig.map qb9))), (1, .d (.rd (t.map intD))), (4, PI e), (6, PI e)]) (e := .ret) ?_ (.inr rfl) (vs := [PI e]) rfl, rfl⟩
    simp +decide only [c62, qoi9, qqa9, qqe9, qL9, go_sem, opNil, hcall]
theorem qgu9 {a0 : List Symbol} {a1 : List Int} {r : Int} (hr : qbG9 a0 a1 = some r) {h : AHeap} : callP C (Lim C) 62 (TArgs a0 a1) h = some (PI r, h) := qkv9 (ds := [.rd (a0.map qb9), .rd (a1.map intD)]) rfl rfl rfl (qpa9 hr) h

def c57 : ACode := .seq (.reg [] [] [.K 2 (.box (.tmp 0)), .K 4 (.mv (cI 0))]) (.seq (.seq (.reg [] [] [.T 8 (.load (some 2) (.tmp 2)), .T 9 (.call 77 [.tmp 8]), .M 7 9, .T 10 (.ext (.tmp 7) 0), .T 11 (.ext (.tmp 7) 1), .N 5 10, .M 6 11]) (.seq (.reg [] [] [.M 12 5, .K 13 (.bin .neq (.tmp 12) (cI 0))]) (.cond (.tmp 13) (some 13) (.seq (.reg [] [] [.M 14 5, .N 4 14]) (.ret)) (.skip)))) (.seq (.reg [] [] [.T 15 (.fa 0 (.tmp 2)), .T 16 (.load none (.tmp 15)), .M 17 1, .T 18 (.call 62 [.tmp 16, .tmp 17]), .N 4 18]) (.ret)))
theorem is57 : IsF C 57 19 8247 c57 [.tmp 4] := ⟨⟨Tryd.f57, _, C_P ▸ Tryd.func57, rfl, rfl, rfl, by kernel_rfl, rfl⟩⟩
theorem qln9 {a0 : System} {a1 : List Int} {r : Int} (hr : qij9 a0 a1 = some r) : Res C 57 [.ag (qg9 a0), .rd (a1.map intD)] (PI r) := by
  simp only [qij9] at hr
  obtain ⟨x1, h1, hr⟩ := bsome hr
  have h1k := fun h => (qiS9 h1).o rfl rfl rfl (h := h) (args := [.ag [.d (.rd (a0.Sig.map qb9)), .d (.rd (a0.Rules.map qd9))]]) rfl
  try simp only [go_sem] at h1k
  rcases iteP hr with ⟨h2, hr⟩ | ⟨h2, hr⟩
  obtain ⟨x2, h3, hr⟩ := bsome hr
  have h3k := fun h => qgu9 (h := h) h3
  try simp only [go_sem] at h3k
  obtain rfl := oiA hr
  refine run_V is57 (nbA rfl) ?_
  rotate_left
  obtain rfl := oiA hr
  refine run_V is57 (nbA rfl) ?_
  rotate_left
  all_goals (simp +decide only [go_sem, c57, *])
def c42 : ACode := .seq (.reg [] [] [.K 2 (.box (.tmp 0)), .K 4 (.mv (cI 0))]) (.seq (.seq (.reg [] [] [.T 8 (.load (some 2) (.tmp 2)), .T 9 (.call 77 [.tmp 8]), .M 7 9, .T 10 (.ext (.tmp 7) 0), .T 11 (.ext (.tmp 7) 1), .N 5 10, .M 6 11]) (.seq (.reg [] [] [.M 12 5, .K 13 (.bin .neq (.tmp 12) (cI 0))]) (.cond (.tmp 13) (some 13) (.seq (.reg [] [] [.M 14 5, .N 4 14]) (.ret)) (.skip)))) (.seq (.reg [] [] [.T 15 (.fa 0 (.tmp 2)), .T 16 (.load none (.tmp 15)), .M 17 1, .T 18 (.call 62 [.tmp 16, .tmp 17]), .N 4 18]) (.ret)))
theorem is42 : IsF C 42 19 8247 c42 [.tmp 4] := ⟨⟨Tryd.f42, _, C_P ▸ Tryd.func42, rfl, rfl, rfl, by kernel_rfl, rfl⟩⟩
theorem qjI9 {a0 : System} {a1 : List Int} {r : Int} (hr : qfb9 a0 a1 = some r) : Res C 42 [.ag (qg9 a0), .rd (a1.map intD)] (PI r) := by
  simp only [qfb9] at hr
  obtain ⟨x1, h1, hr⟩ := bsome hr
  have h1k := fun h => (qiS9 h1).o rfl rfl rfl (h := h) (args := [.ag [.d (.rd (a0.Sig.map qb9)), .d (.rd (a0.Rules.map qd9))]]) rfl
  try simp only [go_sem] at h1k
  rcases iteP hr with ⟨h2, hr⟩ | ⟨h2, hr⟩
  obtain ⟨x2, h3, hr⟩ := bsome hr
  have h3k := fun h => qgu9 (h := h) h3
  try simp only [go_sem] at h3k
  obtain rfl := oiA hr
  refine run_V is42 (nbA rfl) ?_
  rotate_left
  obtain rfl := oiA hr
  refine run_V is42 (nbA rfl) ?_
  rotate_left
  all_goals (simp +decide only [go_sem, c42, *])
def qos9 : ACode := .seq (.reg [] [] [.K 14 (.bin .lss (.tmp 13) (.tmp 12))]) (.seq (.cond (.tmp 14) (some 14) (.skip) (.exit 0)) (.seq (.block 1 16793632 (.seq (.reg [] [] [.M 15 13, .N 5 15]) (.seq (.reg [] [] [.M 16 0, .M 17 5, ⟨some (18, false), .ix 1 (.tmp 16) (.tmp 17), none, true, false⟩, ⟨some (19, false), .load none (.tmp 18), none, true, false⟩, .M 20 1, .M 21 5, ⟨some (22, false), .ix 1 (.tmp 20) (.tmp 21), none, true, false⟩, ⟨some (23, false), .load none (.tmp 22), none, true, false⟩, .K 24 (.bin .neq (.tmp 19) (.tmp 23))]) (.cond (.tmp 24) (some 24) (.seq (.reg [] [] [.K 4 (.mv (.const (.bool false)))]) (.ret)) (.skip))))) (.reg [] [] [.T 25 (.bin .add (.tmp 13) (cI 1)), .N 13 25])))
def c82 : ACode := .seq (.reg [] [] [.K 4 (.mv (.const (.bool false)))]) (.seq (.seq (.reg [] [] [.M 6 0, .T 7 (.len (.tmp 6)), .M 8 1, .T 9 (.len (.tmp 8)), .K 10 (.bin .neq (.tmp 7) (.tmp 9))]) (.cond (.tmp 10) (some 10) (.seq (.reg [] [] [.K 4 (.mv (.const (.bool false)))]) (.ret)) (.skip))) (.seq (.seq (.reg [] [] [.M 11 0, .K 12 (.len (.tmp 11)), .K 13 (.mv (cI 0))]) (.block 0 16793632 (.loop qos9))) (.seq (.reg [] [] [.K 4 (.mv (.const (.bool true)))]) (.ret))))
theorem is82 : IsF C 82 26 16806963 c82 [.tmp 4] := ⟨⟨Tryd.f82, _, C_P ▸ Tryd.func82, rfl, rfl, rfl, by kernel_rfl, rfl⟩⟩
def qbE9 (s0 : List Int) (s1 : List Int) (s12 : Int) : Int → Unit → St := fun s13 _ => ⟨[(0, .d (.rd (s0.map intD))), (1, .d (.rd (s1.map intD))), (4, PB false), (12, PI s12), (13, PI s13)], []⟩
def qhK9 (s0 : List Int) (s1 : List Int) (s12 : Int) : (Bool ⊕ Int) → AExit × St → Prop
  | .inl r, q => XV C [.tmp 4] (PB r) q
  | .inr s13, q => ∃ g, q = (.exit 0, qbE9 s0 s1 s12 s13 g)
theorem qhJ9 {s0 : List Int} {s1 : List Int} {s12 : Int} : Sim C 16806963 qos9 (qcv9 s0 s1 s12) (qbE9 s0 s1 s12) (qhK9 s0 s1 s12) := by
  intro s g r hr
  have ⟨s13, hs0⟩ : ∃ y, y = s := ⟨_, rfl⟩
  subst hs0
  simp only [qcv9] at hr
  rcases iteP hr with ⟨h1, hr⟩ | ⟨h1, hr⟩
  obtain ⟨x1, h2, x2, h3, hr⟩ := bs2 hr
  rcases iteP hr with ⟨h4, hr⟩ | ⟨h4, hr⟩
  obtain rfl := oiA hr
  refine ⟨(), ?_⟩
  rotate_left
  obtain rfl := oiA hr
  refine xv_of ?_
  rotate_left
  obtain rfl := oiA hr
  refine xe_of ⟨(), rfl⟩ ?_
  rotate_left
  all_goals (simp +decide only [go_sem, qbE9, qos9, *])
theorem qih9 {a0 : List Int} {a1 : List Int} {r : Bool} (hr : qbz9 a0 a1 = some r) : Res C 82 [.rd (a0.map intD), .rd (a1.map intD)] (PB r) := by
  simp only [qbz9] at hr
  rcases iteP hr with ⟨h1, hr⟩ | ⟨h1, hr⟩
  obtain ⟨x3, h2, hr⟩ := bsome hr
  obtain ⟨q2, h2L, h2X⟩ := qhJ9.L (g := ()) h2
  rcases x3 with x4 | x5
  try dsimp only at hr
  obtain ⟨st2, rfl, h2R⟩ := h2X
  simp only [qbE9, go_sem] at h2L
  obtain rfl := oiA hr
  refine run_V is82 (nbA rfl) ?_
  rotate_left
  try dsimp only at hr
  obtain ⟨⟨⟩, rfl⟩ := h2X
  simp only [qbE9, go_sem] at h2L
  obtain rfl := oiA hr
  refine run_V is82 (nbA rfl) ?_
  rotate_left
  obtain rfl := oiA hr
  refine run_V is82 (nbA rfl) ?_
  rotate_left
  all_goals (simp +decide only [go_sem, c82, *])
def qpR9 : ACode := .seq (.reg [] [] [.K 33 (.bin .lss (.tmp 32) (.tmp 31))]) (.seq (.cond (.tmp 33) (some 33) (.skip) (.exit 0)) (.seq (.block 1 604467521783612674930688 (.seq (.reg [] [] [.T 34 (.ix 1 (.tmp 30) (.tmp 32)), .T 35 (.load none (.tmp 34)), .N 11 35]) (.seq (.reg [] [] [.M 36 11, .T 37 (.call 80 [.tmp 36]), .N 12 37]) (.seq (.seq (.reg [] [] [.M 39 12, .T 40 (.asr 128 (some (.d (.v (.int .i64 0)))) (.tmp 39) true), .M 38 40, .T 41 (.ext (.tmp 38) 0), .T 42 (.ext (.tmp 38) 1), .N 13 41, .N 14 42]) (.seq (.reg [] [] [.N 43 14]) (.cond (.tmp 43) (some 43) (.seq (.seq (.reg [] [] [.M 44 2, .T 45 (.ix 1 (.tmp 44) (cI 0)), .T 46 (.load none (.tmp 45)), .M 47 13, .K 48 (.bin .neq (.tmp 46) (.tmp 47))]) (.cond (.tmp 48) (some 48) (.seq (.reg [] [(6, 0)] [.K 6 (.mv (.const (.slice none 0 0))), .K 7 (.mv (.const (.bool false)))]) (.ret)) (.skip))) (.seq (.reg [] [] [.M 49 2, .T 50 (.cut 1 (.tmp 49) (some (cI 1)) none), .N 2 50]) (.exit 1))) (.skip)))) (.seq (.reg [] [] [.M 51 12, .T 52 (.asr 130 (some (.d (.v (.int .i64 0)))) (.tmp 51) false), .N 15 52]) (.seq (.reg [] [] [.M 53 0, .M 54 2, .T 55 (.call 81 [.tmp 53, .tmp 54]), .N 16 55]) (.seq (.reg [] [(17, 0)] [.M 57 8, .M 58 15, .T 59 (.look (Go.TypeDesc.int .i64) (.im true []) (.tmp 57) (.tmp 58) true), .M 56 59, .T 60 (.ext (.tmp 56) 0), .T 61 (.ext (.tmp 56) 1), .N 17 60, .N 18 61]) (.seq (.block 2 604467521783612674865152 (.seq (.reg [] [] [.M 63 18, .T 64 (.not (.tmp 63)), .N 62 64]) (.cond (.tmp 62) (some 62) (.seq (.reg [] [] [.M 65 8, .M 66 15, .M 67 2, .M 68 16, .T 69 (.cut 1 (.tmp 67) none (some (.tmp 68))), ⟨none, .mput (Go.TypeDesc.int .i64) (.tmp 65) (.tmp 66) (.tmp 69), none, false, false⟩]) (.reg [] [] [.M 70 9, .M 71 15, .M 72 2, .M 73 16, .T 74 (.cut 1 (.tmp 72) none (some (.tmp 73))), ⟨some (75, false), .call 58 [.tmp 74], none, false, true⟩, .T 76 (.build [(0, 1), (1, 1)] [.d (.v (.int .i64 0)), .im true []] [(0, .tmp 71), (1, .tmp 75)]), .T 77 (.lit 2 [(0, .tmp 76)]), .T 78 (.app 2 32 (.tmp 70) (.tmp 77)), .N 9 78])) (.seq (.reg [] [] [.M 80 17, .M 81 2, .M 82 16, .T 83 (.cut 1 (.tmp 81) none (some (.tmp 82))), .T 84 (.call 82 [.tmp 80, .tmp 83]), .T 85 (.not (.tmp 84)), .N 79 85]) (.cond (.tmp 79) (some 79) (.seq (.reg [] [(6, 0)] [.K 6 (.mv (.const (.slice none 0 0))), .K 7 (.mv (.const (.bool false)))]) (.ret)) (.skip)))))) (.reg [] [] [.M 86 2, .M 87 16, .T 88 (.cut 1 (.tmp 86) (some (.tmp 87)) none), .N 2 88]))))))))) (.reg [] [] [.T 89 (.bin .add (.tmp 32) (cI 1)), .N 32 89])))
def c49 : ACode := .seq (.reg [] [(6, 0)] [.K 6 (.mv (.const (.slice none 0 0))), .K 7 (.mv (.const (.bool false)))]) (.seq (.seq (.reg [] [] [.M 19 0, .M 20 1, .T 21 (.call 62 [.tmp 19, .tmp 20]), .T 22 (.bin .neq (.tmp 21) (cI 0)), .M 23 22, .MG 24 23 false 0, .MG 25 23 false 2, .TG 26 23 false (.call 62 [.tmp 24, .tmp 25]), .TG 27 23 false (.bin .neq (.tmp 26) (cI 0)), .K 28 (.pick (.tmp 23) (.const (.bool true)) (.tmp 27))]) (.cond (.tmp 28) (some 28) (.seq (.reg [] [(6, 0)] [.K 6 (.mv (.const (.slice none 0 0))), .K 7 (.mv (.const (.bool false)))]) (.ret)) (.skip))) (.seq (.reg [] [] [.T 29 (.mkMap), .N 8 29]) (.seq (.reg [] [(9, 2)] [.K 9 (.mv (.const (.slice none 0 0)))]) (.seq (.seq (.reg [] [] [.N 30 1, .K 31 (.len (.tmp 30)), .K 32 (.mv (cI 0))]) (.block 0 604467521783612674930688 (.loop qpR9))) (.seq (.reg [] [] [.M 90 9, .T 91 (.call 83 [.tmp 90, .func 84])]) (.seq (.reg [] [(6, 0)] [.M 92 9, .N 6 92, .K 7 (.mv (.const (.bool true)))]) (.ret)))))))
theorem is49 : IsF C 49 93 604467521783620459559879 c49 [.tmp 6, .tmp 7] := ⟨⟨Tryd.f49, _, C_P ▸ Tryd.func49, rfl, rfl, rfl, by kernel_rfl, rfl⟩⟩
def qdZ9 (s0 : List Symbol) (s1 : List Int) (s6 : List Bind) (s30 : List Int) (s31 : Int) : (List Int) × Int × (List (Int × (List Int))) × (List Bind) → Nat × AHeap → St := fun (s2, s32, m8, o9) (v9, gt) => ⟨[(0, .d (.rd (s0.map qb9))), (1, .d (.rd (s1.map intD))), (2, .d (.rd (s2.map intD))), (6, .d (.rd (s6.map qc9))), (7, PB false), (8, .mp 0), (9, .ref 1 v9 0 o9.length), (30, .d (.rd (s30.map intD))), (31, PI s31), (32, PI s32)], (.map (mapP keyI (lsD intD) m8) :: (.row false v9 2 (rowP qc9 o9) :: gt))⟩
def qmg9 (s0 : List Symbol) (s1 : List Int) (s6 : List Bind) (s30 : List Int) (s31 : Int) : (((List Bind) × Bool) ⊕ ((List Int) × Int × (List (Int × (List Int))) × (List Bind))) → AExit × St → Prop
  | .inl r, q => XV C [.tmp 6, .tmp 7] (.tp [.d (.rd (r.1.map qc9)), PB r.2]) q
  | .inr (s2, s32, m8, o9), q => ∃ g, q = (.exit 0, qdZ9 s0 s1 s6 s30 s31 (s2, s32, m8, o9) g)
theorem qmB9 {s0 : List Symbol} {s1 : List Int} {s6 : List Bind} {s30 : List Int} {s31 : Int} : Sim C 604467521783620459559879 qpR9 (qba9 s0 s1 s6 s30 s31) (qdZ9 s0 s1 s6 s30 s31) (qmg9 s0 s1 s6 s30 s31) := by
  intro s g r hr
  obtain ⟨s2, s32, m8, o9⟩ := s
  obtain ⟨v9, gt⟩ := g
  simp only [qba9] at hr
  rcases iteP hr with ⟨h1, hr⟩ | ⟨h1, hr⟩
  obtain ⟨x3, h2, x4, h3, hr⟩ := bs2 hr
  have h3k := (qoo9 h3).k rfl rfl rfl
  try simp only [go_sem] at h3k
  obtain ⟨h4, hr⟩ := gsome hr
  rcases h5 : asI 128 .i64 x4 with _ | x5
  simp only [h5] at hr
  obtain ⟨x8, h6, x9, h7, hr⟩ := bs2 hr
  have h7k := (qnM9 h7).k rfl rfl rfl
  try simp only [go_sem] at h7k
  rcases h8 : mget m8 x8 with _ | x10
  simp only [h8] at hr
  obtain ⟨x14, h9, hr⟩ := bsome hr
  obtain ⟨h10, hr⟩ := gsome hr
  obtain ⟨h11, hr⟩ := gsome hr
  obtain ⟨x15, h12, hr⟩ := bsome hr
  obtain rfl := oiA hr
  refine ⟨((v9 + 1), (gt ++ (.row true 0 1 (rowP intD x14) :: []))), ?_⟩
  rotate_left
  simp only [h8] at hr
  obtain ⟨x11, h13, x12, h14, hr⟩ := bs2 hr
  have h14k := (qih9 h14).k rfl rfl rfl
  try simp only [go_sem] at h14k
  rcases iteB hr with ⟨h15, hr⟩ | ⟨h15, hr⟩
  obtain ⟨x13, h16, hr⟩ := bsome hr
  obtain rfl := oiA hr
  refine ⟨(v9, gt), ?_⟩
  rotate_left
  obtain rfl := oiA hr
  refine xv_of ?_
  rotate_left
  simp only [h5] at hr
  obtain ⟨x6, h17, hr⟩ := bsome hr
  rcases iteP hr with ⟨h18, hr⟩ | ⟨h18, hr⟩
  obtain ⟨x7, h19, hr⟩ := bsome hr
  obtain rfl := oiA hr
  refine ⟨(v9, gt), ?_⟩
  rotate_left
  obtain rfl := oiA hr
  refine xv_of ?_
  rotate_left
  obtain rfl := oiA hr
  refine xe_of ⟨(v9, gt), rfl⟩ ?_
  rotate_left
  all_goals (simp +decide only [go_sem, qdZ9, qpR9, *])
theorem qjB9 {a0 : List Symbol} {a1 : List Int} {a2 : List Int} {r : (List Bind) × Bool} (hr : qey9 a0 a1 a2 = some r) : Res C 49 [.rd (a0.map qb9), .rd (a1.map intD), .rd (a2.map intD)] (.tp [.d (.rd (r.1.map qc9)), PB r.2]) := by
  simp only [qey9] at hr
  obtain ⟨x1, h1, hr⟩ := bsome hr
  have h1k := fun h => qgu9 (h := h) h1
  try simp only [go_sem] at h1k
  rcases iteP hr with ⟨h2, hr⟩ | ⟨h2, hr⟩
  obtain ⟨x2, h3, hr⟩ := bsome hr
  have h3k := fun h => qgu9 (h := h) h3
  try simp only [go_sem] at h3k
  rcases iteP hr with ⟨h4, hr⟩ | ⟨h4, hr⟩
  obtain ⟨x16, h5, hr⟩ := bsome hr
  obtain ⟨q5, h5L, h5X⟩ := qmB9.L (g := (0, [])) h5
  rcases x16 with x17 | ⟨x18, x19, x20, x21⟩
  try dsimp only at hr
  obtain ⟨st5, rfl, h5R⟩ := h5X
  simp only [qdZ9, go_sem] at h5L
  obtain rfl := oiA hr
  refine run_V is49 (nbA rfl) ?_
  rotate_left
  try dsimp only at hr
  obtain ⟨⟨z22, z23⟩, rfl⟩ := h5X
  simp only [qdZ9, go_sem] at h5L
  obtain ⟨x24, h6, hr⟩ := bsome hr
  obtain ⟨z25, h6k, h6l0⟩ := qjx9 (g1 := (.map (mapP keyI (lsD intD) x20) :: [])) (v0 := z22) (n0 := x21.length) (g2 := z23) rfl h6
  replace h6k := qh9 rfl rfl rfl h6k
  try simp only [go_sem] at h6k
  obtain rfl := oiA hr
  refine run_V is49 (nbA rfl) ?_
  rotate_left
  obtain rfl := oiA hr
  refine run_V is49 (nbA rfl) ?_
  rotate_left
  obtain rfl := oiA hr
  refine run_V is49 (nbA rfl) ?_
  rotate_left
  all_goals (simp +decide only [go_sem, c49, *])
def qoN9 : ACode := .seq (.reg [] [] [.K 15 (.bin .lss (.tmp 14) (.tmp 13))]) (.seq (.cond (.tmp 15) (some 15) (.skip) (.exit 0)) (.seq (.block 1 4398113654144 (.seq (.reg [] [] [.M 16 14, .T 17 (.ix 2 (.tmp 12) (.tmp 14)), .T 18 (.load (some 2) (.tmp 17)), .K 8 (.alloc [.im true [], .im true []] 2), .N 7 16, ⟨none, .store 2 (.tmp 8) (.tmp 18), none, false, false⟩]) (.seq (.seq (.reg [] [] [.T 19 (.fa 0 (.tmp 8)), ⟨some (20, false), .load none (.tmp 19), none, true, false⟩, ⟨some (21, false), .ix 1 (.tmp 20) (cI 0), none, true, false⟩, ⟨some (22, false), .load none (.tmp 21), none, true, false⟩, .M 23 1, ⟨some (24, false), .ix 1 (.tmp 23) (cI 0), none, true, false⟩, ⟨some (25, false), .load none (.tmp 24), none, true, false⟩, .K 26 (.bin .neq (.tmp 22) (.tmp 25))]) (.cond (.tmp 26) (some 26) (.exit 1) (.skip))) (.seq (.reg [] [] [.T 28 (.fa 0 (.tmp 3)), .T 29 (.load none (.tmp 28)), .T 30 (.fa 0 (.tmp 8)), .T 31 (.load none (.tmp 30)), .M 32 1, .T 33 (.call 49 [.tmp 29, .tmp 31, .tmp 32]), .M 27 33, .T 34 (.ext (.tmp 27) 0), .T 35 (.ext (.tmp 27) 1), .M 9 34, .N 10 35]) (.seq (.reg [] [] [.M 36 10, .M 37 36, .MG 38 37 true 2, .MG 39 37 true 7, .TG 40 37 true (.callV (.tmp 38) [.tmp 39]), .TG 41 37 true (.not (.tmp 40)), .K 42 (.pick (.tmp 37) (.tmp 41) (.const (.bool false)))]) (.cond (.tmp 42) (some 42) (.seq (.reg [] [] [.K 6 (.mv (.const (.bool false)))]) (.ret)) (.skip))))))) (.reg [] [] [.T 43 (.bin .add (.tmp 14) (cI 1)), .N 14 43])))
def c44 : ACode := .seq (.reg [] [] [.K 3 (.box (.tmp 0)), .K 6 (.mv (.const (.bool false)))]) (.seq (.seq (.reg [] [] [.T 11 (.fa 1 (.tmp 3)), .K 12 (.load none (.tmp 11)), .K 13 (.len (.tmp 12)), .K 14 (.mv (cI 0))]) (.block 0 4398113654144 (.loop qoN9))) (.seq (.reg [] [] [.K 6 (.mv (.const (.bool true)))]) (.ret)))
theorem is44 : IsF C 44 44 4398113682895 c44 [.tmp 6] := ⟨⟨Tryd.f44, _, C_P ▸ Tryd.func44, rfl, rfl, rfl, by kernel_rfl, rfl⟩⟩
def qZ9 (s0_0 : List Symbol) (s0_1 : List Rule) (s1 : List Int) (s12 : List Rule) (s13 : Int) (b2_0_0 : Int) (b3_0 : List Symbol) (b3_1 : List Rule) (g1 : AHeap) (g2 : AHeap) (g3 : AHeap) : Int × Int × Int → AHeap → St := fun (s14, b2_1_0, b2_1_1) gt => ⟨[(0, .ag [.d (.rd (s0_0.map qb9)), .d (.rd (s0_1.map qd9))]), (1, .d (.rd (s1.map intD))), (2, .fn 60 [.ptr (g1.length + g2.length + 1) 0 0 0, .ptr g1.length 0 0 0]), (3, .ptr (g1.length + g2.length + g3.length + 2) 0 0 0), (6, PB false), (12, .d (.rd (s12.map qd9))), (13, PI s13), (14, PI s14)], (g1 ++ (.row false 0 2 [[PI b2_1_0, PI b2_1_1]] :: (g2 ++ (.row false 0 1 [[PI b2_0_0]] :: (g3 ++ (.row false 0 2 [[.d (.rd (b3_0.map qb9)), .d (.rd (b3_1.map qd9))]] :: gt))))))⟩
def qfA9 (s0_0 : List Symbol) (s0_1 : List Rule) (s1 : List Int) (s12 : List Rule) (s13 : Int) (b2_0_0 : Int) (b3_0 : List Symbol) (b3_1 : List Rule) (g1 : AHeap) (g2 : AHeap) (g3 : AHeap) : ((Bool × Int × Int) ⊕ (Int × Int × Int)) → AExit × St → Prop
  | .inl r, q => XL C [.tmp 6] (fun vs hp => ∃ hz : AHeap, vs = [PB r.1] ∧ hp = (g1 ++ (.row false 0 2 [[PI r.2.1, PI r.2.2]] :: (g2 ++ (.row false 0 1 [[PI b2_0_0]] :: (g3 ++ hz)))))) q
  | .inr (s14, b2_1_0, b2_1_1), q => ∃ g, q = (.exit 0, qZ9 s0_0 s0_1 s1 s12 s13 b2_0_0 b3_0 b3_1 g1 g2 g3 (s14, b2_1_0, b2_1_1) g)
theorem qft9 {s0_0 : List Symbol} {s0_1 : List Rule} {s1 : List Int} {s12 : List Rule} {s13 : Int} {b2_0_0 : Int} {b3_0 : List Symbol} {b3_1 : List Rule} {g1 : AHeap} {g2 : AHeap} {g3 : AHeap} : Sim C 4398113682895 qoN9 (qw9 s0_0 s0_1 s1 s12 s13 b2_0_0 b3_0 b3_1) (qZ9 s0_0 s0_1 s1 s12 s13 b2_0_0 b3_0 b3_1 g1 g2 g3) (qfA9 s0_0 s0_1 s1 s12 s13 b2_0_0 b3_0 b3_1 g1 g2 g3) := by
  intro s g r hr
  obtain ⟨s14, b2_1_0, b2_1_1⟩ := s
  have ⟨gt, hg0⟩ : ∃ y, y = g := ⟨_, rfl⟩
  subst hg0
  simp only [qw9] at hr
  rcases iteP hr with ⟨h1, hr⟩ | ⟨h1, hr⟩
  obtain ⟨x1, h2, x2, h3, x3, h4, hr⟩ := bs3 hr
  rcases iteP hr with ⟨h5, hr⟩ | ⟨h5, hr⟩
  obtain ⟨x4, h6, hr⟩ := bsome hr
  have h6k := (qjB9 h6).k rfl rfl rfl
  try simp only [go_sem] at h6k
  rcases iteB hr with ⟨h7, hr⟩ | ⟨h7, hr⟩
  obtain ⟨x5, h8, hr⟩ := bsome hr
  have h8k := qh9 rfl rfl rfl (qjT9 (g1 := g1) (g2 := g2) (g3 := (g3 ++ (.row false 0 2 [[.d (.rd (b3_0.map qb9)), .d (.rd (b3_1.map qd9))]] :: (gt ++ (.row false 0 2 [[.d (.rd (x1.L.map intD)), .d (.rd (x1.R.map intD))]] :: []))))) h8)
  try simp only [go_sem] at h8k
  rcases iteB hr with ⟨h9, hr⟩ | ⟨h9, hr⟩
  obtain rfl := oiA hr
  refine ⟨(gt ++ (.row false 0 2 [[.d (.rd (x1.L.map intD)), .d (.rd (x1.R.map intD))]] :: [])), ?_⟩
  rotate_left
  obtain rfl := oiA hr
  refine xl_of ⟨(.row false 0 2 [[.d (.rd (b3_0.map qb9)), .d (.rd (b3_1.map qd9))]] :: (gt ++ (.row false 0 2 [[.d (.rd (x1.L.map intD)), .d (.rd (x1.R.map intD))]] :: []))), rfl, rfl⟩ ?_
  rotate_left
  obtain rfl := oiA hr
  refine ⟨(gt ++ (.row false 0 2 [[.d (.rd (x1.L.map intD)), .d (.rd (x1.R.map intD))]] :: [])), ?_⟩
  rotate_left
  obtain rfl := oiA hr
  refine ⟨(gt ++ (.row false 0 2 [[.d (.rd (x1.L.map intD)), .d (.rd (x1.R.map intD))]] :: [])), ?_⟩
  rotate_left
  obtain rfl := oiA hr
  refine xe_of ⟨gt, rfl⟩ ?_
  rotate_left
  all_goals (simp +decide only [go_sem, qZ9, qoN9, *])
theorem qfQ9 {s0_0 : List Symbol} {s0_1 : List Rule} {s1 : List Int} {b2_1_0 : Int} {b2_1_1 : Int} {b2_0_0 : Int} {g1 : AHeap} {g2 : AHeap} {g3 : AHeap} {r : Bool × Int × Int} (hr : qbh9 s0_0 s0_1 s1 b2_1_0 b2_1_1 b2_0_0 = some r) : ∃ hz : AHeap, Lim C 44 [.ag [.d (.rd (s0_0.map qb9)), .d (.rd (s0_1.map qd9))], .d (.rd (s1.map intD)), .fn 60 [.ptr (g1.length + g2.length + 1) 0 0 0, .ptr g1.length 0 0 0]] (g1 ++ (.row false 0 2 [[PI b2_1_0, PI b2_1_1]] :: (g2 ++ (.row false 0 1 [[PI b2_0_0]] :: g3)))) = some (resOf [PB r.1], (g1 ++ (.row false 0 2 [[PI r.2.1, PI r.2.2]] :: (g2 ++ (.row false 0 1 [[PI b2_0_0]] :: (g3 ++ hz)))))) := by
  simp only [qbh9] at hr
  obtain ⟨x6, h1, hr⟩ := bsome hr
  obtain ⟨q1, h1L, h1X⟩ := (qft9 (g1 := g1) (g2 := g2) (g3 := g3)).L (g := []) h1
  rcases x6 with x7 | ⟨x8, x9, x10⟩
  try dsimp only at hr
  obtain ⟨st1, _, _, rfl, h1R, y4, rfl, rfl⟩ := h1X
  simp only [qZ9, go_sem] at h1L
  obtain rfl := oiA hr
  refine ⟨y4, run_L is44 (nbA rfl) ?_⟩
  rotate_left
  try dsimp only at hr
  obtain ⟨z11, rfl⟩ := h1X
  simp only [qZ9, go_sem] at h1L
  obtain rfl := oiA hr
  refine ⟨(.row false 0 2 [[.d (.rd (s0_0.map qb9)), .d (.rd (s0_1.map qd9))]] :: z11), run_L is44 (nbA rfl) ?_⟩
  rotate_left
  all_goals (simp +decide only [go_sem, c44, *])
def qpK9 : ACode := .seq (.seq (.reg [] [] [.M 11 8, .T 12 (.load none (.tmp 1)), .T 13 (.load none (.tmp 6)), .T 14 (.ix 1 (.tmp 12) (.tmp 13)), .T 15 (.load none (.tmp 14)), .K 16 (.bin .lss (.tmp 11) (.tmp 15))]) (.cond (.tmp 16) (some 16) (.skip) (.exit 0))) (.seq (.block 1 8454144 (.seq (.reg [] [] [.T 21 (.load none (.tmp 2)), .M 22 8, .K 23 (.callV (.tmp 21) [.tmp 22])]) (.cond (.tmp 23) (some 23) (.seq (.reg [] [] [.K 7 (.mv (.const (.bool true)))]) (.ret)) (.skip)))) (.reg [] [] [.T 17 (.load none (.tmp 1)), .M 18 8, .T 19 (.ix 1 (.tmp 17) (.tmp 18)), .T 20 (.load none (.tmp 19)), .N 8 20]))
def c59 : ACode := .seq (.reg [] [] [.K 6 (.box (.tmp 0)), .K 7 (.mv (.const (.bool false)))]) (.seq (.seq (.reg [] [] [.T 9 (.load none (.tmp 6)), .T 10 (.bin .add (.tmp 9) (cI 1)), .N 8 10]) (.block 0 8454144 (.loop qpK9))) (.seq (.reg [] [] [⟨some (24, false), .load (some 2) (.tmp 3), none, true, false⟩, ⟨some (25, false), .load none (.tmp 4), none, true, false⟩, ⟨some (26, false), .load none (.tmp 6), none, true, false⟩, ⟨some (27, false), .load none (.tmp 1), none, true, false⟩, ⟨some (28, false), .load none (.tmp 6), none, true, false⟩, ⟨some (29, false), .ix 1 (.tmp 27) (.tmp 28), none, true, false⟩, ⟨some (30, false), .load none (.tmp 29), none, true, false⟩, ⟨some (31, false), .cut 1 (.tmp 25) (some (.tmp 26)) (some (.tmp 30)), none, true, false⟩, .T 32 (.mkF 60 [.tmp 6, .tmp 5]), .T 33 (.call 44 [.tmp 24, .tmp 31, .tmp 32]), .T 34 (.not (.tmp 33)), .N 7 34]) (.ret)))
theorem is59 : IsF C 59 35 8454655 c59 [.tmp 7] := ⟨⟨Tryd.f59, _, C_P ▸ Tryd.func59, rfl, rfl, rfl, by kernel_rfl, rfl⟩⟩
def qdz9 (s0 : Int) (b6_0 : Int) (g1 : AHeap) (g2 : AHeap) (g3 : AHeap) (g4 : AHeap) (g5 : AHeap) (g6 : AHeap) : Int × (List Symbol) × (List Rule) × (List Int) × (List Int) × Int × Int → AHeap → St := fun (s8, b2_0_2_0, b2_0_2_1, b2_0_3_0, b1_0, b2_0_4_0, b2_0_4_1) gt => ⟨[(0, PI s0), (1, .ptr (g1.length + g2.length + g3.length + 2) 0 0 0), (2, .ptr (g1.length + g2.length + g3.length + g4.length + g5.length + 4) 0 0 0), (3, .ptr g1.length 0 0 0), (4, .ptr (g1.length + g2.length + 1) 0 0 0), (5, .ptr (g1.length + g2.length + g3.length + g4.length + 3) 0 0 0), (6, .ptr (g1.length + g2.length + g3.length + g4.length + g5.length + g6.length + 5) 0 0 0), (7, PB false), (8, PI s8)], (g1 ++ (.row false 0 2 [[.d (.rd (b2_0_2_0.map qb9)), .d (.rd (b2_0_2_1.map qd9))]] :: (g2 ++ (.row false 0 1 [[.d (.rd (b2_0_3_0.map intD))]] :: (g3 ++ (.row false 0 1 [[.d (.rd (b1_0.map intD))]] :: (g4 ++ (.row false 0 2 [[PI b2_0_4_0, PI b2_0_4_1]] :: (g5 ++ (.row false 0 1 [[.fn 59 [.ptr (g1.length + g2.length + g3.length + 2) 0 0 0, .ptr (g1.length + g2.length + g3.length + g4.length + g5.length + 4) 0 0 0, .ptr g1.length 0 0 0, .ptr (g1.length + g2.length + 1) 0 0 0, .ptr (g1.length + g2.length + g3.length + g4.length + 3) 0 0 0]]] :: (g6 ++ (.row false 0 1 [[PI b6_0]] :: gt))))))))))))⟩
def qkR9 (s0 : Int) (b6_0 : Int) (g1 : AHeap) (g2 : AHeap) (g3 : AHeap) (g4 : AHeap) (g5 : AHeap) (g6 : AHeap) : ((Bool × (List Symbol) × (List Rule) × (List Int) × (List Int) × Int × Int) ⊕ (Int × (List Symbol) × (List Rule) × (List Int) × (List Int) × Int × Int)) → AExit × St → Prop
  | .inl r, q => XL C [.tmp 7] (fun vs hp => ∃ hz : AHeap, vs = [PB r.1] ∧ hp = (g1 ++ (.row false 0 2 [[.d (.rd (r.2.1.map qb9)), .d (.rd (r.2.2.1.map qd9))]] :: (g2 ++ (.row false 0 1 [[.d (.rd (r.2.2.2.1.map intD))]] :: (g3 ++ (.row false 0 1 [[.d (.rd (r.2.2.2.2.1.map intD))]] :: (g4 ++ (.row false 0 2 [[PI r.2.2.2.2.2.1, PI r.2.2.2.2.2.2]] :: (g5 ++ (.row false 0 1 [[.fn 59 [.ptr (g1.length + g2.length + g3.length + 2) 0 0 0, .ptr (g1.length + g2.length + g3.length + g4.length + g5.length + 4) 0 0 0, .ptr g1.length 0 0 0, .ptr (g1.length + g2.length + 1) 0 0 0, .ptr (g1.length + g2.length + g3.length + g4.length + 3) 0 0 0]]] :: (g6 ++ hz)))))))))))) q
  | .inr (s8, b2_0_2_0, b2_0_2_1, b2_0_3_0, b1_0, b2_0_4_0, b2_0_4_1), q => ∃ g, q = (.exit 0, qdz9 s0 b6_0 g1 g2 g3 g4 g5 g6 (s8, b2_0_2_0, b2_0_2_1, b2_0_3_0, b1_0, b2_0_4_0, b2_0_4_1) g)
theorem qlh9 {rec : Int × (List Symbol) × (List Rule) × (List Int) × (List Int) × Int × Int → Option (Bool × (List Symbol) × (List Rule) × (List Int) × (List Int) × Int × Int)} (hrec : ∀ {s0 : Int} {b2_0_2_0 : List Symbol} {b2_0_2_1 : List Rule} {b2_0_3_0 : List Int} {b1_0 : List Int} {b2_0_4_0 : Int} {b2_0_4_1 : Int} {g1 : AHeap} {g2 : AHeap} {g3 : AHeap} {g4 : AHeap} {g5 : AHeap} {g6 : AHeap} {r : Bool × (List Symbol) × (List Rule) × (List Int) × (List Int) × Int × Int} (_ : rec (s0, b2_0_2_0, b2_0_2_1, b2_0_3_0, b1_0, b2_0_4_0, b2_0_4_1) = some r), ∃ hz : AHeap, callP C (Lim C) 59 [PI s0, .ptr (g1.length + g2.length + g3.length + 2) 0 0 0, .ptr (g1.length + g2.length + g3.length + g4.length + g5.length + 4) 0 0 0, .ptr g1.length 0 0 0, .ptr (g1.length + g2.length + 1) 0 0 0, .ptr (g1.length + g2.length + g3.length + g4.length + 3) 0 0 0] (g1 ++ (.row false 0 2 [[.d (.rd (b2_0_2_0.map qb9)), .d (.rd (b2_0_2_1.map qd9))]] :: (g2 ++ (.row false 0 1 [[.d (.rd (b2_0_3_0.map intD))]] :: (g3 ++ (.row false 0 1 [[.d (.rd (b1_0.map intD))]] :: (g4 ++ (.row false 0 2 [[PI b2_0_4_0, PI b2_0_4_1]] :: (g5 ++ (.row false 0 1 [[.fn 59 [.ptr (g1.length + g2.length + g3.length + 2) 0 0 0, .ptr (g1.length + g2.length + g3.length + g4.length + g5.length + 4) 0 0 0, .ptr g1.length 0 0 0, .ptr (g1.length + g2.length + 1) 0 0 0, .ptr (g1.length + g2.length + g3.length + g4.length + 3) 0 0 0]]] :: g6)))))))))) = some (resOf [PB r.1], (g1 ++ (.row false 0 2 [[.d (.rd (r.2.1.map qb9)), .d (.rd (r.2.2.1.map qd9))]] :: (g2 ++ (.row false 0 1 [[.d (.rd (r.2.2.2.1.map intD))]] :: (g3 ++ (.row false 0 1 [[.d (.rd (r.2.2.2.2.1.map intD))]] :: (g4 ++ (.row false 0 2 [[PI r.2.2.2.2.2.1, PI r.2.2.2.2.2.2]] :: (g5 ++ (.row false 0 1 [[.fn 59 [.ptr (g1.length + g2.length + g3.length + 2) 0 0 0, .ptr (g1.length + g2.length + g3.length + g4.length + g5.length + 4) 0 0 0, .ptr g1.length 0 0 0, .ptr (g1.length + g2.length + 1) 0 0 0, .ptr (g1.length + g2.length + g3.length + g4.length + 3) 0 0 0]]] :: (g6 ++ hz))))))))))))) {s0 : Int} {b6_0 : Int} {g1 : AHeap} {g2 : AHeap} {g3 : AHeap} {g4 : AHeap} {g5 : AHeap} {g6 : AHeap} : Sim C 8454655 qpK9 (qby9 rec s0 b6_0) (qdz9 s0 b6_0 g1 g2 g3 g4 g5 g6) (qkR9 s0 b6_0 g1 g2 g3 g4 g5 g6) := by
  intro s g r hr
  obtain ⟨s8, b2_0_2_0, b2_0_2_1, b2_0_3_0, b1_0, b2_0_4_0, b2_0_4_1⟩ := s
  have ⟨gt, hg0⟩ : ∃ y, y = g := ⟨_, rfl⟩
  subst hg0
  simp only [qby9] at hr
  obtain ⟨x1, h1, hr⟩ := bsome hr
  rcases iteP hr with ⟨h2, hr⟩ | ⟨h2, hr⟩
  obtain ⟨x2, h3, hr⟩ := bsome hr
  obtain ⟨z3, h3k⟩ := hrec (g1 := g1) (g2 := g2) (g3 := g3) (g4 := g4) (g5 := g5) (g6 := (g6 ++ (.row false 0 1 [[PI b6_0]] :: gt))) h3
  try simp only [go_sem] at h3k
  rcases iteB hr with ⟨h4, hr⟩ | ⟨h4, hr⟩
  obtain rfl := oiA hr
  refine xl_of ⟨(.row false 0 1 [[PI b6_0]] :: (gt ++ z3)), rfl, rfl⟩ ?_
  rotate_left
  obtain ⟨x4, h5, hr⟩ := bsome hr
  obtain rfl := oiA hr
  refine ⟨(gt ++ z3), ?_⟩
  rotate_left
  obtain rfl := oiA hr
  refine xe_of ⟨gt, rfl⟩ ?_
  rotate_left
  all_goals (simp +decide only [go_sem, qdz9, qpK9, *])
theorem qla9 {rec : Int × (List Symbol) × (List Rule) × (List Int) × (List Int) × Int × Int → Option (Bool × (List Symbol) × (List Rule) × (List Int) × (List Int) × Int × Int)} (hrec : ∀ {s0 : Int} {b2_0_2_0 : List Symbol} {b2_0_2_1 : List Rule} {b2_0_3_0 : List Int} {b1_0 : List Int} {b2_0_4_0 : Int} {b2_0_4_1 : Int} {g1 : AHeap} {g2 : AHeap} {g3 : AHeap} {g4 : AHeap} {g5 : AHeap} {g6 : AHeap} {r : Bool × (List Symbol) × (List Rule) × (List Int) × (List Int) × Int × Int} (_ : rec (s0, b2_0_2_0, b2_0_2_1, b2_0_3_0, b1_0, b2_0_4_0, b2_0_4_1) = some r), ∃ hz : AHeap, callP C (Lim C) 59 [PI s0, .ptr (g1.length + g2.length + g3.length + 2) 0 0 0, .ptr (g1.length + g2.length + g3.length + g4.length + g5.length + 4) 0 0 0, .ptr g1.length 0 0 0, .ptr (g1.length + g2.length + 1) 0 0 0, .ptr (g1.length + g2.length + g3.length + g4.length + 3) 0 0 0] (g1 ++ (.row false 0 2 [[.d (.rd (b2_0_2_0.map qb9)), .d (.rd (b2_0_2_1.map qd9))]] :: (g2 ++ (.row false 0 1 [[.d (.rd (b2_0_3_0.map intD))]] :: (g3 ++ (.row false 0 1 [[.d (.rd (b1_0.map intD))]] :: (g4 ++ (.row false 0 2 [[PI b2_0_4_0, PI b2_0_4_1]] :: (g5 ++ (.row false 0 1 [[.fn 59 [.ptr (g1.length + g2.length + g3.length + 2) 0 0 0, .ptr (g1.length + g2.length + g3.length + g4.length + g5.length + 4) 0 0 0, .ptr g1.length 0 0 0, .ptr (g1.length + g2.length + 1) 0 0 0, .ptr (g1.length + g2.length + g3.length + g4.length + 3) 0 0 0]]] :: g6)))))))))) = some (resOf [PB r.1], (g1 ++ (.row false 0 2 [[.d (.rd (r.2.1.map qb9)), .d (.rd (r.2.2.1.map qd9))]] :: (g2 ++ (.row false 0 1 [[.d (.rd (r.2.2.2.1.map intD))]] :: (g3 ++ (.row false 0 1 [[.d (.rd (r.2.2.2.2.1.map intD))]] :: (g4 ++ (.row false 0 2 [[PI r.2.2.2.2.2.1, PI r.2.2.2.2.2.2]] :: (g5 ++ (.row false 0 1 [[.fn 59 [.ptr (g1.length + g2.length + g3.length + 2) 0 0 0, .ptr (g1.length + g2.length + g3.length + g4.length + g5.length + 4) 0 0 0, .ptr g1.length 0 0 0, .ptr (g1.length + g2.length + 1) 0 0 0, .ptr (g1.length + g2.length + g3.length + g4.length + 3) 0 0 0]]] :: (g6 ++ hz))))))))))))) {s0 : Int} {b2_0_2_0 : List Symbol} {b2_0_2_1 : List Rule} {b2_0_3_0 : List Int} {b1_0 : List Int} {b2_0_4_0 : Int} {b2_0_4_1 : Int} {g1 : AHeap} {g2 : AHeap} {g3 : AHeap} {g4 : AHeap} {g5 : AHeap} {g6 : AHeap} {r : Bool × (List Symbol) × (List Rule) × (List Int) × (List Int) × Int × Int} (hr : qbs9 rec s0 b2_0_2_0 b2_0_2_1 b2_0_3_0 b1_0 b2_0_4_0 b2_0_4_1 = some r) : ∃ hz : AHeap, Lim C 59 [PI s0, .ptr (g1.length + g2.length + g3.length + 2) 0 0 0, .ptr (g1.length + g2.length + g3.length + g4.length + g5.length + 4) 0 0 0, .ptr g1.length 0 0 0, .ptr (g1.length + g2.length + 1) 0 0 0, .ptr (g1.length + g2.length + g3.length + g4.length + 3) 0 0 0] (g1 ++ (.row false 0 2 [[.d (.rd (b2_0_2_0.map qb9)), .d (.rd (b2_0_2_1.map qd9))]] :: (g2 ++ (.row false 0 1 [[.d (.rd (b2_0_3_0.map intD))]] :: (g3 ++ (.row false 0 1 [[.d (.rd (b1_0.map intD))]] :: (g4 ++ (.row false 0 2 [[PI b2_0_4_0, PI b2_0_4_1]] :: (g5 ++ (.row false 0 1 [[.fn 59 [.ptr (g1.length + g2.length + g3.length + 2) 0 0 0, .ptr (g1.length + g2.length + g3.length + g4.length + g5.length + 4) 0 0 0, .ptr g1.length 0 0 0, .ptr (g1.length + g2.length + 1) 0 0 0, .ptr (g1.length + g2.length + g3.length + g4.length + 3) 0 0 0]]] :: g6)))))))))) = some (resOf [PB r.1], (g1 ++ (.row false 0 2 [[.d (.rd (r.2.1.map qb9)), .d (.rd (r.2.2.1.map qd9))]] :: (g2 ++ (.row false 0 1 [[.d (.rd (r.2.2.2.1.map intD))]] :: (g3 ++ (.row false 0 1 [[.d (.rd (r.2.2.2.2.1.map intD))]] :: (g4 ++ (.row false 0 2 [[PI r.2.2.2.2.2.1, PI r.2.2.2.2.2.2]] :: (g5 ++ (.row false 0 1 [[.fn 59 [.ptr (g1.length + g2.length + g3.length + 2) 0 0 0, .ptr (g1.length + g2.length + g3.length + g4.length + g5.length + 4) 0 0 0, .ptr g1.length 0 0 0, .ptr (g1.length + g2.length + 1) 0 0 0, .ptr (g1.length + g2.length + g3.length + g4.length + 3) 0 0 0]]] :: (g6 ++ hz)))))))))))) := by
  simp only [qbs9] at hr
  obtain ⟨x5, h1, hr⟩ := bsome hr
  obtain ⟨q1, h1L, h1X⟩ := (qlh9 hrec (g1 := g1) (g2 := g2) (g3 := g3) (g4 := g4) (g5 := g5) (g6 := g6)).L (g := []) h1
  rcases x5 with x6 | ⟨x7, x8, x9, x10, x11, x12, x13⟩
  try dsimp only at hr
  obtain ⟨st1, _, _, rfl, h1R, y5, rfl, rfl⟩ := h1X
  simp only [qdz9, go_sem] at h1L
  obtain rfl := oiA hr
  refine ⟨y5, run_L is59 (nbA rfl) ?_⟩
  rotate_left
  try dsimp only at hr
  obtain ⟨z14, rfl⟩ := h1X
  simp only [qdz9, go_sem] at h1L
  obtain ⟨x15, h2, x16, h3, x17, h4, hr⟩ := bs3 hr
  obtain ⟨z18, h4k⟩ := qfQ9 (g1 := (g1 ++ (.row false 0 2 [[.d (.rd (x8.map qb9)), .d (.rd (x9.map qd9))]] :: (g2 ++ (.row false 0 1 [[.d (.rd (x10.map intD))]] :: (g3 ++ (.row false 0 1 [[.d (.rd (x11.map intD))]] :: g4))))))) (g2 := (g5 ++ (.row false 0 1 [[.fn 59 [.ptr (g1.length + g2.length + g3.length + 2) 0 0 0, .ptr (g1.length + g2.length + g3.length + g4.length + g5.length + 4) 0 0 0, .ptr g1.length 0 0 0, .ptr (g1.length + g2.length + 1) 0 0 0, .ptr (g1.length + g2.length + g3.length + g4.length + 3) 0 0 0]]] :: g6))) (g3 := z14) h4
  replace h4k := qh9 rfl rfl rfl h4k
  try simp only [go_sem] at h4k
  obtain rfl := oiA hr
  refine ⟨(.row false 0 1 [[PI s0]] :: (z14 ++ z18)), run_L is59 (nbA rfl) ?_⟩
  rotate_left
  all_goals (simp +decide only [go_sem, c59, *])
theorem qlE9 {s0 : Int} {b2_0_2_0 : List Symbol} {b2_0_2_1 : List Rule} {b2_0_3_0 : List Int} {b1_0 : List Int} {b2_0_4_0 : Int} {b2_0_4_1 : Int} {g1 : AHeap} {g2 : AHeap} {g3 : AHeap} {g4 : AHeap} {g5 : AHeap} {g6 : AHeap} {r : Bool × (List Symbol) × (List Rule) × (List Int) × (List Int) × Int × Int} (hr : qhw9 s0 b2_0_2_0 b2_0_2_1 b2_0_3_0 b1_0 b2_0_4_0 b2_0_4_1 = some r) : ∃ hz : AHeap, Lim C 59 [PI s0, .ptr (g1.length + g2.length + g3.length + 2) 0 0 0, .ptr (g1.length + g2.length + g3.length + g4.length + g5.length + 4) 0 0 0, .ptr g1.length 0 0 0, .ptr (g1.length + g2.length + 1) 0 0 0, .ptr (g1.length + g2.length + g3.length + g4.length + 3) 0 0 0] (g1 ++ (.row false 0 2 [[.d (.rd (b2_0_2_0.map qb9)), .d (.rd (b2_0_2_1.map qd9))]] :: (g2 ++ (.row false 0 1 [[.d (.rd (b2_0_3_0.map intD))]] :: (g3 ++ (.row false 0 1 [[.d (.rd (b1_0.map intD))]] :: (g4 ++ (.row false 0 2 [[PI b2_0_4_0, PI b2_0_4_1]] :: (g5 ++ (.row false 0 1 [[.fn 59 [.ptr (g1.length + g2.length + g3.length + 2) 0 0 0, .ptr (g1.length + g2.length + g3.length + g4.length + g5.length + 4) 0 0 0, .ptr g1.length 0 0 0, .ptr (g1.length + g2.length + 1) 0 0 0, .ptr (g1.length + g2.length + g3.length + g4.length + 3) 0 0 0]]] :: g6)))))))))) = some (resOf [PB r.1], (g1 ++ (.row false 0 2 [[.d (.rd (r.2.1.map qb9)), .d (.rd (r.2.2.1.map qd9))]] :: (g2 ++ (.row false 0 1 [[.d (.rd (r.2.2.2.1.map intD))]] :: (g3 ++ (.row false 0 1 [[.d (.rd (r.2.2.2.2.1.map intD))]] :: (g4 ++ (.row false 0 2 [[PI r.2.2.2.2.2.1, PI r.2.2.2.2.2.2]] :: (g5 ++ (.row false 0 1 [[.fn 59 [.ptr (g1.length + g2.length + g3.length + 2) 0 0 0, .ptr (g1.length + g2.length + g3.length + g4.length + g5.length + 4) 0 0 0, .ptr g1.length 0 0 0, .ptr (g1.length + g2.length + 1) 0 0 0, .ptr (g1.length + g2.length + g3.length + g4.length + 3) 0 0 0]]] :: (g6 ++ hz)))))))))))) := by
  obtain ⟨n, hn⟩ := qka9 hr
  clear hr
  induction n generalizing s0 b2_0_2_0 b2_0_2_1 b2_0_3_0 b1_0 b2_0_4_0 b2_0_4_1 g1 g2 g3 g4 g5 g6 r with
  | zero => cases hn
  | succ n ih =>
    refine qla9 (rec := fixN _ n) (fun {s0} {b2_0_2_0} {b2_0_2_1} {b2_0_3_0} {b1_0} {b2_0_4_0} {b2_0_4_1} {g1} {g2} {g3} {g4} {g5} {g6} {r} hr => ?_) (g1 := g1) (g2 := g2) (g3 := g3) (g4 := g4) (g5 := g5) (g6 := g6) hn
    obtain ⟨hz, h1⟩ := ih (g1 := g1) (g2 := g2) (g3 := g3) (g4 := g4) (g5 := g5) (g6 := g6) hr
    exact ⟨hz, qh9 rfl rfl rfl h1⟩
def c27 : ACode := .seq (.reg [] [] [.K 2 (.box (.tmp 0)), .K 3 (.box (.tmp 1)), .K 4 (.alloc [.d (.v (.int .i64 0)), .d (.v (.int .i64 0))] 2), .K 5 (.mv (.const (.bool false)))]) (.seq (.seq (.reg [] [] [.T 10 (.load (some 2) (.tmp 2)), .T 11 (.load none (.tmp 3)), .T 12 (.call 42 [.tmp 10, .tmp 11]), .K 13 (.bin .neq (.tmp 12) (cI 0))]) (.cond (.tmp 13) (some 13) (.seq (.reg [] [] [.T 14 (.build [(0, 1), (1, 1)] [.d (.v (.int .i64 0)), .d (.v (.int .i64 0))] []), ⟨none, .store 2 (.tmp 4) (.tmp 14), none, false, false⟩, .K 5 (.mv (.const (.bool false)))]) (.ret)) (.skip))) (.seq (.reg [] [] [.T 15 (.fa 0 (.tmp 2)), .T 16 (.load none (.tmp 15)), .T 17 (.load none (.tmp 3)), .T 18 (.call 43 [.tmp 16, .tmp 17]), .K 6 (.alloc [.im true []] 1), ⟨none, .store 1 (.tmp 6) (.tmp 18), none, false, false⟩]) (.seq (.reg [] [] [.K 7 (.alloc [.d (.v (.int .i64 0)), .d (.v (.int .i64 0))] 2)]) (.seq (.reg [] [] [.K 8 (.alloc [.d (.v .nilFunc)] 1)]) (.seq (.reg [] [] [.T 19 (.mkF 59 [.tmp 6, .tmp 8, .tmp 2, .tmp 3, .tmp 7]), ⟨none, .store 1 (.tmp 8) (.tmp 19), none, false, false⟩]) (.seq (.reg [] [] [.T 20 (.load none (.tmp 8)), .T 21 (.callV (.tmp 20) [.const (.int .i64 0)]), .N 9 21]) (.seq (.reg [] [] [.T 22 (.load (some 2) (.tmp 7)), .M 23 9, ⟨none, .store 2 (.tmp 4) (.tmp 22), none, false, false⟩, .N 5 23]) (.ret))))))))
theorem is27 : IsF C 27 24 9215 c27 [.cell 4 33, .tmp 5] := ⟨⟨Tryd.f27, _, C_P ▸ Tryd.func27, rfl, rfl, rfl, by kernel_rfl, rfl⟩⟩
theorem qox9 {a0 : System} {a1 : List Int} {r : Redex × Bool} (hr : qgs9 a0 a1 = some r) : Res C 27 [.ag (qg9 a0), .rd (a1.map intD)] (.tp [.d (.ag (qo9 r.1)), PB r.2]) := by
  simp only [qgs9] at hr
  obtain ⟨x1, h1, hr⟩ := bsome hr
  have h1k := fun h => (qjI9 h1).o rfl rfl rfl (h := h) (args := [.ag [.d (.rd (a0.Sig.map qb9)), .d (.rd (a0.Rules.map qd9))], .d (.rd (a1.map intD))]) rfl
  try simp only [go_sem] at h1k
  rcases iteP hr with ⟨h2, hr⟩ | ⟨h2, hr⟩
  obtain ⟨x2, h3, x3, h4, hr⟩ := bs2 hr
  have h3k := (qkK9 h3).k rfl rfl rfl
  try simp only [go_sem] at h3k
  obtain ⟨z4, h4k⟩ := qlE9 (g1 := []) (g2 := []) (g3 := (.row false 0 2 [[PI 0, PI 0]] :: [])) (g4 := []) (g5 := []) (g6 := []) h4
  replace h4k := qh9 rfl rfl rfl h4k
  try simp only [go_sem] at h4k
  obtain rfl := oiA hr
  refine run_V is27 (nbA rfl) ?_
  rotate_left
  obtain rfl := oiA hr
  refine run_V is27 (nbA rfl) ?_
  rotate_left
  all_goals (simp +decide only [go_sem, c27, *])
def qon9 : ACode := .seq (.reg [] [] [.K 10 (.bin .lss (.tmp 9) (.tmp 8))]) (.seq (.cond (.tmp 10) (some 10) (.skip) (.exit 0)) (.seq (.block 1 132160 (.seq (.reg [] [] [.T 11 (.ix 2 (.tmp 7) (.tmp 9)), .T 12 (.load (some 2) (.tmp 11)), .K 6 (.alloc [.d (.v (.int .i64 0)), .im true []] 2), ⟨none, .store 2 (.tmp 6) (.tmp 12), none, false, false⟩]) (.seq (.reg [] [] [.T 13 (.fa 0 (.tmp 6)), .T 14 (.load none (.tmp 13)), .M 15 1, .T 16 (.bin .sub (cI (-1)) (.tmp 15)), .K 17 (.bin .eql (.tmp 14) (.tmp 16))]) (.cond (.tmp 17) (some 17) (.seq (.reg [] [] [.T 18 (.fa 1 (.tmp 6)), .T 19 (.load none (.tmp 18)), .N 4 19]) (.ret)) (.skip))))) (.reg [] [] [.T 20 (.bin .add (.tmp 9) (cI 1)), .N 9 20])))
def c50 : ACode := .seq (.reg [] [(4, 0)] [.K 4 (.mv (.const (.slice none 0 0)))]) (.seq (.seq (.reg [] [] [.N 7 0, .K 8 (.len (.tmp 7)), .K 9 (.mv (cI 0))]) (.block 0 132160 (.loop qon9))) (.seq (.reg [] [(4, 0)] [.M 21 1, .T 22 (.lit 1 [(0, .tmp 21)]), .N 4 22]) (.ret)))
theorem is50 : IsF C 50 23 133075 c50 [.tmp 4] := ⟨⟨Tryd.f50, _, C_P ▸ Tryd.func50, rfl, rfl, rfl, by kernel_rfl, rfl⟩⟩
def qet9 (s0 : List Bind) (s1 : Int) (s4 : List Int) (s7 : List Bind) (s8 : Int) : Int → AHeap → St := fun s9 gt => ⟨[(0, .d (.rd (s0.map qc9))), (1, PI s1), (4, .d (.rd (s4.map intD))), (7, .d (.rd (s7.map qc9))), (8, PI s8), (9, PI s9)], gt⟩
def qoa9 (s0 : List Bind) (s1 : Int) (s4 : List Int) (s7 : List Bind) (s8 : Int) : (((List Int)) ⊕ Int) → AExit × St → Prop
  | .inl r, q => XV C [.tmp 4] (.d (.rd (r.map intD))) q
  | .inr s9, q => ∃ g, q = (.exit 0, qet9 s0 s1 s4 s7 s8 s9 g)
theorem qnT9 {s0 : List Bind} {s1 : Int} {s4 : List Int} {s7 : List Bind} {s8 : Int} : Sim C 133075 qon9 (qdF9 s0 s1 s4 s7 s8) (qet9 s0 s1 s4 s7 s8) (qoa9 s0 s1 s4 s7 s8) := by
  intro s g r hr
  have ⟨s9, hs0⟩ : ∃ y, y = s := ⟨_, rfl⟩
  subst hs0
  have ⟨gt, hg0⟩ : ∃ y, y = g := ⟨_, rfl⟩
  subst hg0
  simp only [qdF9] at hr
  rcases iteP hr with ⟨h1, hr⟩ | ⟨h1, hr⟩
  obtain ⟨x1, h2, hr⟩ := bsome hr
  rcases iteP hr with ⟨h3, hr⟩ | ⟨h3, hr⟩
  obtain rfl := oiA hr
  refine xv_of ?_
  rotate_left
  obtain rfl := oiA hr
  refine ⟨(gt ++ (.row false 0 2 [[PI x1.Var, .d (.rd (x1.T.map intD))]] :: [])), ?_⟩
  rotate_left
  obtain rfl := oiA hr
  refine xe_of ⟨gt, rfl⟩ ?_
  rotate_left
  all_goals (simp +decide only [go_sem, qet9, qon9, *])
theorem qpS9 {a0 : List Bind} {a1 : Int} {r : (List Int)} (hr : qgk9 a0 a1 = some r) : Res C 50 [.rd (a0.map qc9), .v (.int .i64 a1)] (.d (.rd (r.map intD))) := by
  simp only [qgk9] at hr
  obtain ⟨x2, h1, hr⟩ := bsome hr
  obtain ⟨q1, h1L, h1X⟩ := qnT9.L (g := []) h1
  rcases x2 with x3 | x4
  try dsimp only at hr
  obtain ⟨st1, rfl, h1R⟩ := h1X
  simp only [qet9, go_sem] at h1L
  obtain rfl := oiA hr
  refine run_V is50 (nbA rfl) ?_
  rotate_left
  try dsimp only at hr
  obtain ⟨z5, rfl⟩ := h1X
  simp only [qet9, go_sem] at h1L
  obtain rfl := oiA hr
  refine run_V is50 (nbA rfl) ?_
  rotate_left
  all_goals (simp +decide only [go_sem, c50, *])
def qpu9 : ACode := .seq (.reg [] [] [.K 90 (.bin .lss (.tmp 89) (.tmp 88))]) (.seq (.cond (.tmp 90) (some 90) (.skip) (.exit 1)) (.seq (.block 2 162339742931766913109446453559296 (.seq (.reg [] [] [.T 91 (.ix 1 (.tmp 87) (.tmp 89)), .T 92 (.load none (.tmp 91)), .N 16 92]) (.seq (.reg [] [(17, 0)] [.M 93 16, .T 94 (.lit 1 [(0, .tmp 93)]), .N 17 94]) (.seq (.seq (.reg [] [] [.M 95 16, .K 96 (.bin .lss (.tmp 95) (cI 0))]) (.cond (.tmp 96) (some 96) (.reg [] [] [.M 97 11, .M 98 16, .T 99 (.call 50 [.tmp 97, .tmp 98]), .N 17 99]) (.skip))) (.seq (.seq (.reg [] [] [.M 100 13, .T 101 (.len (.tmp 100)), .M 102 17, .T 103 (.len (.tmp 102)), .T 104 (.bin .add (.tmp 101) (.tmp 103)), .M 105 14, .T 106 (.bin .add (.tmp 104) (.tmp 105)), .K 107 (.bin .gtr (.tmp 106) (cI 512))]) (.cond (.tmp 107) (some 107) (.seq (.reg [] [(6, 0)] [.K 6 (.mv (.const (.slice none 0 0))), .K 7 (.mv (cI 2))]) (.ret)) (.skip))) (.reg [] [] [.M 108 13, .M 109 17, .T 110 (.app 1 8 (.tmp 108) (.tmp 109)), .N 13 110])))))) (.reg [] [] [.T 111 (.bin .add (.tmp 89) (cI 1)), .N 89 111])))
def c18 : ACode := .seq (.reg [] [(6, 0)] [.K 3 (.box (.tmp 0)), .K 5 (.box (.tmp 2)), .K 6 (.mv (.const (.slice none 0 0))), .K 7 (.mv (cI 0))]) (.seq (.seq (.reg [] [] [.T 18 (.load (some 2) (.tmp 3)), .M 19 1, .T 20 (.call 42 [.tmp 18, .tmp 19]), .N 8 20]) (.seq (.reg [] [] [.M 21 8, .K 22 (.bin .neq (.tmp 21) (cI 0))]) (.cond (.tmp 22) (some 22) (.seq (.reg [] [(6, 0)] [.M 23 8, .K 6 (.mv (.const (.slice none 0 0))), .N 7 23]) (.ret)) (.skip)))) (.seq (.block 0 34376515584 (.seq (.reg [] [] [.T 25 (.fa 0 (.tmp 5)), .T 26 (.load none (.tmp 25)), .T 27 (.bin .lss (.tmp 26) (cI 0)), .M 28 27, .TG 29 28 false (.fa 0 (.tmp 5)), .TG 30 28 false (.load none (.tmp 29)), .MG 31 28 false 1, .TG 32 28 false (.len (.tmp 31)), .TG 33 28 false (.bin .geq (.tmp 30) (.tmp 32)), .T 34 (.pick (.tmp 28) (.const (.bool true)) (.tmp 33)), .N 24 34]) (.cond (.tmp 24) (some 24) (.seq (.reg [] [(6, 0)] [.K 6 (.mv (.const (.slice none 0 0))), .K 7 (.mv (cI 33))]) (.ret)) (.seq (.reg [] [] [.T 36 (.fa 1 (.tmp 5)), .T 37 (.load none (.tmp 36)), .T 38 (.bin .lss (.tmp 37) (cI 0)), .M 39 38, .TG 40 39 false (.fa 1 (.tmp 5)), .TG 41 39 false (.load none (.tmp 40)), .TG 42 39 false (.fa 1 (.tmp 3)), .TG 43 39 false (.load none (.tmp 42)), .TG 44 39 false (.len (.tmp 43)), .TG 45 39 false (.bin .geq (.tmp 41) (.tmp 44)), .T 46 (.pick (.tmp 39) (.const (.bool true)) (.tmp 45)), .N 35 46]) (.cond (.tmp 35) (some 35) (.seq (.reg [] [(6, 0)] [.K 6 (.mv (.const (.slice none 0 0))), .K 7 (.mv (cI 1))]) (.ret)) (.skip)))))) (.seq (.reg [] [] [.T 47 (.fa 0 (.tmp 3)), ⟨some (48, false), .load none (.tmp 47), none, true, false⟩, .M 49 1, ⟨some (50, false), .call 43 [.tmp 48, .tmp 49], none, true, false⟩, .T 51 (.fa 0 (.tmp 5)), ⟨some (52, false), .load none (.tmp 51), none, true, false⟩, ⟨some (53, false), .ix 1 (.tmp 50) (.tmp 52), none, true, false⟩, ⟨some (54, false), .load none (.tmp 53), none, true, false⟩, .N 9 54]) (.seq (.reg [] [] [.T 55 (.fa 1 (.tmp 3)), .T 56 (.load none (.tmp 55)), .T 57 (.fa 1 (.tmp 5)), .T 58 (.load none (.tmp 57)), .T 59 (.ix 2 (.tmp 56) (.tmp 58)), .T 60 (.load (some 2) (.tmp 59)), .K 10 (.alloc [.im true [], .im true []] 2), ⟨none, .store 2 (.tmp 10) (.tmp 60), none, false, false⟩]) (.seq (.reg [] [] [.T 62 (.fa 0 (.tmp 3)), ⟨some (63, false), .load none (.tmp 62), none, true, false⟩, .T 64 (.fa 0 (.tmp 10)), ⟨some (65, false), .load none (.tmp 64), none, true, false⟩, .M 66 1, .T 67 (.fa 0 (.tmp 5)), ⟨some (68, false), .load none (.tmp 67), none, true, false⟩, .M 69 9, ⟨some (70, false), .cut 1 (.tmp 66) (some (.tmp 68)) (some (.tmp 69)), none, true, false⟩, ⟨some (71, false), .call 49 [.tmp 63, .tmp 65, .tmp 70], none, true, false⟩, .M 61 71, .T 72 (.ext (.tmp 61) 0), .T 73 (.ext (.tmp 61) 1), .N 11 72, .N 12 73]) (.seq (.seq (.reg [] [] [.M 74 12, .K 75 (.not (.tmp 74))]) (.cond (.tmp 75) (some 75) (.seq (.reg [] [(6, 0)] [.K 6 (.mv (.const (.slice none 0 0))), .K 7 (.mv (cI 80))]) (.ret)) (.skip))) (.seq (.reg [] [] [.T 76 (.lit 1 []), .M 77 1, .T 78 (.fa 0 (.tmp 5)), .T 79 (.load none (.tmp 78)), .T 80 (.cut 1 (.tmp 77) none (some (.tmp 79))), .T 81 (.app 1 8 (.tmp 76) (.tmp 80)), .N 13 81]) (.seq (.reg [] [] [.M 82 1, .T 83 (.len (.tmp 82)), .M 84 9, .T 85 (.bin .sub (.tmp 83) (.tmp 84)), .N 14 85]) (.seq (.seq (.reg [] [] [.T 86 (.fa 1 (.tmp 10)), .K 87 (.load none (.tmp 86)), .K 88 (.len (.tmp 87)), .K 89 (.mv (cI 0))]) (.block 1 162339742931766913109446453559296 (.loop qpu9))) (.seq (.reg [] [(6, 0)] [.M 112 13, .M 113 1, .M 114 9, .T 115 (.cut 1 (.tmp 113) (some (.tmp 114)) none), .T 116 (.app 1 8 (.tmp 112) (.tmp 115)), .N 6 116, .K 7 (.mv (cI 0))]) (.ret)))))))))))
theorem is18 : IsF C 18 117 162340826167080219680178532745199 c18 [.tmp 6, .tmp 7] := ⟨⟨Tryd.f18, _, C_P ▸ Tryd.func18, rfl, rfl, rfl, by kernel_rfl, rfl⟩⟩
def qgz9 (s0 : System) (s1 : List Int) (s2 : Redex) (s6 : List Int) (s8 : Int) (s9 : Int) (s11 : List Bind) (s12 : Bool) (s14 : Int) (s87 : List Int) (s88 : Int) (b3_0 : List Symbol) (b3_1 : List Rule) (b5_0 : Int) (b5_1 : Int) (b10_0 : List Int) (b10_1 : List Int) : Int × (List Int) → Nat → St := fun (s89, o13) v13 => ⟨[(0, .d (.ag (qg9 s0))), (1, .d (.rd (s1.map intD))), (2, .d (.ag (qo9 s2))), (3, .ptr 0 0 0 0), (5, .ptr 1 0 0 0), (6, .d (.rd (s6.map intD))), (7, PI 0), (8, PI s8), (9, PI s9), (10, .ptr 2 0 0 0), (11, .d (.rd (s11.map qc9))), (12, PB s12), (13, .ref 3 v13 0 o13.length), (14, PI s14), (87, .d (.rd (s87.map intD))), (88, PI s88), (89, PI s89)], (.row false 0 2 [[.d (.rd (b3_0.map qb9)), .d (.rd (b3_1.map qd9))]] :: (.row false 0 2 [[PI b5_0, PI b5_1]] :: (.row false 0 2 [[.d (.rd (b10_0.map intD)), .d (.rd (b10_1.map intD))]] :: (.row false v13 1 (rowP intD o13) :: []))))⟩
def qtG9 (s0 : System) (s1 : List Int) (s2 : Redex) (s6 : List Int) (s8 : Int) (s9 : Int) (s11 : List Bind) (s12 : Bool) (s14 : Int) (s87 : List Int) (s88 : Int) (b3_0 : List Symbol) (b3_1 : List Rule) (b5_0 : Int) (b5_1 : Int) (b10_0 : List Int) (b10_1 : List Int) : (((List Int) × Int) ⊕ (Int × (List Int))) → AExit × St → Prop
  | .inl r, q => XV C [.tmp 6, .tmp 7] (.tp [.d (.rd (r.1.map intD)), PI r.2]) q
  | .inr (s89, o13), q => ∃ g, q = (.exit 1, qgz9 s0 s1 s2 s6 s8 s9 s11 s12 s14 s87 s88 b3_0 b3_1 b5_0 b5_1 b10_0 b10_1 (s89, o13) g)
theorem qtE9 {s0 : System} {s1 : List Int} {s2 : Redex} {s6 : List Int} {s8 : Int} {s9 : Int} {s11 : List Bind} {s12 : Bool} {s14 : Int} {s87 : List Int} {s88 : Int} {b3_0 : List Symbol} {b3_1 : List Rule} {b5_0 : Int} {b5_1 : Int} {b10_0 : List Int} {b10_1 : List Int} : Sim C 162340826167080219680178532745199 qpu9 (qej9 s0 s1 s2 s6 s8 s9 s11 s12 s14 s87 s88 b3_0 b3_1 b5_0 b5_1 b10_0 b10_1) (qgz9 s0 s1 s2 s6 s8 s9 s11 s12 s14 s87 s88 b3_0 b3_1 b5_0 b5_1 b10_0 b10_1) (qtG9 s0 s1 s2 s6 s8 s9 s11 s12 s14 s87 s88 b3_0 b3_1 b5_0 b5_1 b10_0 b10_1) := by
  intro s g r hr
  obtain ⟨s89, o13⟩ := s
  have ⟨v13, hg0⟩ : ∃ y, y = g := ⟨_, rfl⟩
  subst hg0
  simp only [qej9] at hr
  rcases iteP hr with ⟨h1, hr⟩ | ⟨h1, hr⟩
  obtain ⟨x8, h2, hr⟩ := bsome hr
  rcases iteP hr with ⟨h3, hr⟩ | ⟨h3, hr⟩
  obtain ⟨x9, h4, hr⟩ := bsome hr
  have h4k := (qpS9 h4).k rfl rfl rfl
  try simp only [go_sem] at h4k
  rcases iteP hr with ⟨h5, hr⟩ | ⟨h5, hr⟩
  obtain rfl := oiA hr
  refine xv_of ?_
  rotate_left
  obtain ⟨h6, hr⟩ := gsome hr
  obtain rfl := oiA hr
  refine ⟨(v13 + 1), ?_⟩
  rotate_left
  rcases iteP hr with ⟨h7, hr⟩ | ⟨h7, hr⟩
  obtain rfl := oiA hr
  refine xv_of ?_
  rotate_left
  obtain ⟨h8, hr⟩ := gsome hr
  obtain rfl := oiA hr
  refine ⟨(v13 + 1), ?_⟩
  rotate_left
  obtain rfl := oiA hr
  refine xe_of ⟨v13, rfl⟩ ?_
  rotate_left
  all_goals (simp +decide only [go_sem, qgz9, qpu9, *])
theorem qnn9 {a0 : System} {a1 : List Int} {a2 : Redex} {r : (List Int) × Int} (hr : qgf9 a0 a1 a2 = some r) : Res C 18 [.ag (qg9 a0), .rd (a1.map intD), .ag (qo9 a2)] (.tp [.d (.rd (r.1.map intD)), PI r.2]) := by
  simp only [qgf9] at hr
  obtain ⟨x1, h1, hr⟩ := bsome hr
  have h1k := fun h => (qjI9 h1).o rfl rfl rfl (h := h) (args := [.ag [.d (.rd (a0.Sig.map qb9)), .d (.rd (a0.Rules.map qd9))], .d (.rd (a1.map intD))]) rfl
  try simp only [go_sem] at h1k
  rcases iteP hr with ⟨h2, hr⟩ | ⟨h2, hr⟩
  rcases iteP hr with ⟨h3, hr⟩ | ⟨h3, hr⟩
  obtain rfl := oiA hr
  refine run_V is18 (nbA rfl) ?_
  rotate_left
  rcases iteP hr with ⟨h4, hr⟩ | ⟨h4, hr⟩
  obtain rfl := oiA hr
  refine run_V is18 (nbA rfl) ?_
  rotate_left
  rcases iteP hr with ⟨h5, hr⟩ | ⟨h5, hr⟩
  obtain rfl := oiA hr
  refine run_V is18 (nbA rfl) ?_
  rotate_left
  rcases iteP hr with ⟨h6, hr⟩ | ⟨h6, hr⟩
  obtain rfl := oiA hr
  refine run_V is18 (nbA rfl) ?_
  rotate_left
  obtain ⟨x2, h7, x3, h8, x4, h9, x5, h10, hr⟩ := bs4 hr
  have h7k := (qkK9 h7).k rfl rfl rfl
  try simp only [go_sem] at h7k
  obtain ⟨x6, h11, hr⟩ := bsome hr
  have h11k := (qjB9 h11).k rfl rfl rfl
  try simp only [go_sem] at h11k
  rcases iteB hr with ⟨h12, hr⟩ | ⟨h12, hr⟩
  simp only [h12] at hr
  obtain ⟨x7, h13, hr⟩ := bsome hr
  obtain ⟨h14, hr⟩ := gsome hr
  obtain ⟨x10, h15, hr⟩ := bsome hr
  obtain ⟨q15, h15L, h15X⟩ := qtE9.L (g := 0) h15
  rcases x10 with x11 | ⟨x12, x13⟩
  try dsimp only at hr
  obtain ⟨st15, rfl, h15R⟩ := h15X
  simp only [qgz9, go_sem] at h15L
  obtain rfl := oiA hr
  refine run_V is18 (nbA rfl) ?_
  rotate_left
  try dsimp only at hr
  obtain ⟨z14, rfl⟩ := h15X
  simp only [qgz9, go_sem] at h15L
  obtain ⟨x15, h16, hr⟩ := bsome hr
  obtain ⟨h17, hr⟩ := gsome hr
  obtain rfl := oiA hr
  refine run_V is18 (nbA rfl) ?_
  rotate_left
  obtain rfl := oiA hr
  refine run_V is18 (nbA rfl) ?_
  rotate_left
  obtain rfl := oiA hr
  refine run_V is18 (nbA rfl) ?_
  rotate_left
  all_goals (simp +decide only [go_sem, c18, *])
end Ld

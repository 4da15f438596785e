import Derived.Test.YtfjgfcnhklopdaaDoorSPW1
import Derived.Test.YtfjgfcnhklopdaaDoorSPW2
import Derived.Test.YtfjgfcnhklopdaaDoorSPW7
set_option maxHeartbeats 4000000
set_option linter.unusedVariables false
set_option linter.unusedSimpArgs false
namespace Ld
open Go Go.Proofs Go.Abs
set_option maxRecDepth 8000
def qrD9 : ACode := .reg [] [] [.K 4 (.mv (cI 0))]
def qrE9 : ACode := .reg [] [] [.M 8 0, .M 9 1, .T 10 (.call 91 [.tmp 8, .tmp 9]), .M 7 10, .T 11 (.ext (.tmp 7) 0), .T 12 (.ext (.tmp 7) 1), .M 5 11, .N 6 12]
def qrf9 : ACode := .reg [] [] [.M 13 6, .N 4 13]
def c62 : ACode := .seq (qrD9) (.seq (qrE9) (.seq (qrf9) (.ret)))
theorem is62 : IsF C 62 14 83 c62 [.tmp 4] := ⟨⟨Tryd.f62, _, C_P ▸ Tryd.func62, rfl, rfl, rfl, by kernel_rfl, rfl⟩⟩
theorem qqV9 {sig : List Symbol} {t : List Int} {r : Int} (hr : qbr9 sig t = some r) : ∃ p hp, Lim C 62 (TArgs sig t) [] = some (p, hp) ∧ rsT hp p = some (PI r) := by
  simp only [qbr9] at hr
  obtain ⟨e, he, hr⟩ := bsome hr
  by_cases h0 : e = 0
  · subst h0
    simp only [if_true] at hr
    obtain ⟨hL, hr⟩ := gsome hr
    replace hr := oiA hr
    subst hr
    obtain ⟨x, h', q1, _⟩ := qov9 (of_eq_true hL) (fun s hs => by have := qcg9 he s hs; omega) he []
    have hcall : callP C (Lim C) 91 (TArgs sig t) [] = some (.tp [x, PI (qg9 sig t)], h') := q1
    refine ⟨_, _, Lim_A is62 (h' := h') (nbA rfl) (env := [(0, .d (.rd (sig.map qb9))), (1, .d (.rd (t.map intD))), (4, PI (qg9 sig t)), (6, PI (qg9 sig t))]) (e := .ret) ?_ (.inr rfl) (vs := [PI (qg9 sig t)]) rfl, rfl⟩
    simp +decide only [c62, qrD9, qrE9, qrf9, qL9, go_sem, opNil, hcall]
  · rw [if_neg h0] at hr
    replace hr := oiA hr
    subst hr
    have hcall : callP C (Lim C) 91 (TArgs sig t) [] = some (.tp [.d (.v .nilIface), PI e], []) := qtB9 he h0 []
    refine ⟨_, _, Lim_A is62 (h' := []) (nbA rfl) (env := [(0, .d (.rd (sig.map qb9))), (1, .d (.rd (t.map intD))), (4, PI e), (6, PI e)]) (e := .ret) ?_ (.inr rfl) (vs := [PI e]) rfl, rfl⟩
    simp +decide only [c62, qrD9, qrE9, qrf9, qL9, go_sem, opNil, hcall]
theorem qfo9 {a0 : List Symbol} {a1 : List Int} {r : Int} (hr : qbr9 a0 a1 = some r) {h : AHeap} : callP C (Lim C) 62 (TArgs a0 a1) h = some (PI r, h) := qmb9 (ds := [.rd (a0.map qb9), .rd (a1.map intD)]) rfl rfl rfl (qqV9 hr) h

def c42 : ACode := .seq (.reg [] [] [.K 2 (.box (.tmp 0)), .K 4 (.mv (cI 0))]) (.seq (.seq (.reg [] [] [.T 8 (.load (some 2) (.tmp 2)), .T 9 (.call 77 [.tmp 8]), .M 7 9, .T 10 (.ext (.tmp 7) 0), .T 11 (.ext (.tmp 7) 1), .N 5 10, .M 6 11]) (.seq (.reg [] [] [.M 12 5, .K 13 (.bin .neq (.tmp 12) (cI 0))]) (.cond (.tmp 13) (some 13) (.seq (.reg [] [] [.M 14 5, .N 4 14]) (.ret)) (.skip)))) (.seq (.reg [] [] [.T 15 (.fa 0 (.tmp 2)), .T 16 (.load none (.tmp 15)), .M 17 1, .T 18 (.call 62 [.tmp 16, .tmp 17]), .N 4 18]) (.ret)))
theorem is42 : IsF C 42 19 8247 c42 [.tmp 4] := ⟨⟨Tryd.f42, _, C_P ▸ Tryd.func42, rfl, rfl, rfl, by kernel_rfl, rfl⟩⟩
theorem qjx9 {a0 : System} {a1 : List Int} {r : Int} (hr : qeG9 a0 a1 = some r) : Res C 42 [.ag (qf9 a0), .rd (a1.map intD)] (PI r) := by
  simp only [qeG9] at hr
  obtain ⟨x1, h1, hr⟩ := bsome hr
  have h1k := fun h => (qoC9 h1).o rfl rfl rfl (h := h) (args := [.ag [.d (.rd (a0.Sig.map qb9)), .d (.rd (a0.Rules.map qd9))]]) rfl
  try simp only [go_sem] at h1k
  rcases iteP hr with ⟨h2, hr⟩ | ⟨h2, hr⟩
  obtain ⟨x2, h3, hr⟩ := bsome hr
  have h3k := fun h => qfo9 (h := h) h3
  try simp only [go_sem] at h3k
  obtain rfl := oiA hr
  refine run_V is42 (nbA rfl) ?_
  rotate_left
  obtain rfl := oiA hr
  refine run_V is42 (nbA rfl) ?_
  rotate_left
  all_goals (simp +decide only [go_sem, c42, *])
def qrJ9 : ACode := .seq (.reg [] [] [.K 14 (.bin .lss (.tmp 13) (.tmp 12))]) (.seq (.cond (.tmp 14) (some 14) (.skip) (.exit 0)) (.seq (.block 1 16793632 (.seq (.reg [] [] [.M 15 13, .N 5 15]) (.seq (.reg [] [] [.M 16 0, .M 17 5, ⟨some (18, false), .ix 1 (.tmp 16) (.tmp 17), none, true, false⟩, ⟨some (19, false), .load none (.tmp 18), none, true, false⟩, .M 20 1, .M 21 5, ⟨some (22, false), .ix 1 (.tmp 20) (.tmp 21), none, true, false⟩, ⟨some (23, false), .load none (.tmp 22), none, true, false⟩, .K 24 (.bin .neq (.tmp 19) (.tmp 23))]) (.cond (.tmp 24) (some 24) (.seq (.reg [] [] [.K 4 (.mv (.const (.bool false)))]) (.ret)) (.skip))))) (.reg [] [] [.T 25 (.bin .add (.tmp 13) (cI 1)), .N 13 25])))
def c82 : ACode := .seq (.reg [] [] [.K 4 (.mv (.const (.bool false)))]) (.seq (.seq (.reg [] [] [.M 6 0, .T 7 (.len (.tmp 6)), .M 8 1, .T 9 (.len (.tmp 8)), .K 10 (.bin .neq (.tmp 7) (.tmp 9))]) (.cond (.tmp 10) (some 10) (.seq (.reg [] [] [.K 4 (.mv (.const (.bool false)))]) (.ret)) (.skip))) (.seq (.seq (.reg [] [] [.M 11 0, .K 12 (.len (.tmp 11)), .K 13 (.mv (cI 0))]) (.block 0 16793632 (.loop qrJ9))) (.seq (.reg [] [] [.K 4 (.mv (.const (.bool true)))]) (.ret))))
theorem is82 : IsF C 82 26 16806963 c82 [.tmp 4] := ⟨⟨Tryd.f82, _, C_P ▸ Tryd.func82, rfl, rfl, rfl, by kernel_rfl, rfl⟩⟩
def qbH9 (s0 : List Int) (s1 : List Int) (s12 : Int) : Int → Unit → St := fun s13 _ => ⟨[(0, .d (.rd (s0.map intD))), (1, .d (.rd (s1.map intD))), (4, PB false), (12, PI s12), (13, PI s13)], []⟩
def qje9 (s0 : List Int) (s1 : List Int) (s12 : Int) : (Bool ⊕ Int) → AExit × St → Prop
  | .inl r, q => XV C [.tmp 4] (PB r) q
  | .inr s13, q => ∃ g, q = (.exit 0, qbH9 s0 s1 s12 s13 g)
theorem qji9 {s0 : List Int} {s1 : List Int} {s12 : Int} : Sim C 16806963 qrJ9 (qcB9 s0 s1 s12) (qbH9 s0 s1 s12) (qje9 s0 s1 s12) := by
  intro s g r hr
  have ⟨s13, hs0⟩ : ∃ y, y = s := ⟨_, rfl⟩
  subst hs0
  simp only [qcB9] at hr
  rcases iteP hr with ⟨h1, hr⟩ | ⟨h1, hr⟩
  obtain ⟨x1, h2, x2, h3, hr⟩ := bs2 hr
  rcases iteP hr with ⟨h4, hr⟩ | ⟨h4, hr⟩
  obtain rfl := oiA hr
  refine ⟨(), ?_⟩
  rotate_left
  obtain rfl := oiA hr
  refine xv_of ?_
  rotate_left
  obtain rfl := oiA hr
  refine xe_of ⟨(), rfl⟩ ?_
  rotate_left
  all_goals (simp +decide only [go_sem, qbH9, qrJ9, *])
theorem qjB9 {a0 : List Int} {a1 : List Int} {r : Bool} (hr : qbF9 a0 a1 = some r) : Res C 82 [.rd (a0.map intD), .rd (a1.map intD)] (PB r) := by
  simp only [qbF9] at hr
  rcases iteP hr with ⟨h1, hr⟩ | ⟨h1, hr⟩
  obtain ⟨x3, h2, hr⟩ := bsome hr
  obtain ⟨q2, h2L, h2X⟩ := qji9.L (g := ()) h2
  rcases x3 with x4 | x5
  try dsimp only at hr
  obtain ⟨st2, rfl, h2R⟩ := h2X
  simp only [qbH9, go_sem] at h2L
  obtain rfl := oiA hr
  refine run_V is82 (nbA rfl) ?_
  rotate_left
  try dsimp only at hr
  obtain ⟨⟨⟩, rfl⟩ := h2X
  simp only [qbH9, go_sem] at h2L
  obtain rfl := oiA hr
  refine run_V is82 (nbA rfl) ?_
  rotate_left
  obtain rfl := oiA hr
  refine run_V is82 (nbA rfl) ?_
  rotate_left
  all_goals (simp +decide only [go_sem, c82, *])
def qpW9 : ACode := .seq (.reg [] [] [.K 33 (.bin .lss (.tmp 32) (.tmp 31))]) (.seq (.cond (.tmp 33) (some 33) (.skip) (.exit 0)) (.seq (.block 1 604467521783612674930688 (.seq (.reg [] [] [.T 34 (.ix 1 (.tmp 30) (.tmp 32)), .T 35 (.load none (.tmp 34)), .N 11 35]) (.seq (.reg [] [] [.M 36 11, .T 37 (.call 80 [.tmp 36]), .N 12 37]) (.seq (.seq (.reg [] [] [.M 39 12, .T 40 (.asr 128 (some (.d (.v (.int .i64 0)))) (.tmp 39) true), .M 38 40, .T 41 (.ext (.tmp 38) 0), .T 42 (.ext (.tmp 38) 1), .N 13 41, .N 14 42]) (.seq (.reg [] [] [.N 43 14]) (.cond (.tmp 43) (some 43) (.seq (.seq (.reg [] [] [.M 44 2, .T 45 (.ix 1 (.tmp 44) (cI 0)), .T 46 (.load none (.tmp 45)), .M 47 13, .K 48 (.bin .neq (.tmp 46) (.tmp 47))]) (.cond (.tmp 48) (some 48) (.seq (.reg [] [(6, 0)] [.K 6 (.mv (.const (.slice none 0 0))), .K 7 (.mv (.const (.bool false)))]) (.ret)) (.skip))) (.seq (.reg [] [] [.M 49 2, .T 50 (.cut 1 (.tmp 49) (some (cI 1)) none), .N 2 50]) (.exit 1))) (.skip)))) (.seq (.reg [] [] [.M 51 12, .T 52 (.asr 130 (some (.d (.v (.int .i64 0)))) (.tmp 51) false), .N 15 52]) (.seq (.reg [] [] [.M 53 0, .M 54 2, .T 55 (.call 81 [.tmp 53, .tmp 54]), .N 16 55]) (.seq (.reg [] [(17, 0)] [.M 57 8, .M 58 15, .T 59 (.look (Go.TypeDesc.int .i64) (.im true []) (.tmp 57) (.tmp 58) true), .M 56 59, .T 60 (.ext (.tmp 56) 0), .T 61 (.ext (.tmp 56) 1), .N 17 60, .N 18 61]) (.seq (.block 2 604467521783612674865152 (.seq (.reg [] [] [.M 63 18, .T 64 (.not (.tmp 63)), .N 62 64]) (.cond (.tmp 62) (some 62) (.seq (.reg [] [] [.M 65 8, .M 66 15, .M 67 2, .M 68 16, .T 69 (.cut 1 (.tmp 67) none (some (.tmp 68))), ⟨none, .mput (Go.TypeDesc.int .i64) (.tmp 65) (.tmp 66) (.tmp 69), none, false, false⟩]) (.reg [] [] [.M 70 9, .M 71 15, .M 72 2, .M 73 16, .T 74 (.cut 1 (.tmp 72) none (some (.tmp 73))), ⟨some (75, false), .call 58 [.tmp 74], none, false, true⟩, .T 76 (.build [(0, 1), (1, 1)] [.d (.v (.int .i64 0)), .im true []] [(0, .tmp 71), (1, .tmp 75)]), .T 77 (.lit 2 [(0, .tmp 76)]), .T 78 (.app 2 32 (.tmp 70) (.tmp 77)), .N 9 78])) (.seq (.reg [] [] [.M 80 17, .M 81 2, .M 82 16, .T 83 (.cut 1 (.tmp 81) none (some (.tmp 82))), .T 84 (.call 82 [.tmp 80, .tmp 83]), .T 85 (.not (.tmp 84)), .N 79 85]) (.cond (.tmp 79) (some 79) (.seq (.reg [] [(6, 0)] [.K 6 (.mv (.const (.slice none 0 0))), .K 7 (.mv (.const (.bool false)))]) (.ret)) (.skip)))))) (.reg [] [] [.M 86 2, .M 87 16, .T 88 (.cut 1 (.tmp 86) (some (.tmp 87)) none), .N 2 88]))))))))) (.reg [] [] [.T 89 (.bin .add (.tmp 32) (cI 1)), .N 32 89])))
def c49 : ACode := .seq (.reg [] [(6, 0)] [.K 6 (.mv (.const (.slice none 0 0))), .K 7 (.mv (.const (.bool false)))]) (.seq (.seq (.reg [] [] [.M 19 0, .M 20 1, .T 21 (.call 62 [.tmp 19, .tmp 20]), .T 22 (.bin .neq (.tmp 21) (cI 0)), .M 23 22, .MG 24 23 false 0, .MG 25 23 false 2, .TG 26 23 false (.call 62 [.tmp 24, .tmp 25]), .TG 27 23 false (.bin .neq (.tmp 26) (cI 0)), .K 28 (.pick (.tmp 23) (.const (.bool true)) (.tmp 27))]) (.cond (.tmp 28) (some 28) (.seq (.reg [] [(6, 0)] [.K 6 (.mv (.const (.slice none 0 0))), .K 7 (.mv (.const (.bool false)))]) (.ret)) (.skip))) (.seq (.reg [] [] [.T 29 (.mkMap), .N 8 29]) (.seq (.reg [] [(9, 2)] [.K 9 (.mv (.const (.slice none 0 0)))]) (.seq (.seq (.reg [] [] [.N 30 1, .K 31 (.len (.tmp 30)), .K 32 (.mv (cI 0))]) (.block 0 604467521783612674930688 (.loop qpW9))) (.seq (.reg [] [] [.M 90 9, .T 91 (.call 83 [.tmp 90, .func 84])]) (.seq (.reg [] [(6, 0)] [.M 92 9, .N 6 92, .K 7 (.mv (.const (.bool true)))]) (.ret)))))))
theorem is49 : IsF C 49 93 604467521783620459559879 c49 [.tmp 6, .tmp 7] := ⟨⟨Tryd.f49, _, C_P ▸ Tryd.func49, rfl, rfl, rfl, by kernel_rfl, rfl⟩⟩
def qeo9 (s0 : List Symbol) (s1 : List Int) (s6 : List Bind) (s30 : List Int) (s31 : Int) : (List Int) × Int × (List (Int × (List Int))) × (List Bind) → Nat × AHeap → St := fun (s2, s32, m8, o9) (v9, gt) => ⟨[(0, .d (.rd (s0.map qb9))), (1, .d (.rd (s1.map intD))), (2, .d (.rd (s2.map intD))), (6, .d (.rd (s6.map qc9))), (7, PB false), (8, .mp 0), (9, .ref 1 v9 0 o9.length), (30, .d (.rd (s30.map intD))), (31, PI s31), (32, PI s32)], (.map (mapP keyI (lsD intD) m8) :: (.row false v9 2 (rowP qc9 o9) :: gt))⟩
def qot9 (s0 : List Symbol) (s1 : List Int) (s6 : List Bind) (s30 : List Int) (s31 : Int) : (((List Bind) × Bool) ⊕ ((List Int) × Int × (List (Int × (List Int))) × (List Bind))) → AExit × St → Prop
  | .inl r, q => XV C [.tmp 6, .tmp 7] (.tp [.d (.rd (r.1.map qc9)), PB r.2]) q
  | .inr (s2, s32, m8, o9), q => ∃ g, q = (.exit 0, qeo9 s0 s1 s6 s30 s31 (s2, s32, m8, o9) g)
theorem qoA9 {s0 : List Symbol} {s1 : List Int} {s6 : List Bind} {s30 : List Int} {s31 : Int} : Sim C 604467521783620459559879 qpW9 (qbe9 s0 s1 s6 s30 s31) (qeo9 s0 s1 s6 s30 s31) (qot9 s0 s1 s6 s30 s31) := by
  intro s g r hr
  obtain ⟨s2, s32, m8, o9⟩ := s
  obtain ⟨v9, gt⟩ := g
  simp only [qbe9] at hr
  rcases iteP hr with ⟨h1, hr⟩ | ⟨h1, hr⟩
  obtain ⟨x3, h2, x4, h3, hr⟩ := bs2 hr
  have h3k := (qqG9 h3).k rfl rfl rfl
  try simp only [go_sem] at h3k
  obtain ⟨h4, hr⟩ := gsome hr
  rcases h5 : asI 128 .i64 x4 with _ | x5
  simp only [h5] at hr
  obtain ⟨x8, h6, x9, h7, hr⟩ := bs2 hr
  have h7k := (qpC9 h7).k rfl rfl rfl
  try simp only [go_sem] at h7k
  rcases h8 : mget m8 x8 with _ | x10
  simp only [h8] at hr
  obtain ⟨x14, h9, hr⟩ := bsome hr
  obtain ⟨h10, hr⟩ := gsome hr
  obtain ⟨h11, hr⟩ := gsome hr
  obtain ⟨x15, h12, hr⟩ := bsome hr
  obtain rfl := oiA hr
  refine ⟨((v9 + 1), (gt ++ (.row true 0 1 (rowP intD x14) :: []))), ?_⟩
  rotate_left
  simp only [h8] at hr
  obtain ⟨x11, h13, x12, h14, hr⟩ := bs2 hr
  have h14k := (qjB9 h14).k rfl rfl rfl
  try simp only [go_sem] at h14k
  rcases iteB hr with ⟨h15, hr⟩ | ⟨h15, hr⟩
  obtain ⟨x13, h16, hr⟩ := bsome hr
  obtain rfl := oiA hr
  refine ⟨(v9, gt), ?_⟩
  rotate_left
  obtain rfl := oiA hr
  refine xv_of ?_
  rotate_left
  simp only [h5] at hr
  obtain ⟨x6, h17, hr⟩ := bsome hr
  rcases iteP hr with ⟨h18, hr⟩ | ⟨h18, hr⟩
  obtain ⟨x7, h19, hr⟩ := bsome hr
  obtain rfl := oiA hr
  refine ⟨(v9, gt), ?_⟩
  rotate_left
  obtain rfl := oiA hr
  refine xv_of ?_
  rotate_left
  obtain rfl := oiA hr
  refine xe_of ⟨(v9, gt), rfl⟩ ?_
  rotate_left
  all_goals (simp +decide only [go_sem, qeo9, qpW9, *])
theorem qiQ9 {a0 : List Symbol} {a1 : List Int} {a2 : List Int} {r : (List Bind) × Bool} (hr : qee9 a0 a1 a2 = some r) : Res C 49 [.rd (a0.map qb9), .rd (a1.map intD), .rd (a2.map intD)] (.tp [.d (.rd (r.1.map qc9)), PB r.2]) := by
  simp only [qee9] at hr
  obtain ⟨x1, h1, hr⟩ := bsome hr
  have h1k := fun h => qfo9 (h := h) h1
  try simp only [go_sem] at h1k
  rcases iteP hr with ⟨h2, hr⟩ | ⟨h2, hr⟩
  obtain ⟨x2, h3, hr⟩ := bsome hr
  have h3k := fun h => qfo9 (h := h) h3
  try simp only [go_sem] at h3k
  rcases iteP hr with ⟨h4, hr⟩ | ⟨h4, hr⟩
  obtain ⟨x16, h5, hr⟩ := bsome hr
  obtain ⟨q5, h5L, h5X⟩ := qoA9.L (g := (0, [])) h5
  rcases x16 with x17 | ⟨x18, x19, x20, x21⟩
  try dsimp only at hr
  obtain ⟨st5, rfl, h5R⟩ := h5X
  simp only [qeo9, go_sem] at h5L
  obtain rfl := oiA hr
  refine run_V is49 (nbA rfl) ?_
  rotate_left
  try dsimp only at hr
  obtain ⟨⟨z22, z23⟩, rfl⟩ := h5X
  simp only [qeo9, go_sem] at h5L
  obtain ⟨x24, h6, hr⟩ := bsome hr
  obtain ⟨z25, h6k, h6l0⟩ := qkQ9 (g1 := (.map (mapP keyI (lsD intD) x20) :: [])) (v0 := z22) (n0 := x21.length) (g2 := z23) rfl h6
  replace h6k := qh9 rfl rfl rfl h6k
  try simp only [go_sem] at h6k
  obtain rfl := oiA hr
  refine run_V is49 (nbA rfl) ?_
  rotate_left
  obtain rfl := oiA hr
  refine run_V is49 (nbA rfl) ?_
  rotate_left
  obtain rfl := oiA hr
  refine run_V is49 (nbA rfl) ?_
  rotate_left
  all_goals (simp +decide only [go_sem, c49, *])
def qlF9 : ACode := .seq (.reg [] [] [.K 15 (.bin .lss (.tmp 14) (.tmp 13))]) (.seq (.cond (.tmp 15) (some 15) (.skip) (.exit 0)) (.seq (.block 1 4398113654144 (.seq (.reg [] [] [.M 16 14, .T 17 (.ix 2 (.tmp 12) (.tmp 14)), .T 18 (.load (some 2) (.tmp 17)), .K 8 (.alloc [.im true [], .im true []] 2), .N 7 16, ⟨none, .store 2 (.tmp 8) (.tmp 18), none, false, false⟩]) (.seq (.seq (.reg [] [] [.T 19 (.fa 0 (.tmp 8)), ⟨some (20, false), .load none (.tmp 19), none, true, false⟩, ⟨some (21, false), .ix 1 (.tmp 20) (cI 0), none, true, false⟩, ⟨some (22, false), .load none (.tmp 21), none, true, false⟩, .M 23 1, ⟨some (24, false), .ix 1 (.tmp 23) (cI 0), none, true, false⟩, ⟨some (25, false), .load none (.tmp 24), none, true, false⟩, .K 26 (.bin .neq (.tmp 22) (.tmp 25))]) (.cond (.tmp 26) (some 26) (.exit 1) (.skip))) (.seq (.reg [] [] [.T 28 (.fa 0 (.tmp 3)), .T 29 (.load none (.tmp 28)), .T 30 (.fa 0 (.tmp 8)), .T 31 (.load none (.tmp 30)), .M 32 1, .T 33 (.call 49 [.tmp 29, .tmp 31, .tmp 32]), .M 27 33, .T 34 (.ext (.tmp 27) 0), .T 35 (.ext (.tmp 27) 1), .M 9 34, .N 10 35]) (.seq (.reg [] [] [.M 36 10, .M 37 36, .MG 38 37 true 2, .MG 39 37 true 7, .TG 40 37 true (.callV (.tmp 38) [.tmp 39]), .TG 41 37 true (.not (.tmp 40)), .K 42 (.pick (.tmp 37) (.tmp 41) (.const (.bool false)))]) (.cond (.tmp 42) (some 42) (.seq (.reg [] [] [.K 6 (.mv (.const (.bool false)))]) (.ret)) (.skip))))))) (.reg [] [] [.T 43 (.bin .add (.tmp 14) (cI 1)), .N 14 43])))
def c44 : ACode := .seq (.reg [] [] [.K 3 (.box (.tmp 0)), .K 6 (.mv (.const (.bool false)))]) (.seq (.seq (.reg [] [] [.T 11 (.fa 1 (.tmp 3)), .K 12 (.load none (.tmp 11)), .K 13 (.len (.tmp 12)), .K 14 (.mv (cI 0))]) (.block 0 4398113654144 (.loop qlF9))) (.seq (.reg [] [] [.K 6 (.mv (.const (.bool true)))]) (.ret)))
theorem is44 : IsF C 44 44 4398113682895 c44 [.tmp 6] := ⟨⟨Tryd.f44, _, C_P ▸ Tryd.func44, rfl, rfl, rfl, by kernel_rfl, rfl⟩⟩
def qbs9 (s0_0 : List Symbol) (s0_1 : List Rule) (s1 : List Int) (s12 : List Rule) (s13 : Int) (b2_1_0 : Int) (b3_0 : List Symbol) (b3_1 : List Rule) (g1 : AHeap) (g2 : AHeap) (g3 : AHeap) (g4 : AHeap) : Int × (List Redex) → Nat × AHeap → St := fun (s14, o2_0_0) (v2_0_0, gt) => ⟨[(0, .ag [.d (.rd (s0_0.map qb9)), .d (.rd (s0_1.map qd9))]), (1, .d (.rd (s1.map intD))), (2, .fn 45 [.ptr g1.length 0 0 0, .ptr (g1.length + g2.length + g3.length + 2) 0 0 0]), (3, .ptr (g1.length + g2.length + g3.length + g4.length + 3) 0 0 0), (6, PB false), (12, .d (.rd (s12.map qd9))), (13, PI s13), (14, PI s14)], (g1 ++ (.row false 0 1 [[.ref (g1.length + g2.length + 1) v2_0_0 0 o2_0_0.length]] :: (g2 ++ (.row false v2_0_0 2 (rowP qp9 o2_0_0) :: (g3 ++ (.row false 0 1 [[PI b2_1_0]] :: (g4 ++ (.row false 0 2 [[.d (.rd (b3_0.map qb9)), .d (.rd (b3_1.map qd9))]] :: gt))))))))⟩
def qhM9 (s0_0 : List Symbol) (s0_1 : List Rule) (s1 : List Int) (s12 : List Rule) (s13 : Int) (b2_1_0 : Int) (b3_0 : List Symbol) (b3_1 : List Rule) (g1 : AHeap) (g2 : AHeap) (g3 : AHeap) (g4 : AHeap) : ((Bool × (List Redex)) ⊕ (Int × (List Redex))) → AExit × St → Prop
  | .inl r, q => XL C [.tmp 6] (fun vs hp => ∃ wv2_0_0 : Nat, ∃ hz : AHeap, vs = [PB r.1] ∧ hp = (g1 ++ (.row false 0 1 [[.ref (g1.length + g2.length + 1) wv2_0_0 0 r.2.length]] :: (g2 ++ (.row false wv2_0_0 2 (rowP qp9 r.2) :: (g3 ++ (.row false 0 1 [[PI b2_1_0]] :: (g4 ++ hz)))))))) q
  | .inr (s14, o2_0_0), q => ∃ g, q = (.exit 0, qbs9 s0_0 s0_1 s1 s12 s13 b2_1_0 b3_0 b3_1 g1 g2 g3 g4 (s14, o2_0_0) g)
theorem qhL9 {s0_0 : List Symbol} {s0_1 : List Rule} {s1 : List Int} {s12 : List Rule} {s13 : Int} {b2_1_0 : Int} {b3_0 : List Symbol} {b3_1 : List Rule} {g1 : AHeap} {g2 : AHeap} {g3 : AHeap} {g4 : AHeap} : Sim C 4398113682895 qlF9 (qU9 s0_0 s0_1 s1 s12 s13 b2_1_0 b3_0 b3_1) (qbs9 s0_0 s0_1 s1 s12 s13 b2_1_0 b3_0 b3_1 g1 g2 g3 g4) (qhM9 s0_0 s0_1 s1 s12 s13 b2_1_0 b3_0 b3_1 g1 g2 g3 g4) := by
  intro s g r hr
  obtain ⟨s14, o2_0_0⟩ := s
  obtain ⟨v2_0_0, gt⟩ := g
  simp only [qU9] at hr
  rcases iteP hr with ⟨h1, hr⟩ | ⟨h1, hr⟩
  obtain ⟨x1, h2, x2, h3, x3, h4, hr⟩ := bs3 hr
  rcases iteP hr with ⟨h5, hr⟩ | ⟨h5, hr⟩
  obtain ⟨x4, h6, hr⟩ := bsome hr
  have h6k := (qiQ9 h6).k rfl rfl rfl
  try simp only [go_sem] at h6k
  rcases iteB hr with ⟨h7, hr⟩ | ⟨h7, hr⟩
  obtain ⟨x5, h8, hr⟩ := bsome hr
  obtain ⟨z6, h8k⟩ := qpy9 (g1 := g1) (g2 := g2) (v1_0 := v2_0_0) (n1_0 := o2_0_0.length) (g3 := g3) (g4 := (g4 ++ (.row false 0 2 [[.d (.rd (b3_0.map qb9)), .d (.rd (b3_1.map qd9))]] :: (gt ++ (.row false 0 2 [[.d (.rd (x1.L.map intD)), .d (.rd (x1.R.map intD))]] :: []))))) rfl h8
  replace h8k := qh9 rfl rfl rfl h8k
  try simp only [go_sem] at h8k
  rcases iteB hr with ⟨h9, hr⟩ | ⟨h9, hr⟩
  obtain rfl := oiA hr
  refine ⟨(z6, (gt ++ (.row false 0 2 [[.d (.rd (x1.L.map intD)), .d (.rd (x1.R.map intD))]] :: []))), ?_⟩
  rotate_left
  obtain rfl := oiA hr
  refine xl_of ⟨z6, (.row false 0 2 [[.d (.rd (b3_0.map qb9)), .d (.rd (b3_1.map qd9))]] :: (gt ++ (.row false 0 2 [[.d (.rd (x1.L.map intD)), .d (.rd (x1.R.map intD))]] :: []))), rfl, rfl⟩ ?_
  rotate_left
  obtain rfl := oiA hr
  refine ⟨(v2_0_0, (gt ++ (.row false 0 2 [[.d (.rd (x1.L.map intD)), .d (.rd (x1.R.map intD))]] :: []))), ?_⟩
  rotate_left
  obtain rfl := oiA hr
  refine ⟨(v2_0_0, (gt ++ (.row false 0 2 [[.d (.rd (x1.L.map intD)), .d (.rd (x1.R.map intD))]] :: []))), ?_⟩
  rotate_left
  obtain rfl := oiA hr
  refine xe_of ⟨(v2_0_0, gt), rfl⟩ ?_
  rotate_left
  all_goals (simp +decide only [go_sem, qbs9, qlF9, *])
theorem qiC9 {s0_0 : List Symbol} {s0_1 : List Rule} {s1 : List Int} {o2_0_0 : List Redex} {b2_1_0 : Int} {g1 : AHeap} {g2 : AHeap} {v2_0_0 : Nat} {n2_0_0 : Nat} {g3 : AHeap} {g4 : AHeap} (hln2_0_0 : o2_0_0.length = n2_0_0) {r : Bool × (List Redex)} (hr : qbG9 s0_0 s0_1 s1 o2_0_0 b2_1_0 = some r) : ∃ wv2_0_0 : Nat, ∃ hz : AHeap, Lim C 44 [.ag [.d (.rd (s0_0.map qb9)), .d (.rd (s0_1.map qd9))], .d (.rd (s1.map intD)), .fn 45 [.ptr g1.length 0 0 0, .ptr (g1.length + g2.length + g3.length + 2) 0 0 0]] (g1 ++ (.row false 0 1 [[.ref (g1.length + g2.length + 1) v2_0_0 0 n2_0_0]] :: (g2 ++ (.row false v2_0_0 2 (rowP qp9 o2_0_0) :: (g3 ++ (.row false 0 1 [[PI b2_1_0]] :: g4)))))) = some (resOf [PB r.1], (g1 ++ (.row false 0 1 [[.ref (g1.length + g2.length + 1) wv2_0_0 0 r.2.length]] :: (g2 ++ (.row false wv2_0_0 2 (rowP qp9 r.2) :: (g3 ++ (.row false 0 1 [[PI b2_1_0]] :: (g4 ++ hz)))))))) := by
  simp only [qbG9] at hr
  obtain ⟨x7, h1, hr⟩ := bsome hr
  obtain ⟨q1, h1L, h1X⟩ := (qhL9 (g1 := g1) (g2 := g2) (g3 := g3) (g4 := g4)).L (g := (v2_0_0, [])) h1
  rcases x7 with x8 | ⟨x9, x10⟩
  try dsimp only at hr
  obtain ⟨st1, _, _, rfl, h1R, y4, y5, rfl, rfl⟩ := h1X
  simp only [qbs9, go_sem] at h1L
  try simp only [hln2_0_0] at h1L
  obtain rfl := oiA hr
  refine ⟨y4, y5, run_L is44 (nbA rfl) ?_⟩
  rotate_left
  try dsimp only at hr
  obtain ⟨⟨z11, z12⟩, rfl⟩ := h1X
  simp only [qbs9, go_sem] at h1L
  try simp only [hln2_0_0] at h1L
  obtain rfl := oiA hr
  refine ⟨z11, (.row false 0 2 [[.d (.rd (s0_0.map qb9)), .d (.rd (s0_1.map qd9))]] :: z12), run_L is44 (nbA rfl) ?_⟩
  rotate_left
  all_goals (simp +decide only [go_sem, c44, *])
def qrN9 : ACode := .seq (.reg [] [] [.K 18 (.bin .lss (.tmp 17) (.tmp 16))]) (.seq (.cond (.tmp 18) (some 18) (.skip) (.exit 0)) (.seq (.block 1 262336 (.seq (.reg [] [] [.M 19 17, .T 20 (.ix 1 (.tmp 15) (.tmp 17)), .T 21 (.load none (.tmp 20)), .K 6 (.alloc [.d (.v (.int .i64 0))] 1), ⟨none, .store 1 (.tmp 6) (.tmp 19), none, false, false⟩, .N 7 21]) (.reg [] [] [⟨some (22, false), .load (some 2) (.tmp 2), none, true, false⟩, .M 23 1, ⟨some (24, false), .load none (.tmp 6), none, true, false⟩, .M 25 7, ⟨some (26, false), .cut 1 (.tmp 23) (some (.tmp 24)) (some (.tmp 25)), none, true, false⟩, .T 27 (.mkF 45 [.tmp 5, .tmp 6]), .T 28 (.call 44 [.tmp 22, .tmp 26, .tmp 27])]))) (.reg [] [] [.T 29 (.bin .add (.tmp 17) (cI 1)), .N 17 29])))
def c14 : ACode := .seq (.reg [] [(4, 0)] [.K 2 (.box (.tmp 0)), .K 4 (.mv (.const (.slice none 0 0)))]) (.seq (.seq (.reg [] [] [.T 8 (.load (some 2) (.tmp 2)), .M 9 1, .T 10 (.call 42 [.tmp 8, .tmp 9]), .K 11 (.bin .neq (.tmp 10) (cI 0))]) (.cond (.tmp 11) (some 11) (.seq (.reg [] [(4, 0)] [.K 4 (.mv (.const (.slice none 0 0)))]) (.ret)) (.skip))) (.seq (.reg [] [(5, 2)] [.K 5 (.alloc [.im true []] 1)]) (.seq (.seq (.reg [] [] [.T 12 (.fa 0 (.tmp 2)), .T 13 (.load none (.tmp 12)), .M 14 1, .K 15 (.call 43 [.tmp 13, .tmp 14]), .K 16 (.len (.tmp 15)), .K 17 (.mv (cI 0))]) (.block 0 262336 (.loop qrN9))) (.seq (.reg [] [(4, 0)] [.T 30 (.load none (.tmp 5)), .N 4 30]) (.ret)))))
theorem is14 : IsF C 14 31 493815 c14 [.tmp 4] := ⟨⟨Tryd.f14, _, C_P ▸ Tryd.func14, rfl, rfl, rfl, by kernel_rfl, rfl⟩⟩
def qhR9 (s0 : System) (s1 : List Int) (s4 : List Redex) (s15 : List Int) (s16 : Int) (b2_0 : List Symbol) (b2_1 : List Rule) : Int × (List Redex) → Nat × AHeap → St := fun (s17, o5_0) (v5_0, gt) => ⟨[(0, .d (.ag (qf9 s0))), (1, .d (.rd (s1.map intD))), (2, .ptr 0 0 0 0), (4, .d (.rd (s4.map qp9))), (5, .ptr 1 0 0 0), (15, .d (.rd (s15.map intD))), (16, PI s16), (17, PI s17)], (.row false 0 2 [[.d (.rd (b2_0.map qb9)), .d (.rd (b2_1.map qd9))]] :: (.row false 0 1 [[.ref 2 v5_0 0 o5_0.length]] :: (.row false v5_0 2 (rowP qp9 o5_0) :: gt)))⟩
def qsc9 (s0 : System) (s1 : List Int) (s4 : List Redex) (s15 : List Int) (s16 : Int) (b2_0 : List Symbol) (b2_1 : List Rule) : (Int × (List Redex)) → AExit × St → Prop := fun (s17, o5_0) q => ∃ g, q = (.exit 0, qhR9 s0 s1 s4 s15 s16 b2_0 b2_1 (s17, o5_0) g)
theorem qsj9 {s0 : System} {s1 : List Int} {s4 : List Redex} {s15 : List Int} {s16 : Int} {b2_0 : List Symbol} {b2_1 : List Rule} : Sim C 493815 qrN9 (qeg9 s0 s1 s4 s15 s16 b2_0 b2_1) (qhR9 s0 s1 s4 s15 s16 b2_0 b2_1) (qsc9 s0 s1 s4 s15 s16 b2_0 b2_1) := by
  intro s g r hr
  obtain ⟨s17, o5_0⟩ := s
  obtain ⟨v5_0, gt⟩ := g
  simp only [qeg9] at hr
  rcases iteP hr with ⟨h1, hr⟩ | ⟨h1, hr⟩
  obtain ⟨x3, h2, x4, h3, x5, h4, hr⟩ := bs3 hr
  obtain ⟨z6, z7, h4k⟩ := qiC9 (g1 := (.row false 0 2 [[.d (.rd (b2_0.map qb9)), .d (.rd (b2_1.map qd9))]] :: [])) (g2 := []) (v2_0_0 := v5_0) (n2_0_0 := o5_0.length) (g3 := gt) (g4 := []) rfl h4
  replace h4k := qh9 rfl rfl rfl h4k
  try simp only [go_sem] at h4k
  obtain rfl := oiA hr
  refine ⟨(z6, (gt ++ (.row false 0 1 [[PI s17]] :: z7))), ?_⟩
  rotate_left
  obtain rfl := oiA hr
  refine xe_of ⟨(v5_0, gt), rfl⟩ ?_
  rotate_left
  all_goals (simp +decide only [go_sem, qhR9, qrN9, *])
theorem qjl9 {a0 : System} {a1 : List Int} {r : (List Redex)} (hr : qdD9 a0 a1 = some r) : Res C 14 [.ag (qf9 a0), .rd (a1.map intD)] (.d (.rd (r.map qp9))) := by
  simp only [qdD9] at hr
  obtain ⟨x1, h1, hr⟩ := bsome hr
  have h1k := fun h => (qjx9 h1).o rfl rfl rfl (h := h) (args := [.ag [.d (.rd (a0.Sig.map qb9)), .d (.rd (a0.Rules.map qd9))], .d (.rd (a1.map intD))]) rfl
  try simp only [go_sem] at h1k
  rcases iteP hr with ⟨h2, hr⟩ | ⟨h2, hr⟩
  obtain ⟨x2, h3, hr⟩ := bsome hr
  have h3k := (qkb9 h3).k rfl rfl rfl
  try simp only [go_sem] at h3k
  obtain ⟨x8, h4, hr⟩ := bsome hr
  obtain ⟨q4, h4L, h4X⟩ := qsj9.L (g := (0, [])) h4
  obtain ⟨x9, x10⟩ := x8
  try dsimp only at hr
  obtain ⟨⟨z11, z12⟩, rfl⟩ := h4X
  simp only [qhR9, go_sem] at h4L
  obtain rfl := oiA hr
  refine run_V is14 (nbA rfl) ?_
  rotate_left
  obtain rfl := oiA hr
  refine run_V is14 (nbA rfl) ?_
  rotate_left
  all_goals (simp +decide only [go_sem, c14, *])
def qV9 (s0_0 : List Symbol) (s0_1 : List Rule) (s1 : List Int) (s12 : List Rule) (s13 : Int) (b2_0_0 : Int) (b3_0 : List Symbol) (b3_1 : List Rule) (g1 : AHeap) (g2 : AHeap) (g3 : AHeap) : Int × Int × Int → AHeap → St := fun (s14, b2_1_0, b2_1_1) gt => ⟨[(0, .ag [.d (.rd (s0_0.map qb9)), .d (.rd (s0_1.map qd9))]), (1, .d (.rd (s1.map intD))), (2, .fn 60 [.ptr (g1.length + g2.length + 1) 0 0 0, .ptr g1.length 0 0 0]), (3, .ptr (g1.length + g2.length + g3.length + 2) 0 0 0), (6, PB false), (12, .d (.rd (s12.map qd9))), (13, PI s13), (14, PI s14)], (g1 ++ (.row false 0 2 [[PI b2_1_0, PI b2_1_1]] :: (g2 ++ (.row false 0 1 [[PI b2_0_0]] :: (g3 ++ (.row false 0 2 [[.d (.rd (b3_0.map qb9)), .d (.rd (b3_1.map qd9))]] :: gt))))))⟩
def qfB9 (s0_0 : List Symbol) (s0_1 : List Rule) (s1 : List Int) (s12 : List Rule) (s13 : Int) (b2_0_0 : Int) (b3_0 : List Symbol) (b3_1 : List Rule) (g1 : AHeap) (g2 : AHeap) (g3 : AHeap) : ((Bool × Int × Int) ⊕ (Int × Int × Int)) → AExit × St → Prop
  | .inl r, q => XL C [.tmp 6] (fun vs hp => ∃ hz : AHeap, vs = [PB r.1] ∧ hp = (g1 ++ (.row false 0 2 [[PI r.2.1, PI r.2.2]] :: (g2 ++ (.row false 0 1 [[PI b2_0_0]] :: (g3 ++ hz)))))) q
  | .inr (s14, b2_1_0, b2_1_1), q => ∃ g, q = (.exit 0, qV9 s0_0 s0_1 s1 s12 s13 b2_0_0 b3_0 b3_1 g1 g2 g3 (s14, b2_1_0, b2_1_1) g)
theorem qfq9 {s0_0 : List Symbol} {s0_1 : List Rule} {s1 : List Int} {s12 : List Rule} {s13 : Int} {b2_0_0 : Int} {b3_0 : List Symbol} {b3_1 : List Rule} {g1 : AHeap} {g2 : AHeap} {g3 : AHeap} : Sim C 4398113682895 qlF9 (qr9 s0_0 s0_1 s1 s12 s13 b2_0_0 b3_0 b3_1) (qV9 s0_0 s0_1 s1 s12 s13 b2_0_0 b3_0 b3_1 g1 g2 g3) (qfB9 s0_0 s0_1 s1 s12 s13 b2_0_0 b3_0 b3_1 g1 g2 g3) := by
  intro s g r hr
  obtain ⟨s14, b2_1_0, b2_1_1⟩ := s
  have ⟨gt, hg0⟩ : ∃ y, y = g := ⟨_, rfl⟩
  subst hg0
  simp only [qr9] at hr
  rcases iteP hr with ⟨h1, hr⟩ | ⟨h1, hr⟩
  obtain ⟨x1, h2, x2, h3, x3, h4, hr⟩ := bs3 hr
  rcases iteP hr with ⟨h5, hr⟩ | ⟨h5, hr⟩
  obtain ⟨x4, h6, hr⟩ := bsome hr
  have h6k := (qiQ9 h6).k rfl rfl rfl
  try simp only [go_sem] at h6k
  rcases iteB hr with ⟨h7, hr⟩ | ⟨h7, hr⟩
  obtain ⟨x5, h8, hr⟩ := bsome hr
  have h8k := qh9 rfl rfl rfl (qli9 (g1 := g1) (g2 := g2) (g3 := (g3 ++ (.row false 0 2 [[.d (.rd (b3_0.map qb9)), .d (.rd (b3_1.map qd9))]] :: (gt ++ (.row false 0 2 [[.d (.rd (x1.L.map intD)), .d (.rd (x1.R.map intD))]] :: []))))) h8)
  try simp only [go_sem] at h8k
  rcases iteB hr with ⟨h9, hr⟩ | ⟨h9, hr⟩
  obtain rfl := oiA hr
  refine ⟨(gt ++ (.row false 0 2 [[.d (.rd (x1.L.map intD)), .d (.rd (x1.R.map intD))]] :: [])), ?_⟩
  rotate_left
  obtain rfl := oiA hr
  refine xl_of ⟨(.row false 0 2 [[.d (.rd (b3_0.map qb9)), .d (.rd (b3_1.map qd9))]] :: (gt ++ (.row false 0 2 [[.d (.rd (x1.L.map intD)), .d (.rd (x1.R.map intD))]] :: []))), rfl, rfl⟩ ?_
  rotate_left
  obtain rfl := oiA hr
  refine ⟨(gt ++ (.row false 0 2 [[.d (.rd (x1.L.map intD)), .d (.rd (x1.R.map intD))]] :: [])), ?_⟩
  rotate_left
  obtain rfl := oiA hr
  refine ⟨(gt ++ (.row false 0 2 [[.d (.rd (x1.L.map intD)), .d (.rd (x1.R.map intD))]] :: [])), ?_⟩
  rotate_left
  obtain rfl := oiA hr
  refine xe_of ⟨gt, rfl⟩ ?_
  rotate_left
  all_goals (simp +decide only [go_sem, qV9, qlF9, *])
theorem qfM9 {s0_0 : List Symbol} {s0_1 : List Rule} {s1 : List Int} {b2_1_0 : Int} {b2_1_1 : Int} {b2_0_0 : Int} {g1 : AHeap} {g2 : AHeap} {g3 : AHeap} {r : Bool × Int × Int} (hr : qba9 s0_0 s0_1 s1 b2_1_0 b2_1_1 b2_0_0 = some r) : ∃ hz : AHeap, Lim C 44 [.ag [.d (.rd (s0_0.map qb9)), .d (.rd (s0_1.map qd9))], .d (.rd (s1.map intD)), .fn 60 [.ptr (g1.length + g2.length + 1) 0 0 0, .ptr g1.length 0 0 0]] (g1 ++ (.row false 0 2 [[PI b2_1_0, PI b2_1_1]] :: (g2 ++ (.row false 0 1 [[PI b2_0_0]] :: g3)))) = some (resOf [PB r.1], (g1 ++ (.row false 0 2 [[PI r.2.1, PI r.2.2]] :: (g2 ++ (.row false 0 1 [[PI b2_0_0]] :: (g3 ++ hz)))))) := by
  simp only [qba9] at hr
  obtain ⟨x6, h1, hr⟩ := bsome hr
  obtain ⟨q1, h1L, h1X⟩ := (qfq9 (g1 := g1) (g2 := g2) (g3 := g3)).L (g := []) h1
  rcases x6 with x7 | ⟨x8, x9, x10⟩
  try dsimp only at hr
  obtain ⟨st1, _, _, rfl, h1R, y6, rfl, rfl⟩ := h1X
  simp only [qV9, go_sem] at h1L
  obtain rfl := oiA hr
  refine ⟨y6, run_L is44 (nbA rfl) ?_⟩
  rotate_left
  try dsimp only at hr
  obtain ⟨z11, rfl⟩ := h1X
  simp only [qV9, go_sem] at h1L
  obtain rfl := oiA hr
  refine ⟨(.row false 0 2 [[.d (.rd (s0_0.map qb9)), .d (.rd (s0_1.map qd9))]] :: z11), run_L is44 (nbA rfl) ?_⟩
  rotate_left
  all_goals (simp +decide only [go_sem, c44, *])
def qqF9 : ACode := .seq (.seq (.reg [] [] [.M 11 8, .T 12 (.load none (.tmp 1)), .T 13 (.load none (.tmp 6)), .T 14 (.ix 1 (.tmp 12) (.tmp 13)), .T 15 (.load none (.tmp 14)), .K 16 (.bin .lss (.tmp 11) (.tmp 15))]) (.cond (.tmp 16) (some 16) (.skip) (.exit 0))) (.seq (.block 1 8454144 (.seq (.reg [] [] [.T 21 (.load none (.tmp 2)), .M 22 8, .K 23 (.callV (.tmp 21) [.tmp 22])]) (.cond (.tmp 23) (some 23) (.seq (.reg [] [] [.K 7 (.mv (.const (.bool true)))]) (.ret)) (.skip)))) (.reg [] [] [.T 17 (.load none (.tmp 1)), .M 18 8, .T 19 (.ix 1 (.tmp 17) (.tmp 18)), .T 20 (.load none (.tmp 19)), .N 8 20]))
def c59 : ACode := .seq (.reg [] [] [.K 6 (.box (.tmp 0)), .K 7 (.mv (.const (.bool false)))]) (.seq (.seq (.reg [] [] [.T 9 (.load none (.tmp 6)), .T 10 (.bin .add (.tmp 9) (cI 1)), .N 8 10]) (.block 0 8454144 (.loop qqF9))) (.seq (.reg [] [] [⟨some (24, false), .load (some 2) (.tmp 3), none, true, false⟩, ⟨some (25, false), .load none (.tmp 4), none, true, false⟩, ⟨some (26, false), .load none (.tmp 6), none, true, false⟩, ⟨some (27, false), .load none (.tmp 1), none, true, false⟩, ⟨some (28, false), .load none (.tmp 6), none, true, false⟩, ⟨some (29, false), .ix 1 (.tmp 27) (.tmp 28), none, true, false⟩, ⟨some (30, false), .load none (.tmp 29), none, true, false⟩, ⟨some (31, false), .cut 1 (.tmp 25) (some (.tmp 26)) (some (.tmp 30)), none, true, false⟩, .T 32 (.mkF 60 [.tmp 6, .tmp 5]), .T 33 (.call 44 [.tmp 24, .tmp 31, .tmp 32]), .T 34 (.not (.tmp 33)), .N 7 34]) (.ret)))
theorem is59 : IsF C 59 35 8454655 c59 [.tmp 7] := ⟨⟨Tryd.f59, _, C_P ▸ Tryd.func59, rfl, rfl, rfl, by kernel_rfl, rfl⟩⟩
def qdw9 (s0 : Int) (b6_0 : Int) (g1 : AHeap) (g2 : AHeap) (g3 : AHeap) (g4 : AHeap) (g5 : AHeap) (g6 : AHeap) : Int × (List Symbol) × (List Rule) × (List Int) × (List Int) × Int × Int → AHeap → St := fun (s8, b2_0_2_0, b2_0_2_1, b2_0_3_0, b1_0, b2_0_4_0, b2_0_4_1) gt => ⟨[(0, PI s0), (1, .ptr (g1.length + g2.length + g3.length + 2) 0 0 0), (2, .ptr (g1.length + g2.length + g3.length + g4.length + g5.length + 4) 0 0 0), (3, .ptr g1.length 0 0 0), (4, .ptr (g1.length + g2.length + 1) 0 0 0), (5, .ptr (g1.length + g2.length + g3.length + g4.length + 3) 0 0 0), (6, .ptr (g1.length + g2.length + g3.length + g4.length + g5.length + g6.length + 5) 0 0 0), (7, PB false), (8, PI s8)], (g1 ++ (.row false 0 2 [[.d (.rd (b2_0_2_0.map qb9)), .d (.rd (b2_0_2_1.map qd9))]] :: (g2 ++ (.row false 0 1 [[.d (.rd (b2_0_3_0.map intD))]] :: (g3 ++ (.row false 0 1 [[.d (.rd (b1_0.map intD))]] :: (g4 ++ (.row false 0 2 [[PI b2_0_4_0, PI b2_0_4_1]] :: (g5 ++ (.row false 0 1 [[.fn 59 [.ptr (g1.length + g2.length + g3.length + 2) 0 0 0, .ptr (g1.length + g2.length + g3.length + g4.length + g5.length + 4) 0 0 0, .ptr g1.length 0 0 0, .ptr (g1.length + g2.length + 1) 0 0 0, .ptr (g1.length + g2.length + g3.length + g4.length + 3) 0 0 0]]] :: (g6 ++ (.row false 0 1 [[PI b6_0]] :: gt))))))))))))⟩
def qmD9 (s0 : Int) (b6_0 : Int) (g1 : AHeap) (g2 : AHeap) (g3 : AHeap) (g4 : AHeap) (g5 : AHeap) (g6 : AHeap) : ((Bool × (List Symbol) × (List Rule) × (List Int) × (List Int) × Int × Int) ⊕ (Int × (List Symbol) × (List Rule) × (List Int) × (List Int) × Int × Int)) → AExit × St → Prop
  | .inl r, q => XL C [.tmp 7] (fun vs hp => ∃ hz : AHeap, vs = [PB r.1] ∧ hp = (g1 ++ (.row false 0 2 [[.d (.rd (r.2.1.map qb9)), .d (.rd (r.2.2.1.map qd9))]] :: (g2 ++ (.row false 0 1 [[.d (.rd (r.2.2.2.1.map intD))]] :: (g3 ++ (.row false 0 1 [[.d (.rd (r.2.2.2.2.1.map intD))]] :: (g4 ++ (.row false 0 2 [[PI r.2.2.2.2.2.1, PI r.2.2.2.2.2.2]] :: (g5 ++ (.row false 0 1 [[.fn 59 [.ptr (g1.length + g2.length + g3.length + 2) 0 0 0, .ptr (g1.length + g2.length + g3.length + g4.length + g5.length + 4) 0 0 0, .ptr g1.length 0 0 0, .ptr (g1.length + g2.length + 1) 0 0 0, .ptr (g1.length + g2.length + g3.length + g4.length + 3) 0 0 0]]] :: (g6 ++ hz)))))))))))) q
  | .inr (s8, b2_0_2_0, b2_0_2_1, b2_0_3_0, b1_0, b2_0_4_0, b2_0_4_1), q => ∃ g, q = (.exit 0, qdw9 s0 b6_0 g1 g2 g3 g4 g5 g6 (s8, b2_0_2_0, b2_0_2_1, b2_0_3_0, b1_0, b2_0_4_0, b2_0_4_1) g)
theorem qmN9 {rec : Int × (List Symbol) × (List Rule) × (List Int) × (List Int) × Int × Int → Option (Bool × (List Symbol) × (List Rule) × (List Int) × (List Int) × Int × Int)} (hrec : ∀ {s0 : Int} {b2_0_2_0 : List Symbol} {b2_0_2_1 : List Rule} {b2_0_3_0 : List Int} {b1_0 : List Int} {b2_0_4_0 : Int} {b2_0_4_1 : Int} {g1 : AHeap} {g2 : AHeap} {g3 : AHeap} {g4 : AHeap} {g5 : AHeap} {g6 : AHeap} {r : Bool × (List Symbol) × (List Rule) × (List Int) × (List Int) × Int × Int} (_ : rec (s0, b2_0_2_0, b2_0_2_1, b2_0_3_0, b1_0, b2_0_4_0, b2_0_4_1) = some r), ∃ hz : AHeap, callP C (Lim C) 59 [PI s0, .ptr (g1.length + g2.length + g3.length + 2) 0 0 0, .ptr (g1.length + g2.length + g3.length + g4.length + g5.length + 4) 0 0 0, .ptr g1.length 0 0 0, .ptr (g1.length + g2.length + 1) 0 0 0, .ptr (g1.length + g2.length + g3.length + g4.length + 3) 0 0 0] (g1 ++ (.row false 0 2 [[.d (.rd (b2_0_2_0.map qb9)), .d (.rd (b2_0_2_1.map qd9))]] :: (g2 ++ (.row false 0 1 [[.d (.rd (b2_0_3_0.map intD))]] :: (g3 ++ (.row false 0 1 [[.d (.rd (b1_0.map intD))]] :: (g4 ++ (.row false 0 2 [[PI b2_0_4_0, PI b2_0_4_1]] :: (g5 ++ (.row false 0 1 [[.fn 59 [.ptr (g1.length + g2.length + g3.length + 2) 0 0 0, .ptr (g1.length + g2.length + g3.length + g4.length + g5.length + 4) 0 0 0, .ptr g1.length 0 0 0, .ptr (g1.length + g2.length + 1) 0 0 0, .ptr (g1.length + g2.length + g3.length + g4.length + 3) 0 0 0]]] :: g6)))))))))) = some (resOf [PB r.1], (g1 ++ (.row false 0 2 [[.d (.rd (r.2.1.map qb9)), .d (.rd (r.2.2.1.map qd9))]] :: (g2 ++ (.row false 0 1 [[.d (.rd (r.2.2.2.1.map intD))]] :: (g3 ++ (.row false 0 1 [[.d (.rd (r.2.2.2.2.1.map intD))]] :: (g4 ++ (.row false 0 2 [[PI r.2.2.2.2.2.1, PI r.2.2.2.2.2.2]] :: (g5 ++ (.row false 0 1 [[.fn 59 [.ptr (g1.length + g2.length + g3.length + 2) 0 0 0, .ptr (g1.length + g2.length + g3.length + g4.length + g5.length + 4) 0 0 0, .ptr g1.length 0 0 0, .ptr (g1.length + g2.length + 1) 0 0 0, .ptr (g1.length + g2.length + g3.length + g4.length + 3) 0 0 0]]] :: (g6 ++ hz))))))))))))) {s0 : Int} {b6_0 : Int} {g1 : AHeap} {g2 : AHeap} {g3 : AHeap} {g4 : AHeap} {g5 : AHeap} {g6 : AHeap} : Sim C 8454655 qqF9 (qbC9 rec s0 b6_0) (qdw9 s0 b6_0 g1 g2 g3 g4 g5 g6) (qmD9 s0 b6_0 g1 g2 g3 g4 g5 g6) := by
  intro s g r hr
  obtain ⟨s8, b2_0_2_0, b2_0_2_1, b2_0_3_0, b1_0, b2_0_4_0, b2_0_4_1⟩ := s
  have ⟨gt, hg0⟩ : ∃ y, y = g := ⟨_, rfl⟩
  subst hg0
  simp only [qbC9] at hr
  obtain ⟨x1, h1, hr⟩ := bsome hr
  rcases iteP hr with ⟨h2, hr⟩ | ⟨h2, hr⟩
  obtain ⟨x2, h3, hr⟩ := bsome hr
  obtain ⟨z3, h3k⟩ := hrec (g1 := g1) (g2 := g2) (g3 := g3) (g4 := g4) (g5 := g5) (g6 := (g6 ++ (.row false 0 1 [[PI b6_0]] :: gt))) h3
  try simp only [go_sem] at h3k
  rcases iteB hr with ⟨h4, hr⟩ | ⟨h4, hr⟩
  obtain rfl := oiA hr
  refine xl_of ⟨(.row false 0 1 [[PI b6_0]] :: (gt ++ z3)), rfl, rfl⟩ ?_
  rotate_left
  obtain ⟨x4, h5, hr⟩ := bsome hr
  obtain rfl := oiA hr
  refine ⟨(gt ++ z3), ?_⟩
  rotate_left
  obtain rfl := oiA hr
  refine xe_of ⟨gt, rfl⟩ ?_
  rotate_left
  all_goals (simp +decide only [go_sem, qdw9, qqF9, *])
theorem qmx9 {rec : Int × (List Symbol) × (List Rule) × (List Int) × (List Int) × Int × Int → Option (Bool × (List Symbol) × (List Rule) × (List Int) × (List Int) × Int × Int)} (hrec : ∀ {s0 : Int} {b2_0_2_0 : List Symbol} {b2_0_2_1 : List Rule} {b2_0_3_0 : List Int} {b1_0 : List Int} {b2_0_4_0 : Int} {b2_0_4_1 : Int} {g1 : AHeap} {g2 : AHeap} {g3 : AHeap} {g4 : AHeap} {g5 : AHeap} {g6 : AHeap} {r : Bool × (List Symbol) × (List Rule) × (List Int) × (List Int) × Int × Int} (_ : rec (s0, b2_0_2_0, b2_0_2_1, b2_0_3_0, b1_0, b2_0_4_0, b2_0_4_1) = some r), ∃ hz : AHeap, callP C (Lim C) 59 [PI s0, .ptr (g1.length + g2.length + g3.length + 2) 0 0 0, .ptr (g1.length + g2.length + g3.length + g4.length + g5.length + 4) 0 0 0, .ptr g1.length 0 0 0, .ptr (g1.length + g2.length + 1) 0 0 0, .ptr (g1.length + g2.length + g3.length + g4.length + 3) 0 0 0] (g1 ++ (.row false 0 2 [[.d (.rd (b2_0_2_0.map qb9)), .d (.rd (b2_0_2_1.map qd9))]] :: (g2 ++ (.row false 0 1 [[.d (.rd (b2_0_3_0.map intD))]] :: (g3 ++ (.row false 0 1 [[.d (.rd (b1_0.map intD))]] :: (g4 ++ (.row false 0 2 [[PI b2_0_4_0, PI b2_0_4_1]] :: (g5 ++ (.row false 0 1 [[.fn 59 [.ptr (g1.length + g2.length + g3.length + 2) 0 0 0, .ptr (g1.length + g2.length + g3.length + g4.length + g5.length + 4) 0 0 0, .ptr g1.length 0 0 0, .ptr (g1.length + g2.length + 1) 0 0 0, .ptr (g1.length + g2.length + g3.length + g4.length + 3) 0 0 0]]] :: g6)))))))))) = some (resOf [PB r.1], (g1 ++ (.row false 0 2 [[.d (.rd (r.2.1.map qb9)), .d (.rd (r.2.2.1.map qd9))]] :: (g2 ++ (.row false 0 1 [[.d (.rd (r.2.2.2.1.map intD))]] :: (g3 ++ (.row false 0 1 [[.d (.rd (r.2.2.2.2.1.map intD))]] :: (g4 ++ (.row false 0 2 [[PI r.2.2.2.2.2.1, PI r.2.2.2.2.2.2]] :: (g5 ++ (.row false 0 1 [[.fn 59 [.ptr (g1.length + g2.length + g3.length + 2) 0 0 0, .ptr (g1.length + g2.length + g3.length + g4.length + g5.length + 4) 0 0 0, .ptr g1.length 0 0 0, .ptr (g1.length + g2.length + 1) 0 0 0, .ptr (g1.length + g2.length + g3.length + g4.length + 3) 0 0 0]]] :: (g6 ++ hz))))))))))))) {s0 : Int} {b2_0_2_0 : List Symbol} {b2_0_2_1 : List Rule} {b2_0_3_0 : List Int} {b1_0 : List Int} {b2_0_4_0 : Int} {b2_0_4_1 : Int} {g1 : AHeap} {g2 : AHeap} {g3 : AHeap} {g4 : AHeap} {g5 : AHeap} {g6 : AHeap} {r : Bool × (List Symbol) × (List Rule) × (List Int) × (List Int) × Int × Int} (hr : qbw9 rec s0 b2_0_2_0 b2_0_2_1 b2_0_3_0 b1_0 b2_0_4_0 b2_0_4_1 = some r) : ∃ hz : AHeap, Lim C 59 [PI s0, .ptr (g1.length + g2.length + g3.length + 2) 0 0 0, .ptr (g1.length + g2.length + g3.length + g4.length + g5.length + 4) 0 0 0, .ptr g1.length 0 0 0, .ptr (g1.length + g2.length + 1) 0 0 0, .ptr (g1.length + g2.length + g3.length + g4.length + 3) 0 0 0] (g1 ++ (.row false 0 2 [[.d (.rd (b2_0_2_0.map qb9)), .d (.rd (b2_0_2_1.map qd9))]] :: (g2 ++ (.row false 0 1 [[.d (.rd (b2_0_3_0.map intD))]] :: (g3 ++ (.row false 0 1 [[.d (.rd (b1_0.map intD))]] :: (g4 ++ (.row false 0 2 [[PI b2_0_4_0, PI b2_0_4_1]] :: (g5 ++ (.row false 0 1 [[.fn 59 [.ptr (g1.length + g2.length + g3.length + 2) 0 0 0, .ptr (g1.length + g2.length + g3.length + g4.length + g5.length + 4) 0 0 0, .ptr g1.length 0 0 0, .ptr (g1.length + g2.length + 1) 0 0 0, .ptr (g1.length + g2.length + g3.length + g4.length + 3) 0 0 0]]] :: g6)))))))))) = some (resOf [PB r.1], (g1 ++ (.row false 0 2 [[.d (.rd (r.2.1.map qb9)), .d (.rd (r.2.2.1.map qd9))]] :: (g2 ++ (.row false 0 1 [[.d (.rd (r.2.2.2.1.map intD))]] :: (g3 ++ (.row false 0 1 [[.d (.rd (r.2.2.2.2.1.map intD))]] :: (g4 ++ (.row false 0 2 [[PI r.2.2.2.2.2.1, PI r.2.2.2.2.2.2]] :: (g5 ++ (.row false 0 1 [[.fn 59 [.ptr (g1.length + g2.length + g3.length + 2) 0 0 0, .ptr (g1.length + g2.length + g3.length + g4.length + g5.length + 4) 0 0 0, .ptr g1.length 0 0 0, .ptr (g1.length + g2.length + 1) 0 0 0, .ptr (g1.length + g2.length + g3.length + g4.length + 3) 0 0 0]]] :: (g6 ++ hz)))))))))))) := by
  simp only [qbw9] at hr
  obtain ⟨x5, h1, hr⟩ := bsome hr
  obtain ⟨q1, h1L, h1X⟩ := (qmN9 hrec (g1 := g1) (g2 := g2) (g3 := g3) (g4 := g4) (g5 := g5) (g6 := g6)).L (g := []) h1
  rcases x5 with x6 | ⟨x7, x8, x9, x10, x11, x12, x13⟩
  try dsimp only at hr
  obtain ⟨st1, _, _, rfl, h1R, y7, rfl, rfl⟩ := h1X
  simp only [qdw9, go_sem] at h1L
  obtain rfl := oiA hr
  refine ⟨y7, run_L is59 (nbA rfl) ?_⟩
  rotate_left
  try dsimp only at hr
  obtain ⟨z14, rfl⟩ := h1X
  simp only [qdw9, go_sem] at h1L
  obtain ⟨x15, h2, x16, h3, x17, h4, hr⟩ := bs3 hr
  obtain ⟨z18, h4k⟩ := qfM9 (g1 := (g1 ++ (.row false 0 2 [[.d (.rd (x8.map qb9)), .d (.rd (x9.map qd9))]] :: (g2 ++ (.row false 0 1 [[.d (.rd (x10.map intD))]] :: (g3 ++ (.row false 0 1 [[.d (.rd (x11.map intD))]] :: g4))))))) (g2 := (g5 ++ (.row false 0 1 [[.fn 59 [.ptr (g1.length + g2.length + g3.length + 2) 0 0 0, .ptr (g1.length + g2.length + g3.length + g4.length + g5.length + 4) 0 0 0, .ptr g1.length 0 0 0, .ptr (g1.length + g2.length + 1) 0 0 0, .ptr (g1.length + g2.length + g3.length + g4.length + 3) 0 0 0]]] :: g6))) (g3 := z14) h4
  replace h4k := qh9 rfl rfl rfl h4k
  try simp only [go_sem] at h4k
  obtain rfl := oiA hr
  refine ⟨(.row false 0 1 [[PI s0]] :: (z14 ++ z18)), run_L is59 (nbA rfl) ?_⟩
  rotate_left
  all_goals (simp +decide only [go_sem, c59, *])
theorem qnb9 {s0 : Int} {b2_0_2_0 : List Symbol} {b2_0_2_1 : List Rule} {b2_0_3_0 : List Int} {b1_0 : List Int} {b2_0_4_0 : Int} {b2_0_4_1 : Int} {g1 : AHeap} {g2 : AHeap} {g3 : AHeap} {g4 : AHeap} {g5 : AHeap} {g6 : AHeap} {r : Bool × (List Symbol) × (List Rule) × (List Int) × (List Int) × Int × Int} (hr : qiS9 s0 b2_0_2_0 b2_0_2_1 b2_0_3_0 b1_0 b2_0_4_0 b2_0_4_1 = some r) : ∃ hz : AHeap, Lim C 59 [PI s0, .ptr (g1.length + g2.length + g3.length + 2) 0 0 0, .ptr (g1.length + g2.length + g3.length + g4.length + g5.length + 4) 0 0 0, .ptr g1.length 0 0 0, .ptr (g1.length + g2.length + 1) 0 0 0, .ptr (g1.length + g2.length + g3.length + g4.length + 3) 0 0 0] (g1 ++ (.row false 0 2 [[.d (.rd (b2_0_2_0.map qb9)), .d (.rd (b2_0_2_1.map qd9))]] :: (g2 ++ (.row false 0 1 [[.d (.rd (b2_0_3_0.map intD))]] :: (g3 ++ (.row false 0 1 [[.d (.rd (b1_0.map intD))]] :: (g4 ++ (.row false 0 2 [[PI b2_0_4_0, PI b2_0_4_1]] :: (g5 ++ (.row false 0 1 [[.fn 59 [.ptr (g1.length + g2.length + g3.length + 2) 0 0 0, .ptr (g1.length + g2.length + g3.length + g4.length + g5.length + 4) 0 0 0, .ptr g1.length 0 0 0, .ptr (g1.length + g2.length + 1) 0 0 0, .ptr (g1.length + g2.length + g3.length + g4.length + 3) 0 0 0]]] :: g6)))))))))) = some (resOf [PB r.1], (g1 ++ (.row false 0 2 [[.d (.rd (r.2.1.map qb9)), .d (.rd (r.2.2.1.map qd9))]] :: (g2 ++ (.row false 0 1 [[.d (.rd (r.2.2.2.1.map intD))]] :: (g3 ++ (.row false 0 1 [[.d (.rd (r.2.2.2.2.1.map intD))]] :: (g4 ++ (.row false 0 2 [[PI r.2.2.2.2.2.1, PI r.2.2.2.2.2.2]] :: (g5 ++ (.row false 0 1 [[.fn 59 [.ptr (g1.length + g2.length + g3.length + 2) 0 0 0, .ptr (g1.length + g2.length + g3.length + g4.length + g5.length + 4) 0 0 0, .ptr g1.length 0 0 0, .ptr (g1.length + g2.length + 1) 0 0 0, .ptr (g1.length + g2.length + g3.length + g4.length + 3) 0 0 0]]] :: (g6 ++ hz)))))))))))) := by
  obtain ⟨n, hn⟩ := qlw9 hr
  clear hr
  induction n generalizing s0 b2_0_2_0 b2_0_2_1 b2_0_3_0 b1_0 b2_0_4_0 b2_0_4_1 g1 g2 g3 g4 g5 g6 r with
  | zero => cases hn
  | succ n ih =>
    refine qmx9 (rec := fixN _ n) (fun {s0} {b2_0_2_0} {b2_0_2_1} {b2_0_3_0} {b1_0} {b2_0_4_0} {b2_0_4_1} {g1} {g2} {g3} {g4} {g5} {g6} {r} hr => ?_) (g1 := g1) (g2 := g2) (g3 := g3) (g4 := g4) (g5 := g5) (g6 := g6) hn
    obtain ⟨hz, h1⟩ := ih (g1 := g1) (g2 := g2) (g3 := g3) (g4 := g4) (g5 := g5) (g6 := g6) hr
    exact ⟨hz, qh9 rfl rfl rfl h1⟩
def c27 : ACode := .seq (.reg [] [] [.K 2 (.box (.tmp 0)), .K 3 (.box (.tmp 1)), .K 4 (.alloc [.d (.v (.int .i64 0)), .d (.v (.int .i64 0))] 2), .K 5 (.mv (.const (.bool false)))]) (.seq (.seq (.reg [] [] [.T 10 (.load (some 2) (.tmp 2)), .T 11 (.load none (.tmp 3)), .T 12 (.call 42 [.tmp 10, .tmp 11]), .K 13 (.bin .neq (.tmp 12) (cI 0))]) (.cond (.tmp 13) (some 13) (.seq (.reg [] [] [.T 14 (.build [(0, 1), (1, 1)] [.d (.v (.int .i64 0)), .d (.v (.int .i64 0))] []), ⟨none, .store 2 (.tmp 4) (.tmp 14), none, false, false⟩, .K 5 (.mv (.const (.bool false)))]) (.ret)) (.skip))) (.seq (.reg [] [] [.T 15 (.fa 0 (.tmp 2)), .T 16 (.load none (.tmp 15)), .T 17 (.load none (.tmp 3)), .T 18 (.call 43 [.tmp 16, .tmp 17]), .K 6 (.alloc [.im true []] 1), ⟨none, .store 1 (.tmp 6) (.tmp 18), none, false, false⟩]) (.seq (.reg [] [] [.K 7 (.alloc [.d (.v (.int .i64 0)), .d (.v (.int .i64 0))] 2)]) (.seq (.reg [] [] [.K 8 (.alloc [.d (.v .nilFunc)] 1)]) (.seq (.reg [] [] [.T 19 (.mkF 59 [.tmp 6, .tmp 8, .tmp 2, .tmp 3, .tmp 7]), ⟨none, .store 1 (.tmp 8) (.tmp 19), none, false, false⟩]) (.seq (.reg [] [] [.T 20 (.load none (.tmp 8)), .T 21 (.callV (.tmp 20) [.const (.int .i64 0)]), .N 9 21]) (.seq (.reg [] [] [.T 22 (.load (some 2) (.tmp 7)), .M 23 9, ⟨none, .store 2 (.tmp 4) (.tmp 22), none, false, false⟩, .N 5 23]) (.ret))))))))
theorem is27 : IsF C 27 24 9215 c27 [.cell 4 33, .tmp 5] := ⟨⟨Tryd.f27, _, C_P ▸ Tryd.func27, rfl, rfl, rfl, by kernel_rfl, rfl⟩⟩
theorem qlr9 {a0 : System} {a1 : List Int} {r : Redex × Bool} (hr : qdZ9 a0 a1 = some r) : Res C 27 [.ag (qf9 a0), .rd (a1.map intD)] (.tp [.d (.ag (qp9 r.1)), PB r.2]) := by
  simp only [qdZ9] at hr
  obtain ⟨x1, h1, hr⟩ := bsome hr
  have h1k := fun h => (qjx9 h1).o rfl rfl rfl (h := h) (args := [.ag [.d (.rd (a0.Sig.map qb9)), .d (.rd (a0.Rules.map qd9))], .d (.rd (a1.map intD))]) rfl
  try simp only [go_sem] at h1k
  rcases iteP hr with ⟨h2, hr⟩ | ⟨h2, hr⟩
  obtain ⟨x2, h3, x3, h4, hr⟩ := bs2 hr
  have h3k := (qkb9 h3).k rfl rfl rfl
  try simp only [go_sem] at h3k
  obtain ⟨z4, h4k⟩ := qnb9 (g1 := []) (g2 := []) (g3 := (.row false 0 2 [[PI 0, PI 0]] :: [])) (g4 := []) (g5 := []) (g6 := []) h4
  replace h4k := qh9 rfl rfl rfl h4k
  try simp only [go_sem] at h4k
  obtain rfl := oiA hr
  refine run_V is27 (nbA rfl) ?_
  rotate_left
  obtain rfl := oiA hr
  refine run_V is27 (nbA rfl) ?_
  rotate_left
  all_goals (simp +decide only [go_sem, c27, *])
def qrX9 : ACode := .seq (.reg [] [] [.K 10 (.bin .lss (.tmp 9) (.tmp 8))]) (.seq (.cond (.tmp 10) (some 10) (.skip) (.exit 0)) (.seq (.block 1 132160 (.seq (.reg [] [] [.T 11 (.ix 2 (.tmp 7) (.tmp 9)), .T 12 (.load (some 2) (.tmp 11)), .K 6 (.alloc [.d (.v (.int .i64 0)), .im true []] 2), ⟨none, .store 2 (.tmp 6) (.tmp 12), none, false, false⟩]) (.seq (.reg [] [] [.T 13 (.fa 0 (.tmp 6)), .T 14 (.load none (.tmp 13)), .M 15 1, .T 16 (.bin .sub (cI (-1)) (.tmp 15)), .K 17 (.bin .eql (.tmp 14) (.tmp 16))]) (.cond (.tmp 17) (some 17) (.seq (.reg [] [] [.T 18 (.fa 1 (.tmp 6)), .T 19 (.load none (.tmp 18)), .N 4 19]) (.ret)) (.skip))))) (.reg [] [] [.T 20 (.bin .add (.tmp 9) (cI 1)), .N 9 20])))
def c50 : ACode := .seq (.reg [] [(4, 0)] [.K 4 (.mv (.const (.slice none 0 0)))]) (.seq (.seq (.reg [] [] [.N 7 0, .K 8 (.len (.tmp 7)), .K 9 (.mv (cI 0))]) (.block 0 132160 (.loop qrX9))) (.seq (.reg [] [(4, 0)] [.M 21 1, .T 22 (.lit 1 [(0, .tmp 21)]), .N 4 22]) (.ret)))
theorem is50 : IsF C 50 23 133075 c50 [.tmp 4] := ⟨⟨Tryd.f50, _, C_P ▸ Tryd.func50, rfl, rfl, rfl, by kernel_rfl, rfl⟩⟩
def qff9 (s0 : List Bind) (s1 : Int) (s4 : List Int) (s7 : List Bind) (s8 : Int) : Int → AHeap → St := fun s9 gt => ⟨[(0, .d (.rd (s0.map qc9))), (1, PI s1), (4, .d (.rd (s4.map intD))), (7, .d (.rd (s7.map qc9))), (8, PI s8), (9, PI s9)], gt⟩
def qpw9 (s0 : List Bind) (s1 : Int) (s4 : List Int) (s7 : List Bind) (s8 : Int) : (((List Int)) ⊕ Int) → AExit × St → Prop
  | .inl r, q => XV C [.tmp 4] (.d (.rd (r.map intD))) q
  | .inr s9, q => ∃ g, q = (.exit 0, qff9 s0 s1 s4 s7 s8 s9 g)
theorem qpx9 {s0 : List Bind} {s1 : Int} {s4 : List Int} {s7 : List Bind} {s8 : Int} : Sim C 133075 qrX9 (qdS9 s0 s1 s4 s7 s8) (qff9 s0 s1 s4 s7 s8) (qpw9 s0 s1 s4 s7 s8) := by
  intro s g r hr
  have ⟨s9, hs0⟩ : ∃ y, y = s := ⟨_, rfl⟩
  subst hs0
  have ⟨gt, hg0⟩ : ∃ y, y = g := ⟨_, rfl⟩
  subst hg0
  simp only [qdS9] at hr
  rcases iteP hr with ⟨h1, hr⟩ | ⟨h1, hr⟩
  obtain ⟨x1, h2, hr⟩ := bsome hr
  rcases iteP hr with ⟨h3, hr⟩ | ⟨h3, hr⟩
  obtain rfl := oiA hr
  refine xv_of ?_
  rotate_left
  obtain rfl := oiA hr
  refine ⟨(gt ++ (.row false 0 2 [[PI x1.Var, .d (.rd (x1.T.map intD))]] :: [])), ?_⟩
  rotate_left
  obtain rfl := oiA hr
  refine xe_of ⟨gt, rfl⟩ ?_
  rotate_left
  all_goals (simp +decide only [go_sem, qff9, qrX9, *])
theorem qqB9 {a0 : List Bind} {a1 : Int} {r : (List Int)} (hr : qho9 a0 a1 = some r) : Res C 50 [.rd (a0.map qc9), .v (.int .i64 a1)] (.d (.rd (r.map intD))) := by
  simp only [qho9] at hr
  obtain ⟨x2, h1, hr⟩ := bsome hr
  obtain ⟨q1, h1L, h1X⟩ := qpx9.L (g := []) h1
  rcases x2 with x3 | x4
  try dsimp only at hr
  obtain ⟨st1, rfl, h1R⟩ := h1X
  simp only [qff9, go_sem] at h1L
  obtain rfl := oiA hr
  refine run_V is50 (nbA rfl) ?_
  rotate_left
  try dsimp only at hr
  obtain ⟨z5, rfl⟩ := h1X
  simp only [qff9, go_sem] at h1L
  obtain rfl := oiA hr
  refine run_V is50 (nbA rfl) ?_
  rotate_left
  all_goals (simp +decide only [go_sem, c50, *])
def qrg9 : ACode := .seq (.seq (.reg [] [] [.M 11 5, .M 12 0, .T 13 (.len (.tmp 12)), .K 14 (.bin .lss (.tmp 11) (.tmp 13))]) (.cond (.tmp 14) (some 14) (.skip) (.exit 0))) (.seq (.block 1 33570816 (.seq (.reg [] [] [.M 17 0, .M 18 5, ⟨some (19, false), .ix 2 (.tmp 17) (.tmp 18), none, true, false⟩, ⟨some (20, false), .load (some 2) (.tmp 19), none, true, false⟩, .M 21 1, .M 22 5, ⟨some (23, false), .ix 2 (.tmp 21) (.tmp 22), none, true, false⟩, ⟨some (24, false), .load (some 2) (.tmp 23), none, true, false⟩, .K 25 (.raw ({ dst := some 25, op := Go.Op.binOp Go.BinOp.neq 33 (.tmp 20) (.tmp 24) 33, type := 4, pos := "law.go:50", after := #[{ on := 3, ground := Go.Ground.data }, { on := 7, ground := Go.Ground.data }], guard := none }))]) (.cond (.tmp 25) (some 25) (.seq (.reg [] [] [.K 4 (.mv (.const (.bool false)))]) (.ret)) (.skip)))) (.reg [] [] [.M 15 5, .T 16 (.bin .add (.tmp 15) (cI 1)), .N 5 16]))
def c16 : ACode := .seq (.reg [] [] [.K 4 (.mv (.const (.bool false)))]) (.seq (.seq (.reg [] [] [.M 6 0, .T 7 (.len (.tmp 6)), .M 8 1, .T 9 (.len (.tmp 8)), .K 10 (.bin .neq (.tmp 7) (.tmp 9))]) (.cond (.tmp 10) (some 10) (.seq (.reg [] [] [.K 4 (.mv (.const (.bool false)))]) (.ret)) (.skip))) (.seq (.seq (.reg [] [] [.K 5 (.mv (cI 0))]) (.block 0 33570816 (.loop qrg9))) (.seq (.reg [] [] [.K 4 (.mv (.const (.bool true)))]) (.ret))))
theorem is16 : IsF C 16 26 33571891 c16 [.tmp 4] := ⟨⟨Tryd.f16, _, C_P ▸ Tryd.func16, rfl, rfl, rfl, by kernel_rfl, rfl⟩⟩
def qgf9 (s0 : List Redex) (s1 : List Redex) : Int → Unit → St := fun s5 _ => ⟨[(0, .d (.rd (s0.map qp9))), (1, .d (.rd (s1.map qp9))), (4, PB false), (5, PI s5)], []⟩
def qsp9 (s0 : List Redex) (s1 : List Redex) : (Bool ⊕ Int) → AExit × St → Prop
  | .inl r, q => XV C [.tmp 4] (PB r) q
  | .inr s5, q => ∃ g, q = (.exit 0, qgf9 s0 s1 s5 g)
theorem qsh9 {s0 : List Redex} {s1 : List Redex} : Sim C 33571891 qrg9 (qhT9 s0 s1) (qgf9 s0 s1) (qsp9 s0 s1) := by
  intro s g r hr
  have ⟨s5, hs0⟩ : ∃ y, y = s := ⟨_, rfl⟩
  subst hs0
  simp only [qhT9] at hr
  rcases iteP hr with ⟨h1, hr⟩ | ⟨h1, hr⟩
  obtain ⟨x1, h2, x2, h3, hr⟩ := bs2 hr
  rcases iteB hr with ⟨h4, hr⟩ | ⟨h4, hr⟩
  obtain rfl := oiA hr
  refine ⟨(), ?_⟩
  rotate_left
  obtain rfl := oiA hr
  refine xv_of ?_
  rotate_left
  obtain rfl := oiA hr
  refine xe_of ⟨(), rfl⟩ ?_
  rotate_left
  all_goals (simp +decide only [go_sem, qgf9, qrg9, *])
theorem quC9 {a0 : List Redex} {a1 : List Redex} {r : Bool} (hr : qjv9 a0 a1 = some r) : Res C 16 [.rd (a0.map qp9), .rd (a1.map qp9)] (PB r) := by
  simp only [qjv9] at hr
  rcases iteP hr with ⟨h1, hr⟩ | ⟨h1, hr⟩
  obtain ⟨x3, h2, hr⟩ := bsome hr
  obtain ⟨q2, h2L, h2X⟩ := qsh9.L (g := ()) h2
  rcases x3 with x4 | x5
  try dsimp only at hr
  obtain ⟨st2, rfl, h2R⟩ := h2X
  simp only [qgf9, go_sem] at h2L
  obtain rfl := oiA hr
  refine run_V is16 (nbA rfl) ?_
  rotate_left
  try dsimp only at hr
  obtain ⟨⟨⟩, rfl⟩ := h2X
  simp only [qgf9, go_sem] at h2L
  obtain rfl := oiA hr
  refine run_V is16 (nbA rfl) ?_
  rotate_left
  obtain rfl := oiA hr
  refine run_V is16 (nbA rfl) ?_
  rotate_left
  all_goals (simp +decide only [go_sem, c16, *])
end Ld

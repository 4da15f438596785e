import Derived.Test.YtfjgfcnhklopdaaDoorAbs37
set_option maxHeartbeats 400000
set_option linter.unusedVariables false
set_option linter.unusedSimpArgs false
namespace Go.Abs
open Go
def Res (C : Cfg) (f : FuncId) (ds : List D) (v : PV) : Prop := ∃ p hp, Lim C f (ds.map PV.d) [] = some (p, hp) ∧ rsT hp p = some v
theorem Res.k {C : Cfg} {f : FuncId} {ds : List D} {v : PV} (H : Res C f ds v) (hp : C.prim f = none) (hu : C.use f = true) (hm : C.mode f = 0) (h : AHeap) : callP C (Lim C) f (ds.map PV.d) h = some (v, h) := qko9 hp hu hm H h
theorem Res.o {C : Cfg} {f : FuncId} {ds : List D} {v : PV} (H : Res C f ds v) (hp : C.prim f = none) (hu : C.use f = true) (hm : C.mode f = 0) {h : AHeap} {args : List PV} (ha : mapO (rs h depth) args = some ds) : callP C (Lim C) f args h = some (v, if scalar v = true then h else freezeAll (args.flatMap (reach h depth)) h) := qwg9 hp hu hm H ha
def retV (C : Cfg) (rs : List ResultVar) (q : AExit × St) : Option PV := match q.1 with
  | .normal | .ret => (mapO (resP C.P q.2) rs).bind fun vs => rsT q.2.h (resOf vs)
  | _ => none
def retL (C : Cfg) (rs : List ResultVar) (q : AExit × St) : Option (List PV × AHeap) := match q.1 with
  | .normal | .ret => (mapO (resP C.P q.2) rs).map fun vs => (vs, q.2.h)
  | _ => none
theorem qvF9 {C : Cfg} {rs : List ResultVar} {env : Env} {h : AHeap} : retV C rs (.ret, ⟨env, h⟩) = (mapO (resP C.P ⟨env, h⟩) rs).bind fun vs => rsT h (resOf vs) := rfl
theorem qqU9 {C : Cfg} {rs : List ResultVar} {env : Env} {h : AHeap} : retV C rs (.normal, ⟨env, h⟩) = (mapO (resP C.P ⟨env, h⟩) rs).bind fun vs => rsT h (resOf vs) := rfl
theorem qvV9 {C : Cfg} {rs : List ResultVar} {env : Env} {h : AHeap} : retL C rs (.ret, ⟨env, h⟩) = (mapO (resP C.P ⟨env, h⟩) rs).map fun vs => (vs, h) := rfl
theorem qqJ9 {C : Cfg} {rs : List ResultVar} {env : Env} {h : AHeap} : retL C rs (.normal, ⟨env, h⟩) = (mapO (resP C.P ⟨env, h⟩) rs).map fun vs => (vs, h) := rfl
theorem qwj9 {P : Program} {s : St} {t : Nat} : resP P s (.tmp t) = some (s.env.get t) := rfl
attribute [go_sem] qvF9 qqU9 qvV9 qqJ9 qwj9 Option.bind_none Option.map_none
theorem run_V {C : Cfg} {f : FuncId} {nt keep : Nat} {ac : ACode} {rs : List ResultVar} (hf : IsF C f nt keep ac rs) {ds : List D} (hn : ds.length ≤ nt) {v : PV}
    (hs : (semA C (Lim C) keep ac ⟨qM9 keep 0 (ds.map PV.d), []⟩).bind (retV C rs) = some v) : Res C f ds v := by
  obtain ⟨q, h1, h2⟩ := Option.bind_eq_some_iff.1 hs
  obtain ⟨e, env, h'⟩ := q
  have he : e = .normal ∨ e = .ret := by cases e <;> simp [retV] at h2 ⊢
  have hv : RetOK C rs ⟨env, h'⟩ v := by
    rcases he with rfl | rfl <;> exact Option.bind_eq_some_iff.1 h2
  exact qua9 hf (by rw [List.length_map]; exact hn) h1 he hv
theorem run_L {C : Cfg} {f : FuncId} {nt keep : Nat} {ac : ACode} {rs : List ResultVar} (hf : IsF C f nt keep ac rs) {args : List PV} (hn : args.length ≤ nt) {h h' : AHeap} {vs : List PV}
    (hs : (semA C (Lim C) keep ac ⟨qM9 keep 0 args, h⟩).bind (retL C rs) = some (vs, h')) : Lim C f args h = some (resOf vs, h') := by
  obtain ⟨q, h1, h2⟩ := Option.bind_eq_some_iff.1 hs
  obtain ⟨e, env, h''⟩ := q
  have he : e = .normal ∨ e = .ret := by cases e <;> simp [retL] at h2 ⊢
  have hv : mapO (resP C.P ⟨env, h'⟩) rs = some vs ∧ h'' = h' := by
    rcases he with rfl | rfl <;> (obtain ⟨a, ha, hb⟩ := Option.map_eq_some_iff.1 h2; cases hb; exact ⟨ha, rfl⟩)
  obtain ⟨hv, rfl⟩ := hv
  exact Lim_A hf hn h1 he hv
def Sim (C : Cfg) (keep : Nat) (b : ACode) {σ ρ G : Type} (step : σ → Option (σ ⊕ ρ)) (S : σ → G → St) (X : ρ → AExit × St → Prop) : Prop :=
  ∀ s g r, step s = some r → Sum.elim (fun s' => ∃ g', semA C (Lim C) keep b (S s g) = some (.normal, S s' g')) (fun x => ∃ q, semA C (Lim C) keep b (S s g) = some q ∧ q.1 ≠ .normal ∧ X x q) r
theorem Sim.L {C : Cfg} {keep : Nat} {b : ACode} {σ ρ G : Type} {step : σ → Option (σ ⊕ ρ)} {S : σ → G → St} {X : ρ → AExit × St → Prop} (H : Sim C keep b step S X) {s : σ} {g : G} {x : ρ} (hw : wh step s = some x) : ∃ q, qbv9 (semA C (Lim C) keep b) (S s g) = some q ∧ X x q := qzx9 H hw
def SimI (C : Cfg) (keep : Nat) (b : ACode) {σ ρ G : Type} (I : σ → Prop) (step : σ → Option (σ ⊕ ρ)) (S : σ → G → St) (X : ρ → AExit × St → Prop) : Prop :=
  ∀ s g r, I s → step s = some r → Sum.elim (fun s' => (∃ g', semA C (Lim C) keep b (S s g) = some (.normal, S s' g')) ∧ I s') (fun x => ∃ q, semA C (Lim C) keep b (S s g) = some q ∧ q.1 ≠ .normal ∧ X x q) r
theorem SimI.L {C : Cfg} {keep : Nat} {b : ACode} {σ ρ G : Type} {I : σ → Prop} {step : σ → Option (σ ⊕ ρ)} {S : σ → G → St} {X : ρ → AExit × St → Prop} (H : SimI C keep b I step S X) {s : σ} {g : G} {x : ρ} (hw : wh step s = some x) (hI : I s) : ∃ q, qbv9 (semA C (Lim C) keep b) (S s g) = some q ∧ X x q := qwR9 H hI hw
def XV (C : Cfg) (rs : List ResultVar) (v : PV) (q : AExit × St) : Prop := ∃ st, q = (.ret, st) ∧ retV C rs (.ret, st) = some v
def XL (C : Cfg) (rs : List ResultVar) (Y : List PV → AHeap → Prop) (q : AExit × St) : Prop := ∃ st vs h, q = (.ret, st) ∧ retL C rs (.ret, st) = some (vs, h) ∧ Y vs h
def onRet {α : Type} (f : AExit × St → Option α) : AExit × St → Option α
  | (.ret, s) => f (.ret, s)
  | _ => none
theorem qtR9 {α : Type} {f : AExit × St → Option α} {s : St} : onRet f (.ret, s) = f (.ret, s) := rfl
attribute [go_sem] qtR9
theorem qvu9 {h : AHeap} {id ver off len : Nat} : rs h 39 (.ref id ver off len) = match rowAt h id ver with
    | some p => (mapO (mapO (rs h 38)) ((p.2.2.drop off).take len)).map .rd
    | none => none := by
  show (match rowAt h id ver with | some (_, _, es) => (mapO (mapO (rs h 38)) ((es.drop off).take len)).map D.rd | none => none) = _
  cases rowAt h id ver <;> rfl
theorem qkL9 {α : Type} {f : α → List D} {l : List α} {h : AHeap} : mapO (mapO (rs h 38)) (rowP f l) = some (l.map f) := qjN9 (n := 37)
theorem qqC9 {h : AHeap} {id ver off len : Nat} : reach h 39 (.ref id ver off len) = id :: (match rowAt h id ver with
      | some p => p.2.2.flatMap fun cs => cs.flatMap (reach h 38)
      | none => []) := by
  show (id :: (match rowAt h id ver with | some (_, _, es) => es.flatMap fun cs => cs.flatMap (reach h 38) | none => [])) = _
  cases rowAt h id ver <;> rfl
theorem qpp9 {α : Type} {f : α → List D} {l : List α} {h : AHeap} : (rowP f l).flatMap (fun cs => cs.flatMap (reach h 38)) = [] := qlt9 (n := 37)
attribute [go_sem] qvu9 qkL9 qqC9 qpp9
theorem qwK9 : setl (.im true []) = .d (.rd []) := rfl
theorem qzk9 {d : D} : setl (.d d) = .d d := rfl
theorem qwH9 {a b c d : Nat} : setl (.ref a b c d) = .ref a b c d := rfl
theorem qwk9 {a b c d : Nat} : setl (.ptr a b c d) = .ptr a b c d := rfl
attribute [go_sem] qwK9 qzk9 qwH9 qwk9
theorem qwL9 {C : Cfg} {L : Oracle} {get : Nat → PV} {h : AHeap} {d : Option Nat} {t ty : TypeId} {x : Operand} {p : String} {af} {g} : aop C L get h { dst := d, op := .unOp .neg t x, type := ty, pos := p, after := af, guard := g } = opUn C.P h .neg (evO get x) := rfl
theorem qyL9 {P : Program} {h : AHeap} {a : Int} : opUn P h .neg (.d (.v (.int .i64 a))) = some (.d (.v (.int .i64 (w64 (0 - a)))), h) := rfl
attribute [go_sem] qwL9 qyL9
theorem quC9 {l d : Nat} {s : St} : gmap l d (some (.goto l, s)) = some (.normal, ⟨Env.del d s.env, s.h⟩) := if_pos rfl
theorem qwC9 {l d : Nat} {s : St} : gmap l d (some (.ret, s)) = some (.ret, s) := rfl
theorem quh9 {l d j : Nat} {s : St} : gmap l d (some (.exit j, s)) = some (.exit j, s) := rfl
attribute [go_sem] quC9 qwC9 quh9
theorem qlZ9 {α : Type} {f : AExit × St → Option α} {q : AExit × St} {a : α} (h : onRet f q = some a) : ∃ st, q = (.ret, st) ∧ f (.ret, st) = some a := by
  obtain ⟨e, st⟩ := q
  cases e <;> first | cases h | exact ⟨st, rfl, h⟩
theorem xv_of {C : Cfg} {rs : List ResultVar} {v : PV} {o : Option (AExit × St)} (h : o.bind (onRet (retV C rs)) = some v) : ∃ q, o = some q ∧ q.1 ≠ .normal ∧ XV C rs v q := by
  obtain ⟨q, h1, h2⟩ := Option.bind_eq_some_iff.1 h
  obtain ⟨st, rfl, h3⟩ := qlZ9 h2
  exact ⟨_, h1, nofun, st, rfl, h3⟩
theorem xl_of {C : Cfg} {rs : List ResultVar} {Y : List PV → AHeap → Prop} {vs : List PV} {hp : AHeap} {o : Option (AExit × St)} (hY : Y vs hp) (h : o.bind (onRet (retL C rs)) = some (vs, hp)) : ∃ q, o = some q ∧ q.1 ≠ .normal ∧ XL C rs Y q := by
  obtain ⟨q, h1, h2⟩ := Option.bind_eq_some_iff.1 h
  obtain ⟨st, rfl, h3⟩ := qlZ9 h2
  exact ⟨_, h1, nofun, st, vs, hp, rfl, h3, hY⟩
theorem xe_of {o : Option (AExit × St)} {k : Nat} {st : St} {X : AExit × St → Prop} (hX : X (.exit k, st)) (h : o = some (.exit k, st)) : ∃ q, o = some q ∧ q.1 ≠ .normal ∧ X q := ⟨_, h, nofun, hX⟩
theorem qyO9 {α : Type} {l : List α} : 1 + l.length = l.length + 1 := Nat.add_comm _ _
theorem qzg9 {α : Type} {l : List α} {x : Nat} : 1 + (l.length + x) = l.length + (1 + x) := Nat.add_left_comm _ _ _
theorem qzp9 {α : Type} {l : List α} : 2 + l.length = l.length + 2 := Nat.add_comm _ _
theorem qzq9 {α : Type} {l : List α} {x : Nat} : 2 + (l.length + x) = l.length + (2 + x) := Nat.add_left_comm _ _ _
theorem qyT9 {α : Type} {l : List α} : 3 + l.length = l.length + 3 := Nat.add_comm _ _
theorem qzA9 {α : Type} {l : List α} {x : Nat} : 3 + (l.length + x) = l.length + (3 + x) := Nat.add_left_comm _ _ _
theorem qzD9 {α : Type} {l : List α} : 4 + l.length = l.length + 4 := Nat.add_comm _ _
theorem qyV9 {α : Type} {l : List α} {x : Nat} : 4 + (l.length + x) = l.length + (4 + x) := Nat.add_left_comm _ _ _
theorem qzj9 {α : Type} {l : List α} : 5 + l.length = l.length + 5 := Nat.add_comm _ _
theorem qyM9 {α : Type} {l : List α} {x : Nat} : 5 + (l.length + x) = l.length + (5 + x) := Nat.add_left_comm _ _ _
theorem qyr9 {α : Type} {l : List α} : 6 + l.length = l.length + 6 := Nat.add_comm _ _
theorem qzm9 {α : Type} {l : List α} {x : Nat} : 6 + (l.length + x) = l.length + (6 + x) := Nat.add_left_comm _ _ _
theorem qzw9 {α : Type} {l : List α} : 7 + l.length = l.length + 7 := Nat.add_comm _ _
theorem qyw9 {α : Type} {l : List α} {x : Nat} : 7 + (l.length + x) = l.length + (7 + x) := Nat.add_left_comm _ _ _
theorem qyB9 {α : Type} {l : List α} : 8 + l.length = l.length + 8 := Nat.add_comm _ _
theorem qzd9 {α : Type} {l : List α} {x : Nat} : 8 + (l.length + x) = l.length + (8 + x) := Nat.add_left_comm _ _ _
attribute [go_sem] qyO9 qzg9 qzp9 qzq9 qyT9 qzA9 qzD9 qyV9 qzj9 qyM9 qyr9 qzm9 qzw9 qyw9 qyB9 qzd9
def rcA (s : St) (a n : Nat) : Option PV := match qbH9 s.h (s.env.get a) with
  | some cs => if n ≤ cs.length then some (.ag (cs.take n)) else none
  | none => none
def rcB (s : St) (a : Nat) : Option PV := match qbH9 s.h (s.env.get a) with
  | some cs => cs[0]?
  | none => none
theorem qpG9 {P : Program} {s : St} {a t n : Nat} (h1 : (P.underlying t).map qfJ9 = some true) (h2 : (P.info? t).map (·.size) = some n) : resP P s (.cell a t) = rcA s a n := by
  unfold rcA
  cases h3 : qbH9 s.h (s.env.get a) with
  | none => simp only [resP, loadP, h3, Option.bind_none]
  | some cs =>
    by_cases h4 : n ≤ cs.length
    · simp only [h4, if_true]; exact quz9 h1 h2 h3 h4
    · simp only [h4, if_false, resP, loadP, h3, Option.bind_some, partP]
      cases hu : P.underlying t with
      | none => rfl
      | some d =>
        cases hi : P.info? t with
        | none => rfl
        | some i =>
          rw [hu] at h1; rw [hi] at h2
          simp only [Option.map_some, Option.some.injEq] at h1 h2
          simp only [h1, h2, if_true, Nat.zero_add, h4, if_false]
attribute [go_sem] rcA rcB
theorem bs2 {α β γ : Type} {o : Option α} {f : α → Option β} {g : α → β → Option γ} {r : γ} (h : (o.bind fun a => (f a).bind (g a)) = some r) : ∃ a, o = some a ∧ ∃ b, f a = some b ∧ g a b = some r := by
  obtain ⟨a, h1, h2⟩ := bsome h
  exact ⟨a, h1, bsome h2⟩
theorem bs3 {α β γ δ : Type} {o : Option α} {f : α → Option β} {g : α → β → Option γ} {k : α → β → γ → Option δ} {r : δ} (h : (o.bind fun a => (f a).bind fun b => (g a b).bind (k a b)) = some r) : ∃ a, o = some a ∧ ∃ b, f a = some b ∧ ∃ c, g a b = some c ∧ k a b c = some r := by
  obtain ⟨a, h1, b, h2, h3⟩ := bs2 h
  exact ⟨a, h1, b, h2, bsome h3⟩
theorem bs4 {α β γ δ ε : Type} {o : Option α} {f : α → Option β} {g : α → β → Option γ} {k : α → β → γ → Option δ} {l : α → β → γ → δ → Option ε} {r : ε} (h : (o.bind fun a => (f a).bind fun b => (g a b).bind fun c => (k a b c).bind (l a b c)) = some r) : ∃ a, o = some a ∧ ∃ b, f a = some b ∧ ∃ c, g a b = some c ∧ ∃ d, k a b c = some d ∧ l a b c d = some r := by
  obtain ⟨a, h1, b, h2, c, h3, h4⟩ := bs3 h
  exact ⟨a, h1, b, h2, c, h3, bsome h4⟩
end Go.Abs

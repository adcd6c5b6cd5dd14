/- A verified executor for closed Go calls, part of it: its lemmas carry no condition. -/
import Derived.Test.YtacchpkmjgdebaaGreatExL
set_option linter.unusedVariables false
set_option linter.unusedSimpArgs false
namespace Ex
open Go
variable {E : Env} {ρ ρ' : Rho} {H H' : Heap} {w w' : World}

/-! things to do -/
inductive IR (ρ : Rho) : List AItem → List Item → Prop
  | nil : IR ρ [] []
  | code (c : Code) {k : List AItem} {k' : List Item} (t : IR ρ k k') : IR ρ (.code c :: k) (.code c :: k')
  | inBlock (id : Nat) {k : List AItem} {k' : List Item} (t : IR ρ k k') : IR ρ (.inBlock id :: k) (.inBlock id :: k')
  | inLoop (c : Code) {k : List AItem} {k' : List Item} (t : IR ρ k k') : IR ρ (.inLoop c :: k) (.inLoop c :: k')
  | inScope (c : Code) {k : List AItem} {k' : List Item} (t : IR ρ k k') : IR ρ (.inScope c :: k) (.inScope c :: k')
  | beginRound {k : List AItem} {k' : List Item} (t : IR ρ k k') : IR ρ (.beginRound :: k) (.beginRound :: k')
  | endRange {b l : Nat} (h : ρ b = some ⟨l, 0, 0, 0⟩) {k : List AItem} {k' : List Item} (t : IR ρ k k') : IR ρ (.endRange b :: k) (.endRangeFunc l :: k')
theorem IR.mono (hle : ρ.le ρ') {k : List AItem} {k' : List Item} (h : IR ρ k k') : IR ρ' k k' := by
  induction h with
  | nil => exact .nil
  | code c _ ih => exact .code c ih
  | inBlock id _ ih => exact .inBlock id ih
  | inLoop c _ ih => exact .inLoop c ih
  | inScope c _ ih => exact .inScope c ih
  | beginRound _ ih => exact .beginRound ih
  | endRange h _ ih => exact .endRange (hle _ _ h) ih

inductive DR (ρ : Rho) : List Nat → List Deferred → Prop
  | nil : DR ρ [] []
  | cons {b r : Nat} (h : ρ b = some ⟨r, 0, 0, 0⟩) {d : List Nat} {d' : List Deferred} (t : DR ρ d d') : DR ρ (b :: d) ({ target := .collected r, args := #[] } :: d')
theorem DR.mono (hle : ρ.le ρ') {d : List Nat} {d' : List Deferred} (h : DR ρ d d') : DR ρ' d d' := by
  induction h with
  | nil => exact .nil
  | cons h _ ih => exact .cons (hle _ _ h) ih

structure FrR (ρ : Rho) (c : Cx) (d : List Nat) (todo : List AItem) (t : Tr Value) (fr : Frame) : Prop where
  fn : fr.fn = c.fn
  mode : fr.mode = .run
  kind : fr.kind = .normal
  tmps : TR ρ fr.tmps t c.nt
  todo : IR ρ todo fr.todo
  defers : DR ρ d fr.defers
  round : match c.round with
    | none => fr.roundOf = none
    | some b => ∃ l, ρ b = some ⟨l, 0, 0, 0⟩ ∧ fr.roundOf = some l

def Ends (P : Program) (fr : Frame) (cs : List Frame) (w : World) (v : Value) (w' : World) : Prop :=
  (fr.roundOf = none → ∃ fr', Steps P (lone fr cs w) (lone fr' cs w') ∧ fr'.fn = fr.fn ∧ fr'.leaving P w' (.returned v)) ∧
  (fr.roundOf ≠ none → ∀ c cs', cs = c :: cs' → Steps P (lone fr cs w) (lone (c.finish v) cs' w'))
theorem Ends.finish {P : Program} {fr c : Frame} {cs : List Frame} {v : Value} (h : Ends P fr (c :: cs) w v w') : Steps P (lone fr (c :: cs) w) (lone (c.finish v) cs w') := by
  by_cases hr : fr.roundOf = none
  · obtain ⟨fr', h1, _, h2⟩ := h.1 hr
    exact Steps.trans h1 (.one (step_leave_returned h2))
  · exact h.2 hr c cs rfl

def SoundEx (E : Env) (ex : Ex) : Prop :=
  ∀ c d todo t H v' H', ex c d todo t H = .ok v' H' → ∀ ρ fr w cs, FrR ρ c d todo t fr → HR E.ng ρ H w → ∃ ρ' v w', Ends E.P fr cs w v w' ∧ VR ρ' v v' ∧ HR E.ng ρ' H' w' ∧ Ext ρ H w ρ' H' w'

/-- behind a step that applies an operation the frame comes to its value -/
def App (P : Program) (fr : Frame) (cs : List Frame) (s : Sem Next) (w : World) (v : Value) (w' : World) : Prop :=
  ∃ fr1 cs1 w1, (stepG.apply P true fr cs none s w).bare = .go { frame := fr1, callers := cs1, status := .running, dying := none } w1 ∧ Steps P (lone fr1 cs1 w1) (lone (fr.finish v) cs w')

def OpGo (E : Env) (ρ : Rho) (H : Heap) (w : World) (fr : Frame) (cs : List Frame) (s : Sem Next) (v' : Value) (H' : Heap) : Prop :=
  ∃ ρ' v w', App E.P fr cs s w v w' ∧ VR ρ' v v' ∧ HR E.ng ρ' H' w' ∧ Ext ρ H w ρ' H' w'

theorem App.value {P : Program} {fr : Frame} {cs : List Frame} {s : Sem Next} {v : Value} (h : s.run P w = .ok (.value v) w') : App P fr cs s w v w' :=
  ⟨fr.finish v, cs, w', by simp [stepG.apply, Sem.runT_eq, h, GStep.bare_after], Steps.refl _ _⟩
theorem App.skip {P : Program} {fr : Frame} {cs : List Frame} {s : Sem Next} (h : s.run P w = .ok .skip w') : App P fr cs s w undef w' :=
  ⟨fr.finish undef, cs, w', by simp [stepG.apply, Sem.runT_eq, h, GStep.bare_after], Steps.refl _ _⟩
theorem OpRes.go {s : Sem Next} {v' : Value} (h : OpRes E ρ H w s v' H') (fr : Frame) (cs : List Frame) : OpGo E ρ H w fr cs s v' H' := by
  obtain ⟨ρ', v, w', h1 | ⟨h1, rfl⟩, h2⟩ := h
  · exact ⟨ρ', v, w', .value h1, h2⟩
  · exact ⟨ρ', undef, w', .skip h1, h2⟩

/-- not behind a wrapped call -/
def Plain (fr : Frame) : Prop := ∀ d r s k, fr.todo ≠ .call d true r s :: k

theorem App.enter {P : Program} {fr : Frame} {cs : List Frame} {s : Sem Next} {f : FuncId} {args : Array Value} {w1 : World} {v : Value} (hp : Plain fr) (h : s.run P w = .ok (.enter f args) w1)
    (hs : Steps P (lone (Frame.enter P f args .normal) (fr :: cs) w1) (lone (fr.finish v) cs w')) : App P fr cs s w v w' := by
  refine ⟨Frame.enter P f args .normal, fr :: cs, w1, ?_, hs⟩
  simp only [stepG.apply, Sem.runT_eq, h, GStep.bare_after, if_true]
  simp only [GStep.bare]
  split
  · rename_i heq; exact absurd heq (hp _ _ _ _)
  · rfl
theorem App.round {P : Program} {fr : Frame} {cs : List Frame} {s : Sem Next} {l : Nat} {f : FuncId} {tmps : Array Value} {as bd : Code} {w1 : World} {v : Value} (h : s.run P w = .ok (.round l f tmps as bd) w1)
    (hs : Steps P (lone (Frame.round l f tmps as bd .normal) (fr :: cs) w1) (lone (fr.finish v) cs w')) : App P fr cs s w v w' :=
  ⟨Frame.round l f tmps as bd .normal, fr :: cs, w1, by simp [stepG.apply, Sem.runT_eq, h, GStep.bare_after], hs⟩

/-- what the executor takes for granted of the program -/
structure EnvGood (E : Env) : Prop extends EnvOk E where
  nog : ∀ f fn, E.ft.get none f = some fn → (fn.name == "runtime.NumGoroutine") = false
  cmp : ∀ f, E.ext f = .cmp → ∀ (a b : Value) (w w' : World) v, (Extern.BytealgCompare.compare #[a, b]).run E.P w = .ok v w' → (callFunc f #[a, b]).run E.P w = .ok (.value v) w'
  add : ∀ f, E.ext f = .add → ∀ (a b : Value) (w w' : World) v, (Extern.Atomic.update (Op.intArith .add) .i64 true #[a, b]).run E.P w = .ok v w' → (callFunc f #[a, b]).run E.P w = .ok (.value v) w'
  ovr : ∀ f g, E.ovr f = some g → ∀ (args args' : List Value) ρ H w v' H', HR E.ng ρ H w → LR ρ args args' → g H args' = .ok v' H' →
    (callFunc f ⟨args⟩).run E.P w = .ok (.enter f ⟨args⟩) w ∧ ∀ cs, ∃ ρ' v w' fr, Steps E.P (lone (Frame.enter E.P f ⟨args⟩ .normal) cs w) (lone fr cs w') ∧ fr.fn = f ∧ fr.leaving E.P w' (.returned v) ∧ VR ρ' v v' ∧ HR E.ng ρ' H' w' ∧ Ext ρ H w ρ' H' w'

theorem TR.put {a : Array Value} {t : Tr Value} {nt d : Nat} {v v' : Value} (h : TR ρ a t nt) (hd : d < nt) (hv : VR ρ v v') : TR ρ (a.setIfInBounds d v) (t.set d v') nt := by
  refine ⟨by simp [h.size], fun j => ?_, fun j hj => by rw [Tr.has_set]; exact h.has j hj⟩
  by_cases e : j = d
  · subst e
    rw [Tr.get_set_same _ _ _ _ (h.has j hd)]
    have : j < a.size := by rw [h.size]; exact hd
    simp [this]
    exact hv
  · rw [Tr.get_set_other _ _ _ _ _ e]
    have := h.rel j
    simp only [Array.getD_eq_getD_getElem?, Array.getElem?_setIfInBounds_ne (Ne.symm e)] at this ⊢
    exact this

theorem setArgs_get (d : Value) : ∀ (l : List Value) (t : Tr Value) (i j : Nat), (∀ k, i ≤ k → k < i + l.length → t.has k = true) →
    (setArgs t i l).get d j = if i ≤ j ∧ j < i + l.length then (l[j - i]?).getD d else t.get d j
  | [], t, i, j, _ => by simp only [setArgs, List.length_nil]; rw [if_neg (by omega)]
  | v :: l, t, i, j, h => by
    simp only [List.length_cons] at h
    simp only [setArgs]
    rw [setArgs_get d l _ _ _ (fun k h1 h2 => by rw [Tr.has_set]; exact h k (by omega) (by omega))]
    simp only [List.length_cons]
    by_cases h1 : i + 1 ≤ j ∧ j < i + 1 + l.length
    · rw [if_pos h1, if_pos (by omega)]
      have : j - i = (j - (i + 1)) + 1 := by omega
      rw [this, List.getElem?_cons_succ]
    · rw [if_neg h1]
      by_cases h2 : j = i
      · subst h2
        rw [if_pos (by omega), Tr.get_set_same _ _ _ _ (h j (Nat.le_refl _) (by omega))]
        simp
      · rw [if_neg (by omega), Tr.get_set_other _ _ _ _ _ h2]
theorem setArgs_has : ∀ (l : List Value) (t : Tr Value) (i j : Nat), (setArgs t i l).has j = t.has j
  | [], _, _, _ => rfl
  | v :: l, t, i, j => by simp only [setArgs]; rw [setArgs_has l, Tr.has_set]

theorem enter_TR {args args' : List Value} {nt : Nat} (h : args.length ≤ nt) (hl : LR ρ args args') :
    TR ρ ((⟨args⟩ : Array Value) ++ Array.replicate (nt - args.length) undef) (setArgs (Tr.full Undef (depthOf nt)) 0 args') nt := by
  have hfull : ∀ j, j < nt → (Tr.full Undef (depthOf nt)).has j = true := fun j hj => by
    refine Tr.has_full _ _ _ ?_
    have := Nat.lt_log2_self (n := nt)
    unfold depthOf
    have e : 2 ^ (nt.log2 + 2) = 2 * 2 ^ (nt.log2 + 1) := by rw [Nat.pow_succ 2 (nt.log2 + 1), Nat.mul_comm]
    rw [e]; omega
  refine ⟨by simp; omega, fun j => ?_, fun j hj => by rw [setArgs_has]; exact hfull j hj⟩
  rw [setArgs_get _ _ _ _ _ (fun k _ hk => hfull k (by rw [← hl.1] at hk; omega)), Tr.get_full]
  by_cases hj : j < args.length
  · rw [if_pos (by rw [← hl.1]; omega)]
    obtain ⟨v, hv⟩ : ∃ v, args[j]? = some v := ⟨_, List.getElem?_eq_getElem hj⟩
    obtain ⟨v', hv'⟩ : ∃ v', args'[j]? = some v' := ⟨_, List.getElem?_eq_getElem (by rw [← hl.1]; exact hj)⟩
    have := hl.2 j v v' hv hv'
    have e1 : ((⟨args⟩ : Array Value) ++ Array.replicate (nt - args.length) undef).getD j undef = v := by
      rw [Array.getD_eq_getD_getElem?, Array.getElem?_append_left (by simpa using hj)]
      simp [hv]
    rw [e1, Nat.sub_zero, hv']
    exact this
  · rw [if_neg (by rw [← hl.1]; omega)]
    have e1 : ((⟨args⟩ : Array Value) ++ Array.replicate (nt - args.length) undef).getD j undef = undef := by
      rw [Array.getD_eq_getD_getElem?, Array.getElem?_append_right (by simp; omega)]
      by_cases h2 : j - args.length < nt - args.length
      · simp [Array.getElem?_replicate, h2]
      · simp [Array.getElem?_replicate, h2]
    rw [e1]; exact .undef

theorem setParams_rel {nt : Nat} : ∀ {ps : List Tmp} {args args' : List Value} {a : Array Value} {t t' : Tr Value}, TR ρ a t nt → LR ρ args args' → setParams nt ps args' t = some t' →
    args.length = ps.length ∧ TR ρ ((ps.zip args).foldl (fun tmps (x : Tmp × Value) => tmps.setIfInBounds x.1 x.2) a) t' nt
  | [], args, args', a, t, t', h, hl, hs => by
    cases args' with
    | nil => rw [hl.nil_inv]; cases hs; exact ⟨rfl, h⟩
    | cons _ _ => cases hs
  | p :: ps, args, args', a, t, t', h, hl, hs => by
    cases args' with
    | nil => cases hs
    | cons v' l' =>
      obtain ⟨v, l, rfl, hv, ht⟩ := hl.cons_inv
      simp only [setParams] at hs
      cases hb : Nat.blt p nt with
      | false => rw [hb] at hs; cases hs
      | true =>
        rw [hb] at hs
        obtain ⟨h1, h2⟩ := setParams_rel (h.put (by simpa [Nat.blt_eq] using hb) hv) ht hs
        exact ⟨by simp [h1], h2⟩
end Ex

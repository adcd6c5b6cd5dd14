/- A verified executor for closed Go calls, part of it: its lemmas carry no condition. -/
import Derived.Test.YtacchpkmjgdebaaGreatExQ
set_option linter.unusedVariables false
set_option linter.unusedSimpArgs false
namespace Ex
open Go
variable {E : Env} {ρ ρ' : Rho} {H H' : Heap} {w w' : World} {ex : Ex}

theorem opA_no_defer {t : Tr Value} {o : Oper} {v' : Value} (hc : opA E ex H t o = .ok v' H') : ∀ c, o.op ≠ .defer c := by
  intro c e
  have : opA E ex H t o = .bad := by unfold opA; rw [e]; rfl
  rw [this] at hc; cases hc

theorem wanted_eq {ops : Array Oper} {a : Array Value} {t : Tr Value} {nt : Nat} (h : TR ρ a t nt) (o : Oper) : Region.wanted o (yielded ops a) = wantedA ops t o.guard := by
  unfold Region.wanted
  cases hg : o.guard with
  | none => rfl
  | some x =>
    obtain ⟨j, b⟩ := x
    show (yielded ops a j == some b) = wantedAt t (guardOf ops j) b
    unfold yielded guardOf
    cases hj : ops[j]? with
    | none => simp [wantedAt]
    | some p =>
      simp only [Option.bind_some]
      cases hd : p.dst with
      | none => simp [wantedAt]
      | some d =>
        simp only [Option.bind_some, wantedAt]
        have hr := h.rel d
        rw [Array.getD_eq_getD_getElem?] at hr
        cases hv : a[d]? with
        | none =>
          rw [hv] at hr
          simp only [Option.getD_none] at hr
          generalize t.get Undef d = y at hr
          cases hr
          rfl
        | some v =>
          rw [hv] at hr
          simp only [Option.getD_some] at hr
          generalize t.get Undef d = y at hr
          cases hr <;> first
            | rfl
            | (rename_i c; cases c <;> cases b <;> rfl)

theorem step_oper {P : Program} {fr : Frame} {cs : List Frame} {ops : Array Oper} {i : Nat} {rest : List Nat} {k : List Item} {o : Oper} (hm : fr.mode = .run) (ht : fr.todo = .inRegion ops (i :: rest) :: k) (ho : ops[i]? = some o)
    (hw : Region.wanted o (yielded ops fr.tmps) = true) (hd : ∀ c, o.op ≠ .defer c) :
    stepG P true { frame := fr, callers := cs, status := .running, dying := none } w = stepG.apply P true fr cs none (execOp fr.eval o) w := by
  have hop : fr.oper? = some o := by simp [Frame.oper?, ht, ho]
  have h1 : stepG P true { frame := fr, callers := cs, status := .running, dying := none } w = stepG.oper P true fr cs none w := by
    simp [stepG, stepG.exec, hm, ht, ho, hw]
  rw [h1]
  unfold stepG.oper
  rw [hop]
  simp only
  cases hr : fr.roundOf with
  | none => rfl
  | some l => cases hop2 : o.op <;> first | rfl | exact absurd hop2 (hd _)

theorem step_skipped {P : Program} {fr : Frame} {cs : List Frame} {ops : Array Oper} {i : Nat} {rest : List Nat} {k : List Item} {o : Oper} (hm : fr.mode = .run) (ht : fr.todo = .inRegion ops (i :: rest) :: k) (ho : ops[i]? = some o)
    (hw : Region.wanted o (yielded ops fr.tmps) = false) : Go.step P (lone fr cs w) = .next (lone (fr.finish undef) cs w) :=
  step_lone_go (by simp [stepG, stepG.exec, hm, ht, ho, hw])

theorem App.steps {P : Program} {fr : Frame} {cs : List Frame} {s : Sem Next} {v : Value} (h : App P fr cs s w v w') (hs : stepG P true { frame := fr, callers := cs, status := .running, dying := none } w = stepG.apply P true fr cs none s w) :
    Steps P (lone fr cs w) (lone (fr.finish v) cs w') := by
  obtain ⟨fr1, cs1, w1, h1, h2⟩ := h
  exact Steps.head (step_lone_go (by rw [hs]; exact h1)) h2

def putA (a : Array Value) (dst : Option Tmp) (v : Value) : Array Value := match dst with | some d => a.setIfInBounds d v | none => a
theorem finish_region {fr : Frame} {ops : Array Oper} {i : Nat} {rest : List Nat} {k : List Item} {o : Oper} (ht : fr.todo = .inRegion ops (i :: rest) :: k) (ho : ops[i]? = some o) (v : Value) :
    fr.finish v = { fr with tmps := putA fr.tmps o.dst v, todo := .inRegion ops rest :: k } := by
  simp only [Frame.finish, ht, ho, Option.bind_some]
  cases o.dst <;> rfl

theorem put_TR {a : Array Value} {t : Tr Value} {nt : Nat} {dst : Option Tmp} {v v' : Value} (h : TR ρ a t nt) (hd : okDst nt dst = true) (hv : VR ρ v v') : TR ρ (putA a dst v) (putTmp t dst v') nt := by
  cases dst with
  | none => exact h
  | some d => exact h.put (by simpa [okDst, Nat.blt_eq] using hd) hv

theorem eval_rel {fr : Frame} {t : Tr Value} {nt ng : Nat} (hg : ∀ g, g < ng → ∃ z, ρ g = some ⟨g, 0, z, 0⟩) (h : TR ρ fr.tmps t nt) {x : Operand} (hx : okX ng x = true) : VR ρ (fr.eval x) (evA t x) := by
  cases x with
  | tmp i => exact h.rel i
  | const v => exact VR.of_free ρ v hx
  | global g =>
    obtain ⟨z, hz⟩ := hg g (by simpa [okX, Nat.blt_eq] using hx)
    exact .ptr (o := 0) (p := ⟨g, 0, z, 0⟩) hz
  | func f => exact .func [] [] [] [] (.func f) rfl (by simp) rfl (by simp)
theorem okXs_mem {ng : Nat} : ∀ {l : List Operand}, okXs ng l = true → ∀ x ∈ l, okX ng x = true
  | [], _, _, hx => by cases hx
  | y :: l, h, x, hx => by
    simp only [okXs, Bool.and_eq_true] at h
    rcases List.mem_cons.1 hx with rfl | hx
    · exact h.1
    · exact okXs_mem h.2 x hx

/-- a region's operations in their own order -/
theorem runOps_go (hG : EnvGood E) (hex : SoundEx E ex) {ops : Array Oper} {k' : List Item} {nt : Nat} : ∀ (l : List Oper) (i : Nat) (t t' : Tr Value) (H H' : Heap), ops.toList.drop i = l → okOps E.ng nt l = true → runOps E ex ops l t H = .ok t' H' →
    ∀ (ρ : Rho) (fr : Frame) (w : World) (cs : List Frame), fr.todo = .inRegion ops (List.range' i l.length) :: k' → fr.mode = .run → TR ρ fr.tmps t nt → HR E.ng ρ H w →
    ∃ ρ' a' w', Steps E.P (lone fr cs w) (lone { fr with tmps := a', todo := k' } cs w') ∧ TR ρ' a' t' nt ∧ HR E.ng ρ' H' w' ∧ Ext ρ H w ρ' H' w'
  | [], i, t, t', H, H', hl, hok, hr, ρ, fr, w, cs, ht, hm, htr, h => by
    have hr : OutT.ok t H = .ok t' H' := hr
    cases hr
    refine ⟨ρ, fr.tmps, w, .one (step_lone_go ?_), htr, h, Ext.refl _ _ _⟩
    simp [stepG, stepG.exec, hm, ht]
  | o :: l, i, t, t', H, H', hl, hok, hr, ρ, fr, w, cs, ht, hm, htr, h => by
    have hi : ops[i]? = some o := by
      have : ops.toList[i]? = some o := by
        have := congrArg (·[0]?) hl
        simpa [List.getElem?_drop] using this
      simpa using this
    have hl' : ops.toList.drop (i + 1) = l := by
      have := congrArg List.tail hl
      simpa [List.tail_drop] using this
    simp only [okOps, Bool.and_eq_true] at hok
    obtain ⟨⟨hd, hxs⟩, hok⟩ := hok
    have htodo : fr.todo = .inRegion ops (i :: List.range' (i + 1) l.length) :: k' := by rw [ht]; rfl
    have hr : @Bool.rec (fun _ => OutT) (runOps E ex ops l (putTmp t o.dst Undef) H) (@Out.rec (fun _ => OutT) .bad (fun v H => runOps E ex ops l (putTmp t o.dst v) H) (opA E ex H t o)) (wantedA ops t o.guard) = .ok t' H' := hr
    have hwe := wanted_eq (ops := ops) htr o
    cases hw : wantedA ops t o.guard with
    | false =>
      rw [hw] at hr hwe
      have hs := step_skipped (P := E.P) (w := w) (cs := cs) hm htodo hi hwe
      rw [finish_region htodo hi] at hs
      obtain ⟨ρ', a', w', g1, g2, g3, g4⟩ := runOps_go hG hex l (i + 1) _ t' H H' hl' hok hr ρ { fr with tmps := putA fr.tmps o.dst undef, todo := .inRegion ops (List.range' (i + 1) l.length) :: k' } w cs rfl hm (put_TR htr hd .undef) h
      exact ⟨ρ', a', w', Steps.head hs g1, g2, g3, g4⟩
    | true =>
      rw [hw] at hr hwe
      cases hop : opA E ex H t o with
      | bad => rw [hop] at hr; cases hr
      | ok v H1 =>
        rw [hop] at hr
        have hr : runOps E ex ops l (putTmp t o.dst v) H1 = .ok t' H' := hr
        have hplain : Plain fr := fun d r s kk e => by rw [htodo] at e; cases e
        obtain ⟨ρ1, v1, w1, g1, g2, g3, g4⟩ := op_go hG hex h (ev := fr.eval) (fr := fr) (cs := cs) (fun x hx => eval_rel h.glob htr (okXs_mem hxs x (by simpa using hx))) hplain hop
        have hs := g1.steps (step_oper hm htodo hi hwe (opA_no_defer hop))
        rw [finish_region htodo hi] at hs
        obtain ⟨ρ', a', w', k1, k2, k3, k4⟩ := runOps_go hG hex l (i + 1) _ t' H1 H' hl' hok hr ρ1 { fr with tmps := putA fr.tmps o.dst v1, todo := .inRegion ops (List.range' (i + 1) l.length) :: k' } w1 cs rfl hm (put_TR (htr.mono g4.le) hd g2) g3
        exact ⟨ρ', a', w', Steps.trans hs k1, k2, k3, g4.trans k4⟩
end Ex

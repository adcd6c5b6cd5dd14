/- A verified executor for closed Go calls, part of it: its lemmas carry no condition. -/
import Derived.Test.YtacchpkmjgdebaaGreatExS
set_option linter.unusedVariables false
set_option linter.unusedSimpArgs false
namespace Ex
open Go
variable {E : Env} {ρ ρ' : Rho} {H H' : Heap} {w w' : World} {ex : Ex}

theorem loop_obj (h : HR E.ng ρ H w) {b : Nat} {st : LoopState} {pe : Option Code} {fn : FuncId} {tmps : Tr Value} {nt : Nat} {ps : Array Tmp} {as bd : Code} {df : Nat} (ho : H.get b = .loop st pe fn tmps nt ps as bd df) :
    ∃ l a dl, ρ b = some ⟨l, 0, 0, 0⟩ ∧ ρ df = some ⟨dl, 0, 0, 0⟩ ∧ TR ρ a tmps nt ∧ w.heap[l]? = some (.loop { state := st, pending := pe, fn, tmps := a, params := ps, assign := as, body := bd, defers := dl }) := by
  have := h.obj b
  rw [ho] at this
  exact this

/-- a loop's record is written -/
theorem loop_set (h : HR E.ng ρ H w) {b l : Nat} {st st2 : LoopState} {pe pe2 : Option Code} {fn : FuncId} {tmps : Tr Value} {nt : Nat} {ps : Array Tmp} {as bd : Code} {df : Nat} {a : Array Value} {dl : Nat} (ho : H.get b = .loop st pe fn tmps nt ps as bd df)
    (hb : ρ b = some ⟨l, 0, 0, 0⟩) (hd : ρ df = some ⟨dl, 0, 0, 0⟩) (ha : TR ρ a tmps nt) (hw : w.heap[l]? = some (.loop { state := st, pending := pe, fn, tmps := a, params := ps, assign := as, body := bd, defers := dl })) :
    HR E.ng ρ (H.set b (.loop st2 pe2 fn tmps nt ps as bd df)) (withObj w l (.loop { state := st2, pending := pe2, fn, tmps := a, params := ps, assign := as, body := bd, defers := dl })) ∧
    Ext ρ H w ρ (H.set b (.loop st2 pe2 fn tmps nt ps as bd df)) (withObj w l (.loop { state := st2, pending := pe2, fn, tmps := a, params := ps, assign := as, body := bd, defers := dl })) := by
  have hlt := (Array.getElem?_eq_some_iff.1 hw).1
  have halive : H.get b ≠ .none := by rw [ho]; simp
  exact ⟨h.setObj halive hb (fun c hc => by rw [withObj_heap _ _ _ _ hlt, if_neg hc]) ⟨l, a, dl, hb, hd, ha, by rw [withObj_heap _ _ _ _ hlt, if_pos rfl]⟩,
    { le := ρ.le_refl, size := by rw [withObj_size]; exact Nat.le_refl _, keep := fun c _ hn => by rw [withObj_heap _ _ _ _ hlt, if_neg (fun e => hn ⟨b, _, halive, hb, e.symm⟩)], range := fun c hh => .inr (Held.set halive hh),
      dom := fun _ _ hq => .inl hq, next := by rw [Heap.next_set]; exact Nat.le_refl _, tape := rfl, os := rfl, output := rfl }⟩

theorem run_setObj {P : Program} {l : Nat} {r : Loop} (h : w.heap[l]? = some (.loop r)) (o : Obj) : (setObj l o).run P w = .ok () (withObj w l o) := by simp [setObj, Sem.run, h]; rfl
theorem runGetLoop {P : Program} {l : Nat} {r : Loop} (h : w.heap[l]? = some (.loop r)) : (Instr.getLoop l).run P w = .ok r w := run_getLoop h

theorem leave_go (hG : EnvGood E) {c : Cx} {d : List Nat} {t : Tr Value} {k : List AItem} {fr : Frame} {cs : List Frame} {v' : Value} {jump : Option Code} (hfr : FrR ρ c d k t fr) (h : HR E.ng ρ H w) (hl : leaveA E c d t H jump = .ok v' H')
    (hstep : fr.roundOf = none → isRet jump = true → Go.step E.P (lone fr cs w) = .next (lone { fr with mode := .returning } cs w))
    (hround : ∀ l, fr.roundOf = some l → ∀ v w1, (Instr.endRound l jump).run E.P w = .ok v w1 → ∀ cc cs', cs = cc :: cs' → Go.step E.P (lone fr cs w) = .next (lone (cc.finish v) cs' w1)) : Fin E ρ H w fr cs v' H' := by
  unfold leaveA at hl
  have hr := hfr.round
  cases hcr : c.round with
  | none =>
    rw [hcr] at hl hr
    simp only at hl hr
    cases hj : isRet jump with
    | false => rw [hj] at hl; cases hl
    | true =>
      rw [hj] at hl
      simp only at hl
      obtain ⟨v, w1, fr', g1, g2, g3, g4, g5, g6⟩ := leave_fn hG h (fr := { fr with mode := .returning }) (cs := cs) hfr.fn rfl hfr.kind hr hfr.tmps hfr.defers hl
      exact ⟨ρ, v, w1, ⟨fun _ => ⟨fr', Steps.head (hstep hr hj) g1, g2, g3⟩, fun hne => absurd hr hne⟩, g4, g5, g6⟩
  | some b =>
    rw [hcr] at hl hr
    simp only at hl hr
    obtain ⟨l, hb, hro⟩ := hr
    cases d with
    | cons _ _ => cases hl
    | nil =>
      simp only [leaveRound] at hl
      cases ho : H.get b <;> rw [ho] at hl <;> simp only at hl <;> try (cases hl; done)
      rename_i st pe fn tmps nt ps as bd df
      obtain ⟨l', a, dl, hb', hd, ha, hw⟩ := loop_obj h ho
      rw [hb] at hb'; cases hb'
      have hend : (Instr.endRound l jump).run E.P w = .ok (.bool jump.isNone) (withObj w l (.loop { state := if jump.isNone then .ready else .done, pending := jump, fn, tmps := a, params := ps, assign := as, body := bd, defers := dl })) := by
        simp only [Instr.endRound, Sem.run_bind, runGetLoop hw, Result.andThen, run_setObj hw, Sem.run_pure]
      cases jump with
      | none =>
        cases hl
        obtain ⟨g1, g2⟩ := loop_set h ho hb hd ha hw (st2 := .ready) (pe2 := none)
        exact ⟨ρ, _, _, ⟨(fun h0 => by rw [hro] at h0; cases h0), fun _ cc cs' e => .one (hround l hro _ _ hend cc cs' e)⟩, .bool _, g1, g2⟩
      | some j =>
        cases hl
        obtain ⟨g1, g2⟩ := loop_set h ho hb hd ha hw (st2 := .done) (pe2 := some j)
        exact ⟨ρ, _, _, ⟨(fun h0 => by rw [hro] at h0; cases h0), fun _ cc cs' e => .one (hround l hro _ _ hend cc cs' e)⟩, .bool _, g1, g2⟩

theorem cond_eval {fr : Frame} {t : Tr Value} {nt : Nat} (h : TR ρ fr.tmps t nt) {x : Operand} {b : Bool} (hx : evA t x = .bool b) : fr.eval x = .bool b := by
  cases x with
  | tmp i =>
    have := h.rel i
    have hx : t.get Undef i = .bool b := hx
    rw [hx] at this
    exact this.bool_inv
  | const v => exact hx
  | global g => cases hx
  | func f => cases hx

/-- the walk of a range over a function -/
theorem range_go (hG : EnvGood E) (hex : SoundEx E ex) {c : Cx} {d d1 : List Nat} {k : List AItem} {kk : List Item} {t : Tr Value} {fr : Frame} {cs : List Frame} {g : Operand} {ps : Array Tmp} {as bd : Code} {v' : Value}
    {H1 : Heap} {ρ1 : Rho} {w1 : World} {b l : Nat} {mark : List Deferred} (hfr : FrR ρ c d (.code (.rangeFunc g ps as bd) :: k) t fr) (htodo : fr.todo = .code (.rangeFunc g ps as bd) :: kk) (hk : IR ρ k kk)
    (hgx : VR ρ (fr.eval g) (evA t g)) (henter : (Instr.enterLoop fr.fn fr.tmps ps as bd fr.roundOf).run E.P w = .ok (l, mark) w1) (hb : ρ1 b = some ⟨l, 0, 0, 0⟩) (h1 : HR E.ng ρ1 H1 w1) (he : Ext ρ H w ρ1 H1 w1) (hd : DR ρ1 d1 (mark ++ fr.defers))
    (hc : afterRange ex c d1 k t b (callV E ex H1 (evA t g) [.func (.yield b) ⟨[]⟩ ⟨[]⟩]) = .ok v' H') : Fin E ρ H w fr cs v' H' := by
  cases hcall : callV E ex H1 (evA t g) [.func (.yield b) ⟨[]⟩ ⟨[]⟩] with
  | bad => rw [hcall] at hc; cases hc
  | ok v2 H2 =>
    rw [hcall] at hc
    simp only [afterRange] at hc
    have hgv : VR ρ1 (.func (.yield l) ⟨[]⟩ ⟨[]⟩) (.func (.yield b) ⟨[]⟩ ⟨[]⟩) := .func [] [] [] [] (.yield hb) rfl (by simp) rfl (by simp)
    let fr1 : Frame := { fr with todo := .inRangeFunc l :: kk, defers := mark ++ fr.defers }
    have hplain : Plain fr1 := fun d r s kk' e => by cases e
    obtain ⟨dd, g1, g2⟩ := callV_go hG hex h1 (hgx.mono he.le) (LR.cons hgv (LR.nil ρ1)) (fr := fr1) (cs := cs) hplain hcall
    obtain ⟨ρ2, v, w2, a1, a2, a3, a4⟩ := g2
    have hfin : fr1.finish v = { fr with todo := .endRangeFunc l :: kk, defers := mark ++ fr.defers } := rfl
    have happ : App E.P fr1 cs (do let d ← resolve fr1.eval { callee := .value g, args := #[.const (.func (.yield l) #[] #[])], argTypes := #[] } 0; invoke d.target d.args) w1 v w2 := by
      refine App.congr ?_ a1
      have hev : fr1.eval g = fr.eval g := by cases g <;> rfl
      have hres : resolve fr1.eval { callee := .value g, args := #[.const (.func (.yield l) #[] #[])], argTypes := #[] } 0 = Deferred.ofValue (fr1.eval g) #[.func (.yield l) #[] #[]] := by simp [resolve, Frame.eval]
      rw [hres, hev]
      have := g1 w1
      simp only [Sem.run_bind]
      rw [show (#[.func (.yield l) #[] #[]] : Array Value) = ⟨[.func (.yield l) ⟨[]⟩ ⟨[]⟩]⟩ from rfl, this]
      rfl
    have hsteps : Steps E.P (lone fr cs w) (lone { fr with todo := .endRangeFunc l :: kk, defers := mark ++ fr.defers } cs w2) := by
      obtain ⟨fr2, cs2, w3, b1, b2⟩ := happ
      rw [hfin] at b2
      refine Steps.head (step_lone_go ?_) b2
      rw [← b1]
      have hm := hfr.mode
      simp [stepG, stepG.exec, hm, htodo, Sem.runT_eq, henter, GStep.bare_after, fr1]
    have hfr2 : FrR ρ2 c d1 (.endRange b :: k) t { fr with todo := .endRangeFunc l :: kk, defers := mark ++ fr.defers } :=
      ⟨hfr.fn, hfr.mode, hfr.kind, (hfr.tmps.mono he.le).mono a4.le, .endRange (a4.le _ _ hb) ((hk.mono he.le).mono a4.le), hd.mono a4.le, ((hfr.mono he.le).mono a4.le).round⟩
    have := hex _ _ _ _ _ _ _ hc ρ2 _ w2 cs hfr2 a3
    exact Fin.head hsteps rfl rfl (he.trans a4) this

theorem step_go (hG : EnvGood E) (hex : SoundEx E ex) (hdraw : DrawOk E ex) : SoundEx E (Ex.step E ex) := by
  intro c d todo t H v' H' hc ρ fr w cs hfr h
  have hm := hfr.mode
  have htd := hfr.todo
  show Fin E ρ H w fr cs v' H'
  have go1 : ∀ {k2 : List AItem} {kk2 : List Item}, Go.step E.P (lone fr cs w) = .next (lone { fr with todo := kk2 } cs w) → IR ρ k2 kk2 → ex c d k2 t H = .ok v' H' → Fin E ρ H w fr cs v' H' := fun hs hk he =>
    Fin.head (.one hs) rfl rfl (Ext.refl _ _ _) (hex _ _ _ _ _ _ _ he ρ _ w cs (hfr.todoTo hk) h)
  cases todo with
  | nil =>
    have htodo : fr.todo = [] := by cases hx : fr.todo with | nil => rfl | cons _ _ => rw [hx] at htd; cases htd
    refine leave_go hG hfr h (show leaveA E c d t H none = .ok v' H' from hc) (fun hr _ => step_lone_go (by simp [stepG, stepG.exec, hm, htodo, hr])) (fun l hr v w1 he cc cs' e => ?_)
    subst e
    exact step_lone_go (by simp [stepG, stepG.exec, hm, htodo, hr, Sem.runT_eq, he, doReturn, hfr.kind, GStep.bare_after])
  | cons it k =>
    cases it with
    | inBlock id =>
      generalize hft : fr.todo = ft at htd
      cases htd with
      | inBlock _ hk => exact go1 (step_lone_go (by simp [stepG, stepG.exec, hm, hft])) hk hc
    | inScope b =>
      generalize hft : fr.todo = ft at htd
      cases htd with
      | inScope _ hk => exact go1 (step_lone_go (by simp [stepG, stepG.exec, hm, hft])) hk hc
    | inLoop b =>
      generalize hft : fr.todo = ft at htd
      cases htd with
      | inLoop _ hk => exact go1 (step_lone_go (by simp [stepG, stepG.exec, hm, hft])) (.code _ (.inLoop _ hk)) hc
    | beginRound =>
      generalize hft : fr.todo = ft at htd
      cases htd with
      | beginRound hk =>
        rename_i kk
        have hc : beginA ex c d k t H c.round = .ok v' H' := hc
        have hr := hfr.round
        cases hcr : c.round with
        | none => rw [hcr] at hc; cases hc
        | some b =>
          rw [hcr] at hc hr
          simp only at hr
          obtain ⟨l, hb, hro⟩ := hr
          simp only [beginA] at hc
          split at hc
          · rename_i pe fn tmps nt ps as bd df ho
            obtain ⟨l', a, dl, hb', hdf, ha, hw⟩ := loop_obj h ho
            rw [hb] at hb'; cases hb'
            obtain ⟨g1, g2⟩ := loop_set h ho hb hdf ha hw (st2 := .busy) (pe2 := pe)
            have hbr : (Instr.beginRound l).run E.P w = .ok () (withObj w l (.loop { state := .busy, pending := pe, fn, tmps := a, params := ps, assign := as, body := bd, defers := dl })) := by
              simp only [Instr.beginRound, Sem.run_bind, runGetLoop hw, Result.andThen, run_setObj hw, Sem.run_pure]
            have hs : Go.step E.P (lone fr cs w) = .next (lone { fr with todo := kk } cs (withObj w l (.loop { state := .busy, pending := pe, fn, tmps := a, params := ps, assign := as, body := bd, defers := dl }))) := by
              refine step_lone_go ?_
              simp [stepG, stepG.exec, hm, hft, hro, stepG.apply, Sem.runT_eq, hbr, Result.andThen, GStep.bare_after, Frame.finish]
            exact Fin.head (.one hs) rfl rfl g2 (hex _ _ _ _ _ _ _ hc ρ _ _ cs (hfr.todoTo hk) g1)
          · cases hc
    | endRange b =>
      generalize hft : fr.todo = ft at htd
      cases htd with
      | endRange hb hk =>
        rename_i l kk
        have hc : endRangeA ex c d k t H b = .ok v' H' := hc
        simp only [endRangeA] at hc
        cases ho : H.get b <;> rw [ho] at hc <;> simp only at hc <;> try (cases hc; done)
        rename_i st pe fn tmps nt ps as bd df
        obtain ⟨l', a, dl, hb', hdf, ha, hw⟩ := loop_obj h ho
        rw [hb] at hb'; cases hb'
        cases hst : decide (st = .busy) with
        | true => rw [hst] at hc; cases hc
        | false =>
          rw [hst] at hc
          have hne : st ≠ .busy := by simpa using hst
          obtain ⟨g1, g2⟩ := loop_set h ho hb hdf ha hw (st2 := .exhausted) (pe2 := pe)
          have hbeq : (st == LoopState.busy) = false := by simpa using hne
          have hel : (Instr.endLoop l).run E.P w = .ok pe (withObj w l (.loop { state := .exhausted, pending := pe, fn, tmps := a, params := ps, assign := as, body := bd, defers := dl })) := by
            simp only [Instr.endLoop, Sem.run_bind, runGetLoop hw, Result.andThen, hbeq, Bool.false_eq_true, if_false, run_setObj hw, Sem.run_pure]
          have hs : Go.step E.P (lone fr cs w) = .next (lone { fr with todo := (pe.map Item.code).toList ++ kk } cs (withObj w l (.loop { state := .exhausted, pending := pe, fn, tmps := a, params := ps, assign := as, body := bd, defers := dl }))) := by
            refine step_lone_go ?_
            simp [stepG, stepG.exec, hm, hft, Sem.runT_eq, hel, GStep.bare_after]
          have hir : IR ρ (pend pe k) ((pe.map Item.code).toList ++ kk) := by
            cases pe with
            | none => exact hk
            | some cd => exact .code cd hk
          exact Fin.head (.one hs) rfl rfl g2 (hex _ _ _ _ _ _ _ hc ρ _ _ cs (hfr.todoTo hir) g1)
    | code cd =>
      generalize hft : fr.todo = ft at htd
      cases htd with
      | code _ hk =>
        rename_i kk
        have hc : stepCode E ex c d k t H cd = .ok v' H' := hc
        cases cd with
        | skip => exact go1 (step_lone_go (by simp [stepG, stepG.exec, hm, hft])) hk hc
        | label l => exact go1 (step_lone_go (by simp [stepG, stepG.exec, hm, hft])) hk hc
        | seq a b => exact go1 (step_lone_go (by simp [stepG, stepG.exec, hm, hft])) (.code _ (.code _ hk)) hc
        | block id b => exact go1 (step_lone_go (by simp [stepG, stepG.exec, hm, hft])) (.code _ (.inBlock _ hk)) hc
        | loop b => exact go1 (step_lone_go (by simp [stepG, stepG.exec, hm, hft])) (.code _ (.inLoop _ hk)) hc
        | scope b => exact go1 (step_lone_go (by simp [stepG, stepG.exec, hm, hft])) (.code _ (.inScope _ hk)) hc
        | refuse s => cases hc
        | cond x a b =>
          have hc : condA ex c d k t H a b (evA t x) = .ok v' H' := hc
          unfold condA at hc
          split at hc
          · rename_i hx
            have := cond_eval hfr.tmps hx
            exact go1 (step_lone_go (by simp [stepG, stepG.exec, hm, hft, this])) (.code _ hk) hc
          · rename_i hx
            have := cond_eval hfr.tmps hx
            exact go1 (step_lone_go (by simp [stepG, stepG.exec, hm, hft, this])) (.code _ hk) hc
          · cases hc
        | ret =>
          refine leave_go hG hfr h (show leaveA E c d t H (some .ret) = .ok v' H' from hc) (fun hr _ => step_lone_go (by simp [stepG, stepG.exec, hm, hft, hr])) (fun l hr v w1 he cc cs' e => ?_)
          subst e
          exact step_lone_go (by simp [stepG, stepG.exec, hm, hft, hr, Sem.runT_eq, he, doReturn, hfr.kind, GStep.bare_after])
        | exit id =>
          have hc : jumpTo E ex c d t H (.exit id) (exitToA id k) = .ok v' H' := hc
          cases hx : exitToA id k with
          | some k2 =>
            rw [hx] at hc
            obtain ⟨kk2, e1, e2⟩ := exitTo_rel hk hx
            exact go1 (step_lone_go (by simp [stepG, stepG.exec, hm, hft, e1])) e2 hc
          | none =>
            rw [hx] at hc
            have e1 := exitTo_none hk hx
            refine leave_go hG hfr h (show leaveA E c d t H (some (.exit id)) = .ok v' H' from hc) (fun _ hr => by cases hr) (fun l hr v w1 he cc cs' e => ?_)
            subst e
            exact step_lone_go (by simp [stepG, stepG.exec, hm, hft, hr, e1, Sem.runT_eq, he, doReturn, hfr.kind, GStep.bare_after])
        | goto l =>
          have hc : jumpTo E ex c d t H (.goto l) (gotoInA l k) = .ok v' H' := hc
          cases hx : gotoInA l k with
          | some k2 =>
            rw [hx] at hc
            obtain ⟨kk2, e1, e2⟩ := gotoIn_rel hk hx
            exact go1 (step_lone_go (by simp [stepG, stepG.exec, hm, hft, e1])) e2 hc
          | none =>
            rw [hx] at hc
            have e1 := gotoIn_none hk hx
            refine leave_go hG hfr h (show leaveA E c d t H (some (.goto l)) = .ok v' H' from hc) (fun _ hr => by cases hr) (fun l' hr v w1 he cc cs' e => ?_)
            subst e
            exact step_lone_go (by simp [stepG, stepG.exec, hm, hft, hr, e1, Sem.runT_eq, he, doReturn, hfr.kind, GStep.bare_after])
        | region id ops draw =>
          cases hok : okOps E.ng c.nt ops.toList with
          | false =>
            have e : stepCode E ex c d k t H (.region id ops draw) = .bad := by simp only [stepCode, hok]
            rw [e] at hc; cases hc
          | true =>
            cases draw with
            | false =>
              have hc : afterOps ex c d k (runOps E ex ops ops.toList t H) = .ok v' H' := by simpa only [stepCode, hok] using hc
              cases hr : runOps E ex ops ops.toList t H with
              | bad => rw [hr] at hc; cases hc
              | ok t1 H1 =>
                rw [hr] at hc
                have hs : Go.step E.P (lone fr cs w) = .next (lone { fr with todo := .inRegion ops (List.range ops.size) :: kk } cs w) := step_lone_go (by simp [stepG, stepG.exec, hm, hft])
                have hrange : List.range ops.size = List.range' 0 ops.toList.length := by rw [List.range_eq_range']; simp
                obtain ⟨ρ1, a1, w1, g1, g2, g3, g4⟩ := runOps_go (k' := kk) hG hex ops.toList 0 t t1 H H1 (by simp) hok hr ρ { fr with todo := .inRegion ops (List.range ops.size) :: kk } w cs (by simp only [hrange]) hm hfr.tmps h
                refine Fin.head (fr1 := { fr with tmps := a1, todo := kk }) (Steps.head hs g1) rfl rfl g4 (hex _ _ _ _ _ _ _ hc ρ1 _ w1 cs ?_ g3)
                have := hfr.mono g4.le
                exact ⟨hfr.fn, hfr.mode, hfr.kind, g2, hk.mono g4.le, this.defers, this.round⟩
            | true =>
              have hc : afterOps ex c d k (drawOps E ex ops t H) = .ok v' H' := by simpa only [stepCode, hok] using hc
              cases hr : drawOps E ex ops t H with
              | bad => rw [hr] at hc; cases hc
              | ok t1 H1 =>
                rw [hr] at hc
                obtain ⟨ρ1, a1, w1, g1, g2, g3, g4⟩ := hdraw ops c.nt t t1 H H1 hr hok ρ fr w cs id kk hft hm hfr.tmps h
                refine Fin.head (fr1 := { fr with tmps := a1, todo := kk }) g1 rfl rfl g4 (hex _ _ _ _ _ _ _ hc ρ1 _ w1 cs ?_ g3)
                have := hfr.mono g4.le
                exact ⟨hfr.fn, hfr.mode, hfr.kind, g2, hk.mono g4.le, this.defers, this.round⟩
        | rangeFunc g ps as bd =>
          have hc : (match okX E.ng g with | true => rangeA E ex c d k t H (evA t g) ps as bd | false => .bad) = Out.ok v' H' := hc
          cases hgx : okX E.ng g with
          | false => rw [hgx] at hc; cases hc
          | true =>
            rw [hgx] at hc
            simp only at hc
            have hgv := eval_rel (fr := fr) (nt := c.nt) h.glob hfr.tmps hgx
            have hfr' := hfr
            unfold rangeA at hc
            have hr := hfr.round
            cases hcr : c.round with
            | none =>
              rw [hcr] at hc hr
              simp only [rangeIn] at hc hr
              -- the deferred block, then the record
              obtain ⟨g1, g2⟩ := ext_alloc (w' := w.alloc (.deferred (some []))) h (.deferred (some [])) (.deferred true) ⟨w.heap.size, 0, 0, 0⟩ rfl rfl rfl rfl rfl ⟨w.heap.size, Rho.put_same _ _ _, alloc_new w _⟩
              have hsz : (w.alloc (.deferred (some []))).heap.size = w.heap.size + 1 := by show (w.heap.push _).size = _; simp
              have hn1 : (H.add (.deferred true)).next = H.next + 1 := Heap.next_add _ _
              have hle1 := g2.le
              have hobj : ObjAt ((ρ.put H.next ⟨w.heap.size, 0, 0, 0⟩).put (H.add (.deferred true)).next ⟨w.heap.size + 1, 0, 0, 0⟩)
                  ((w.alloc (.deferred (some []))).alloc (.loop { state := .ready, pending := none, fn := fr.fn, tmps := fr.tmps, params := ps, assign := as, body := bd, defers := w.heap.size })) (H.add (.deferred true)).next
                  (.loop .ready none c.fn t c.nt ps as bd H.next) := by
                have hlep : (ρ.put H.next ⟨w.heap.size, 0, 0, 0⟩).le ((ρ.put H.next ⟨w.heap.size, 0, 0, 0⟩).put (H.add (.deferred true)).next ⟨w.heap.size + 1, 0, 0, 0⟩) := Rho.le_put (g1.fresh _ (Nat.le_refl _))
                refine ⟨w.heap.size + 1, fr.tmps, w.heap.size, Rho.put_same _ _ _, hlep _ _ (Rho.put_same _ _ _), (hfr.tmps.mono hle1).mono hlep, ?_⟩
                have := alloc_new (w.alloc (.deferred (some []))) (.loop { state := .ready, pending := none, fn := fr.fn, tmps := fr.tmps, params := ps, assign := as, body := bd, defers := w.heap.size })
                rw [hsz] at this
                rw [this, hfr.fn]
              obtain ⟨g3, g4⟩ := ext_alloc (w' := (w.alloc (.deferred (some []))).alloc (.loop { state := .ready, pending := none, fn := fr.fn, tmps := fr.tmps, params := ps, assign := as, body := bd, defers := w.heap.size })) g1 _ _ ⟨w.heap.size + 1, 0, 0, 0⟩ hsz.symm rfl rfl rfl rfl hobj
              have henter : (Instr.enterLoop fr.fn fr.tmps ps as bd fr.roundOf).run E.P w = .ok (w.heap.size + 1, [{ target := .collected w.heap.size, args := #[] }])
                  ((w.alloc (.deferred (some []))).alloc (.loop { state := .ready, pending := none, fn := fr.fn, tmps := fr.tmps, params := ps, assign := as, body := bd, defers := w.heap.size })) := by
                rw [hr]; exact run_enterLoop_outer _ _ _ _ _
              refine range_go hG hex (d1 := H.next :: d) (b := H.next + 1) hfr' hft hk hgv henter ?_ g3 (g2.trans g4) ?_ hc
              · rw [← hn1]; exact Rho.put_same _ _ _
              · exact .cons (g4.le _ _ (Rho.put_same _ _ _)) ((hfr.defers.mono g2.le).mono g4.le)
            | some b0 =>
              rw [hcr] at hc hr
              simp only at hc hr
              obtain ⟨l0, hb0, hro⟩ := hr
              cases ho : H.get b0 <;> rw [ho] at hc <;> simp only at hc <;> try (cases hc; done)
              rename_i st0 pe0 fn0 tmps0 nt0 ps0 as0 bd0 df0
              obtain ⟨l', a0, dl0, hb', hdf, ha0, hw0⟩ := loop_obj h ho
              rw [hb0] at hb'; cases hb'
              simp only [rangeIn] at hc
              have hle : ρ.le (ρ.put H.next ⟨w.heap.size, 0, 0, 0⟩) := Rho.le_put (h.fresh _ (Nat.le_refl _))
              obtain ⟨g1, g2⟩ := ext_alloc (w' := w.alloc (.loop { state := .ready, pending := none, fn := fr.fn, tmps := fr.tmps, params := ps, assign := as, body := bd, defers := dl0 })) h _ (.loop .ready none c.fn t c.nt ps as bd df0) ⟨w.heap.size, 0, 0, 0⟩ rfl rfl rfl rfl rfl
                ⟨w.heap.size, fr.tmps, dl0, Rho.put_same _ _ _, hle _ _ hdf, hfr.tmps.mono hle, by rw [alloc_new w _, hfr.fn]⟩
              have henter : (Instr.enterLoop fr.fn fr.tmps ps as bd fr.roundOf).run E.P w = .ok (w.heap.size, []) (w.alloc (.loop { state := .ready, pending := none, fn := fr.fn, tmps := fr.tmps, params := ps, assign := as, body := bd, defers := dl0 })) := by
                rw [hro]
                unfold Instr.enterLoop
                simp only [Sem.run_bind, run_getLoop hw0, run_newObj_alloc, Result.andThen, Sem.run_pure]
              exact range_go hG hex (d1 := d) (b := H.next) hfr' hft hk hgv henter (Rho.put_same _ _ _) g1 g2 (by simpa using hfr.defers.mono g2.le) hc
end Ex

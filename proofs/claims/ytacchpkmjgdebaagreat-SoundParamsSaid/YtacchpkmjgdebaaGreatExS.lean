/- A verified executor for closed Go calls, part of it: its lemmas carry no condition. -/
import Derived.Test.YtacchpkmjgdebaaGreatExR
set_option linter.unusedVariables false
set_option linter.unusedSimpArgs false
namespace Ex
open Go
variable {E : Env} {ρ ρ' : Rho} {H H' : Heap} {w w' : World} {ex : Ex}

def DrawOk (E : Env) (ex : Ex) : Prop := ∀ (ops : Array Oper) (nt : Nat) (t t' : Tr Value) (H H' : Heap), drawOps E ex ops t H = .ok t' H' → okOps E.ng nt ops.toList = true →
  ∀ (ρ : Rho) (fr : Frame) (w : World) (cs : List Frame) (id : Nat) (k' : List Item), fr.todo = .code (.region id ops true) :: k' → fr.mode = .run → TR ρ fr.tmps t nt → HR E.ng ρ H w →
    ∃ ρ' a' w', Steps E.P (lone fr cs w) (lone { fr with tmps := a', todo := k' } cs w') ∧ TR ρ' a' t' nt ∧ HR E.ng ρ' H' w' ∧ Ext ρ H w ρ' H' w'

theorem Ends.head {P : Program} {fr fr1 : Frame} {cs : List Frame} {w1 : World} {v : Value} (hs : Steps P (lone fr cs w) (lone fr1 cs w1)) (hr : fr1.roundOf = fr.roundOf) (hf : fr1.fn = fr.fn) (h : Ends P fr1 cs w1 v w') : Ends P fr cs w v w' := by
  refine ⟨fun h0 => ?_, fun h0 c cs' e => ?_⟩
  · obtain ⟨fr', a, b, c⟩ := h.1 (hr.trans h0)
    exact ⟨fr', hs.trans a, b.trans hf, c⟩
  · exact hs.trans (h.2 (by rw [hr]; exact h0) c cs' e)

def Fin (E : Env) (ρ : Rho) (H : Heap) (w : World) (fr : Frame) (cs : List Frame) (v' : Value) (H' : Heap) : Prop :=
  ∃ ρ' v w', Ends E.P fr cs w v w' ∧ VR ρ' v v' ∧ HR E.ng ρ' H' w' ∧ Ext ρ H w ρ' H' w'

theorem Fin.head {fr fr1 : Frame} {cs : List Frame} {w1 : World} {ρ1 : Rho} {H1 : Heap} {v' : Value} (hs : Steps E.P (lone fr cs w) (lone fr1 cs w1)) (hr : fr1.roundOf = fr.roundOf) (hf : fr1.fn = fr.fn) (he : Ext ρ H w ρ1 H1 w1) (h : Fin E ρ1 H1 w1 fr1 cs v' H') : Fin E ρ H w fr cs v' H' := by
  obtain ⟨ρ', v, w', a, b, c, d⟩ := h
  exact ⟨ρ', v, w', a.head hs hr hf, b, c, he.trans d⟩

theorem FrR.todoTo {c : Cx} {d : List Nat} {k k2 : List AItem} {t : Tr Value} {fr : Frame} {kk : List Item} (h : FrR ρ c d k t fr) (hk : IR ρ k2 kk) : FrR ρ c d k2 t { fr with todo := kk } :=
  ⟨h.fn, h.mode, h.kind, h.tmps, hk, h.defers, h.round⟩
theorem FrR.mono (hle : ρ.le ρ') {c : Cx} {d : List Nat} {k : List AItem} {t : Tr Value} {fr : Frame} (h : FrR ρ c d k t fr) : FrR ρ' c d k t fr := by
  refine ⟨h.fn, h.mode, h.kind, h.tmps.mono hle, h.todo.mono hle, h.defers.mono hle, ?_⟩
  have := h.round
  split at this
  · exact this
  · obtain ⟨l, a, b⟩ := this; exact ⟨l, hle _ _ a, b⟩

theorem exitTo_rel {id : Nat} : ∀ {k k2 : List AItem} {kk : List Item}, IR ρ k kk → exitToA id k = some k2 → ∃ kk2, exitTo id kk = some kk2 ∧ IR ρ k2 kk2
  | _, _, _, .nil, h => by cases h
  | _, _, _, .inBlock id' t, h => by
    simp only [exitToA] at h
    cases hb : Nat.beq id' id with
    | true =>
      rw [hb] at h; cases h
      have : id' = id := Nat.eq_of_beq_eq_true hb
      exact ⟨_, by simp [exitTo, this], t⟩
    | false =>
      rw [hb] at h
      obtain ⟨kk2, a, b⟩ := exitTo_rel t h
      have : ¬ id' = id := fun e => by subst e; simp at hb
      exact ⟨kk2, by simp [exitTo, this, a], b⟩
  | _, _, _, .code c t, h => by
    obtain ⟨kk2, a, b⟩ := exitTo_rel t h
    exact ⟨kk2, a, b⟩
  | _, _, _, .inLoop c t, h => by
    obtain ⟨kk2, a, b⟩ := exitTo_rel t h
    exact ⟨kk2, a, b⟩
  | _, _, _, .inScope c t, h => by
    obtain ⟨kk2, a, b⟩ := exitTo_rel t h
    exact ⟨kk2, a, b⟩
  | _, _, _, .beginRound t, h => by
    obtain ⟨kk2, a, b⟩ := exitTo_rel t h
    exact ⟨kk2, a, b⟩
  | _, _, _, .endRange hb t, h => by
    obtain ⟨kk2, a, b⟩ := exitTo_rel t h
    exact ⟨kk2, a, b⟩
theorem exitTo_none {id : Nat} : ∀ {k : List AItem} {kk : List Item}, IR ρ k kk → exitToA id k = none → exitTo id kk = none
  | _, _, .nil, _ => rfl
  | _, _, .inBlock id' t, h => by
    simp only [exitToA] at h
    cases hb : Nat.beq id' id with
    | true => rw [hb] at h; cases h
    | false =>
      rw [hb] at h
      have : ¬ id' = id := fun e => by subst e; simp at hb
      simp [exitTo, this, exitTo_none t h]
  | _, _, .code c t, h => by
    have := exitTo_none t h
    exact this
  | _, _, .inLoop c t, h => by
    have := exitTo_none t h
    exact this
  | _, _, .inScope c t, h => by
    have := exitTo_none t h
    exact this
  | _, _, .beginRound t, h => by
    have := exitTo_none t h
    exact this
  | _, _, .endRange hb t, h => by
    have := exitTo_none t h
    exact this
theorem gotoIn_rel {l : Nat} : ∀ {k k2 : List AItem} {kk : List Item}, IR ρ k kk → gotoInA l k = some k2 → ∃ kk2, gotoIn l kk = some kk2 ∧ IR ρ k2 kk2
  | _, _, _, .nil, h => by cases h
  | _, _, _, .inScope c t, h => by
    simp only [gotoInA] at h
    cases hb : findLabel c l with
    | some rest => rw [hb] at h; cases h; exact ⟨_, by simp [gotoIn, hb], .code _ (.inScope _ t)⟩
    | none =>
      rw [hb] at h
      obtain ⟨kk2, a, b⟩ := gotoIn_rel t h
      exact ⟨kk2, by simp [gotoIn, hb, a], b⟩
  | _, _, _, .inBlock id' t, h => by
    obtain ⟨kk2, a, b⟩ := gotoIn_rel t h
    exact ⟨kk2, a, b⟩
  | _, _, _, .code c t, h => by
    obtain ⟨kk2, a, b⟩ := gotoIn_rel t h
    exact ⟨kk2, a, b⟩
  | _, _, _, .inLoop c t, h => by
    obtain ⟨kk2, a, b⟩ := gotoIn_rel t h
    exact ⟨kk2, a, b⟩
  | _, _, _, .beginRound t, h => by
    obtain ⟨kk2, a, b⟩ := gotoIn_rel t h
    exact ⟨kk2, a, b⟩
  | _, _, _, .endRange hb t, h => by
    obtain ⟨kk2, a, b⟩ := gotoIn_rel t h
    exact ⟨kk2, a, b⟩
theorem gotoIn_none {l : Nat} : ∀ {k : List AItem} {kk : List Item}, IR ρ k kk → gotoInA l k = none → gotoIn l kk = none
  | _, _, .nil, _ => rfl
  | _, _, .inScope c t, h => by
    simp only [gotoInA] at h
    cases hb : findLabel c l with
    | some rest => rw [hb] at h; cases h
    | none => rw [hb] at h; simp [gotoIn, hb, gotoIn_none t h]
  | _, _, .inBlock id' t, h => by
    have := gotoIn_none t h
    exact this
  | _, _, .code c t, h => by
    have := gotoIn_none t h
    exact this
  | _, _, .inLoop c t, h => by
    have := gotoIn_none t h
    exact this
  | _, _, .beginRound t, h => by
    have := gotoIn_none t h
    exact this
  | _, _, .endRange hb t, h => by
    have := gotoIn_none t h
    exact this

/-! a frame's end -/
def resSem (a : Array Value) (x : ResultVar) : Sem Value := match x with
  | .tmp i => pure (a.getD i undef)
  | .cell i ty => do loadVar ty (← asAddr (a.getD i undef))
theorem results_rel (hE : EnvOk E) (h : HR E.ng ρ H w) {a : Array Value} {t : Tr Value} {nt : Nat} (htr : TR ρ a t nt) : ∀ {l : List ResultVar} {r' : List Value}, resultA E.tt H t l = some r' →
    ∃ r, (l.mapM (resSem a)).run E.P w = .ok r w ∧ LR ρ r r'
  | [], r', h1 => by cases h1; exact ⟨[], rfl, LR.nil ρ⟩
  | x :: l, r', h1 => by
    simp only [resultA] at h1
    cases hx : result1 E.tt H t x with
    | none => rw [hx] at h1; cases h1
    | some v' =>
      rw [hx] at h1
      simp only at h1
      cases hr : resultA E.tt H t l with
      | none => rw [hr] at h1; cases h1
      | some r1 =>
        rw [hr] at h1
        cases h1
        obtain ⟨r, g1, g2⟩ := results_rel hE h htr hr
        have : ∃ v, (resSem a x).run E.P w = .ok v w ∧ VR ρ v v' := by
          cases x with
          | tmp i => cases hx; exact ⟨_, rfl, htr.rel i⟩
          | cell i ty =>
            have hx : loadV E.tt H ty (t.get Undef i) = some v' := hx
            have hi := htr.rel i
            unfold loadV at hx
            split at hx
            · rename_i ad hp
              obtain ⟨b, o, s⟩ := ad
              rw [hp] at hi
              obtain ⟨p, hp2, hpe⟩ := ptr_inv hi
              obtain ⟨v, k1, k2⟩ := load_sound hE h hp2 (show load1 H b o (shapeA E.tt ty) = some v' from hx)
              refine ⟨v, ?_, k2⟩
              simp only [resSem, hpe, asAddr, Sem.run_bind, Sem.run_pure, Result.andThen]
              exact k1
            · cases hx
        obtain ⟨v, k1, k2⟩ := this
        refine ⟨v :: r, ?_, LR.cons k2 g2⟩
        rw [List.mapM_cons]
        simp only [Sem.run_bind, k1, Result.andThen, g1, Sem.run_pure]

theorem tuple_rel {r r' : List Value} {v' : Value} {H1 : Heap} (h : LR ρ r r') (ht : tupleA (some r') H1 = .ok v' H') : H' = H1 ∧ VR ρ (if h : (⟨r⟩ : Array Value).size = 1 then (⟨r⟩ : Array Value)[0] else .tuple ⟨r⟩) v' := by
  unfold tupleA at ht
  split at ht
  · rename_i v heq
    cases heq; cases ht
    obtain ⟨x, y, rfl, hx, hy⟩ := h.cons_inv
    rw [hy.nil_inv]
    exact ⟨rfl, by simpa using hx⟩
  · rename_i vs hne heq
    cases heq; cases ht
    refine ⟨rfl, ?_⟩
    have : ¬ (⟨r⟩ : Array Value).size = 1 := fun e => by
      have e : r.length = 1 := e
      rw [h.1] at e
      obtain ⟨x, hx⟩ := List.length_eq_one_iff.1 e
      exact hne x hx
    rw [dif_neg this]
    exact VR.tuple_of h
  · rename_i heq; cases heq

/-- the deferred blocks of a frame's loops are taken, one behind the other -/
theorem undefer_steps (hE : EnvOk E) : ∀ {d : List Nat} {H H1 : Heap} {ρ : Rho} {w : World} {fr : Frame} {cs : List Frame}, undefer d H = some H1 → DR ρ d fr.defers → fr.mode = .returning → HR E.ng ρ H w →
    ∃ w1, Steps E.P (lone fr cs w) (lone { fr with defers := [] } cs w1) ∧ HR E.ng ρ H1 w1 ∧ Ext ρ H w ρ H1 w1
  | [], H, H1, ρ, w, fr, cs, hu, hd, hm, h => by
    cases hu
    have : fr.defers = [] := by cases hfd : fr.defers with | nil => rfl | cons _ _ => rw [hfd] at hd; cases hd
    have e : { fr with defers := [] } = fr := by rw [← this]
    rw [e]
    exact ⟨w, Steps.refl _ _, h, Ext.refl _ _ _⟩
  | b :: d, H, H1, ρ, w, fr, cs, hu, hd, hm, h => by
    have hu : (match H.get b with | .deferred true => undefer d (H.set b (.deferred false)) | _ => none) = some H1 := hu
    cases hb : H.get b <;> rw [hb] at hu <;> try (cases hu; done)
    rename_i op
    cases op with
    | false => cases hu
    | true =>
      have hu : undefer d (H.set b (.deferred false)) = some H1 := hu
      cases hfd : fr.defers with
      | nil => rw [hfd] at hd; cases hd
      | cons x ds =>
        rw [hfd] at hd
        cases hd with
        | cons hr hds =>
          rename_i r
          have hobj := h.obj b
          rw [hb] at hobj
          obtain ⟨r', hr', hw⟩ := hobj
          rw [hr] at hr'; cases hr'
          simp only [if_true] at hw
          have hlt := (Array.getElem?_eq_some_iff.1 hw).1
          have halive : H.get b ≠ .none := by rw [hb]; simp
          have htake : (Instr.takeDeferred r).run E.P w = .ok [] (withObj w r (.deferred none)) := by
            simp only [Instr.takeDeferred, Sem.run_bind]
            have hg : (getObj r).run E.P w = .ok (.deferred (some [])) w := by simp [getObj, Sem.run, hw]
            have hs : (setObj r (.deferred none)).run E.P w = .ok () (withObj w r (.deferred none)) := by simp [setObj, Sem.run, hw]; rfl
            simp only [hg, Result.andThen, Sem.run_bind, hs]
            rfl
          have hstep : Go.step E.P (lone fr cs w) = .next (lone { fr with defers := ds } cs (withObj w r (.deferred none))) := by
            refine step_lone_go ?_
            have : stepG E.P true { frame := fr, callers := cs, status := .running, dying := none } w = unwind E.P true fr cs none w := by simp [stepG, hm]
            rw [this]
            simp [unwind, hfd, Sem.runT_eq, htake, GStep.bare_after]
          have h2 : HR E.ng ρ (H.set b (.deferred false)) (withObj w r (.deferred none)) :=
            h.setObj halive hr (fun c hc => by rw [withObj_heap _ _ _ _ hlt, if_neg hc]) ⟨r, hr, by rw [withObj_heap _ _ _ _ hlt, if_pos rfl]; rfl⟩
          have he : Ext ρ H w ρ (H.set b (.deferred false)) (withObj w r (.deferred none)) :=
            { le := ρ.le_refl, size := by rw [withObj_size]; exact Nat.le_refl _, keep := fun c _ hn => by rw [withObj_heap _ _ _ _ hlt, if_neg (fun e => hn ⟨b, _, halive, hr, e.symm⟩)], range := fun c hh => .inr (Held.set halive hh),
              dom := fun _ _ hq => .inl hq, next := by rw [Heap.next_set]; exact Nat.le_refl _, tape := rfl, os := rfl, output := rfl }
          obtain ⟨w1, g1, g2, g3⟩ := undefer_steps hE (fr := { fr with defers := ds }) (cs := cs) hu hds hm h2
          exact ⟨w1, Steps.head hstep g1, g2, he.trans g3⟩

theorem leave_fn (hG : EnvGood E) (h : HR E.ng ρ H w) {c : Cx} {d : List Nat} {t : Tr Value} {fr : Frame} {cs : List Frame} {v' : Value} (hfn : fr.fn = c.fn) (hm : fr.mode = .returning) (hk : fr.kind = .normal) (hro : fr.roundOf = none) (htr : TR ρ fr.tmps t c.nt) (hd : DR ρ d fr.defers)
    (hl : leaveFn E.tt t (E.ft.get none c.fn) (undefer d H) = .ok v' H') :
    ∃ v w' fr', Steps E.P (lone fr cs w) (lone fr' cs w') ∧ fr'.fn = fr.fn ∧ fr'.leaving E.P w' (.returned v) ∧ VR ρ v v' ∧ HR E.ng ρ H' w' ∧ Ext ρ H w ρ H' w' := by
  cases hf : E.ft.get none c.fn with
  | none => rw [hf] at hl; cases hl
  | some fn =>
    rw [hf] at hl
    cases hu : undefer d H with
    | none => rw [hu] at hl; cases hl
    | some H1 =>
      rw [hu] at hl
      simp only [leaveFn] at hl
      obtain ⟨w1, g1, g2, g3⟩ := undefer_steps hG.toEnvOk (fr := fr) (cs := cs) hu hd hm h
      cases hr : resultA E.tt H1 t fn.results.toList with
      | none => rw [hr] at hl; cases hl
      | some r' =>
        rw [hr] at hl
        obtain ⟨r, k1, k2⟩ := results_rel hG.toEnvOk g2 htr hr
        obtain ⟨rfl, k3⟩ := tuple_rel k2 hl
        refine ⟨_, w1, { fr with defers := [] }, g1, rfl, ⟨hm, rfl, hk, fn, by rw [← hG.ft _ _ hf, hfn], ?_⟩, k3, g2, g3⟩
        have hres : results fn fr.tmps = (do let vs ← fn.results.mapM (resSem fr.tmps); pure (if h : vs.size = 1 then vs[0] else .tuple vs)) := rfl
        rw [hres, Array.mapM_eq_mapM_toList]
        simp [k1, Result.andThen]
end Ex

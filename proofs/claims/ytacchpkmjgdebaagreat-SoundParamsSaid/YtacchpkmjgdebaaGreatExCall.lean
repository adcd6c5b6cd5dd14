/- A verified executor for closed Go calls, part of it: its lemmas carry no condition. -/
import Derived.Test.YtacchpkmjgdebaaGreatExZ
set_option linter.unusedVariables false
set_option linter.unusedSimpArgs false
namespace Ex
open Go
variable {E : Env} {ρ ρ' : Rho} {H H' : Heap} {w w' : World} {ex : Ex}

/-- what a call leaves behind, by what stands for it -/
def Left (E : Env) (ρ : Rho) (H : Heap) (w : World) (v' : Value) (H' : Heap) (e : Ending) (w' : World) : Prop :=
  ∃ ρ' v, e = .returned v ∧ VR ρ' v v' ∧ HR E.ng ρ' H' w' ∧ Ext ρ H w ρ' H' w'

theorem call_sound (hG : EnvGood E) (hex : SoundEx E ex) {f : FuncId} {args args' : List Value} {v' : Value} (ho : E.ovr f = none) (hb : ∃ fn c, E.ft.get none f = some fn ∧ fn.body = some c) (hc : callA E ex H f args' = .ok v' H')
    (h : HR E.ng ρ H w) (ha : LR ρ args args') : Calls E.P f ⟨args⟩ w (Left E ρ H w v' H') := by
  intro cs
  unfold callA at hc
  rw [ho] at hc
  obtain ⟨fn, c, hfn, hb⟩ := hb
  simp only [callFn, hfn] at hc
  have hpf := hG.ft f fn hfn
  rw [hb] at hc
  simp only [enterA] at hc
  cases hle : Nat.ble args'.length fn.ntmps with
  | false => rw [hle] at hc; cases hc
  | true =>
    rw [hle] at hc
    have hle := Nat.le_of_ble_eq_true hle
    simp only at hc
    rw [← ha.1] at hle
    have hent : Frame.enter E.P f ⟨args⟩ .normal = { fn := f, tmps := (⟨args⟩ : Array Value) ++ Array.replicate (fn.ntmps - args.length) undef, todo := [.code c], defers := [], mode := .run, kind := .normal } := by
      simp [Frame.enter, hpf, hb]
    have hfr : FrR ρ ⟨f, fn.ntmps, none⟩ [] [.code c] (setArgs (Tr.full Undef (depthOf fn.ntmps)) 0 args') (Frame.enter E.P f ⟨args⟩ .normal) := by
      rw [hent]
      exact ⟨rfl, rfl, rfl, enter_TR hle ha, .code c .nil, .nil, rfl⟩
    obtain ⟨ρ', v, w', g1, g2⟩ := hex _ _ _ _ _ _ _ hc ρ _ w cs hfr h
    obtain ⟨fr', s1, s2, s3⟩ := g1.1 (by rw [hent])
    refine ⟨.returned v, w', fr', ⟨ρ', v, rfl, g2⟩, s1, ?_, s3⟩
    rw [s2, hent]

/-- a call that starts from nothing -/
def Fresh (w w' : World) : Prop := w'.os = w.os ∧ w'.output = w.output ∧ w'.tape = w.tape ∧ w.heap.size ≤ w'.heap.size ∧ ∀ c, c < w.heap.size → w'.heap[c]? = w.heap[c]?
theorem Fresh.refl (w : World) : Fresh w w := ⟨rfl, rfl, rfl, Nat.le_refl _, fun _ _ => rfl⟩
theorem Fresh.trans {w1 w2 w3 : World} (h : Fresh w1 w2) (h' : Fresh w2 w3) : Fresh w1 w3 :=
  ⟨h'.1.trans h.1, h'.2.1.trans h.2.1, h'.2.2.1.trans h.2.2.1, Nat.le_trans h.2.2.2.1 h'.2.2.2.1, fun c hc => (h'.2.2.2.2 c (Nat.lt_of_lt_of_le hc h.2.2.2.1)).trans (h.2.2.2.2 c hc)⟩

theorem Fresh.kept {w w' : World} (h : Fresh w w') (may : MemPlace → Prop) : w.keptBut w' may := by
  refine ⟨h.1, h.2.1, fun i hi => ?_⟩
  rw [h.2.2.2.2 i hi]
  cases w.heap[i]? with
  | none => rfl
  | some o =>
    cases o <;> first
      | rfl
      | exact ⟨rfl, rfl, rfl, fun _ _ => rfl⟩
      | exact .inr ⟨rfl, rfl⟩
theorem Fresh.frozen {w w' : World} (h : Fresh w w') (a : Addr) (ha : a.block < w.heap.size) : w'.frozen? a = w.frozen? a := by
  simp only [World.frozen?, h.2.2.2.2 _ ha]

/-- an empty heap with room for 2^d things -/
def wide (d n : Nat) : Heap := .mk (Tr.full .none d) n
theorem wide_get (d n b : Nat) : (wide d n).get b = .none := by
  show Tr.get AObj.none (Tr.full AObj.none d) b = AObj.none
  exact Tr.get_full _ _ _
theorem wide_HR {ng d n : Nat} (w : World) (hf : ∀ b, n ≤ b → ρ b = none) (hg : ∀ g, g < ng → ∃ z, ρ g = some ⟨g, 0, z, 0⟩) : HR ng ρ (wide d n) w where
  obj b := by rw [wide_get]; trivial
  inj b _ _ _ h := absurd (wide_get d n b) h
  fresh := hf
  glob := hg
theorem wide_held {d n c : Nat} (h : Held ρ (wide d n) c) : False := by
  obtain ⟨b, _, h1, _⟩ := h
  exact h1 (wide_get d n b)

/-- a closed call, seen from nothing -/
theorem closed_sound (hG : EnvGood E) {n d : Nat} {f : FuncId} {v' : Value} (ho : E.ovr f = none) (hb : ∃ fn c, E.ft.get none f = some fn ∧ fn.body = some c) (hf : free v' = true) (hc : callA E (run E n) (wide d E.ng) f [] = .ok v' H') (w : World) :
    Calls E.P f #[] w fun e w' => e = .returned v' ∧ Fresh w w' := by
  let ρ0 : Rho := fun g => if g < E.ng then some ⟨g, 0, 0, 0⟩ else none
  have h0 : HR E.ng ρ0 (wide d E.ng) w := wide_HR w (fun b hb => if_neg (by omega)) (fun g hg => ⟨0, if_pos hg⟩)
  refine (call_sound hG (run_sound hG n) ho hb hc h0 (LR.nil ρ0)).mono fun e w' ⟨ρ', v, he, hv, _, hx⟩ => ?_
  rw [free_eq hv hf] at he
  exact ⟨he, hx.os, hx.output, hx.tape, hx.size, fun c hc => hx.keep c hc wide_held⟩
/-- the executor's tables, made of the program's own -/
noncomputable def envOf (P : Program) (n m ng : Nat) (ext : FuncId → ExtK) (ovr : FuncId → Option (Heap → List Value → Out)) : Env := { P := P, tt := Tr.ofList n P.types.toList, ft := Tr.ofList m P.funcs.toList, ng := ng, ext := ext, ovr := ovr }
theorem envOf_ft {P : Program} {m : Nat} {f : FuncId} {fn : Func} (h : (Tr.ofList m P.funcs.toList).get none f = some fn) : P.funcs[f]? = some fn := by
  have := Tr.get_ofList _ _ _ _ h
  rwa [Array.getElem?_toList] at this
theorem envOf_ok (P : Program) (n m ng : Nat) (ext : FuncId → ExtK) (ovr : FuncId → Option (Heap → List Value → Out)) : EnvOk (envOf P n m ng ext ovr) where
  tt t i h := by
    have := Tr.get_ofList n P.types.toList t i h
    rw [Array.getElem?_toList] at this
    show P.info? t = some i
    unfold Tables.info?
    rw [if_pos (Array.getElem?_eq_some_iff.1 this).1]
    exact this
  ft f fn h := envOf_ft h
theorem envOf_nog {P : Program} {m : Nat} (hn : (P.funcs.toList.all fun fn => (fn.name == "runtime.NumGoroutine") == false) = true) (f : FuncId) (fn : Func) (h : (Tr.ofList m P.funcs.toList).get none f = some fn) : (fn.name == "runtime.NumGoroutine") = false := by
  have h1 := envOf_ft h
  have h2 := List.all_eq_true.1 hn fn (by
    have h3 : P.funcs.toList[f]? = some fn := by rw [Array.getElem?_toList]; exact h1
    exact List.mem_of_getElem? h3)
  simpa using h2
end Ex

/- slices.Insert of this program, walked: what each road of it leaves behind. -/
import Derived.Test.YtacchpkmjgdebaaGreatInsF
import Derived.Test.YtacchpkmjgdebaaGreatExIns2
set_option linter.unusedSimpArgs false
set_option linter.unusedVariables false
namespace Go.Proofs.YtacchpkmjgdebaaGreat
open Go Go.Shelf Go.RowKit Go.Lib Go.Proofs Ex

theorem walks53 : InsWalks Tryz.prog 53 2 120 where
  shift w c q n cap i vb vo m vc cells e fr old new h1 h2 h3 h4 h5 h6 h7 h8 h9 h10 h11 h12 h13 h14 tA tB kA kB h15 h16 h17 h18 h19 :=
    ins53_shift w h1 h2 h3 h4 h5 h6 h7 h8 h9 h10 h11 h12 h13 h14 tA tB kA kB h15 h16 h17 h18 h19
  grow w c q n cap i vb vo m vc cells e fr old new h1 h2 h3 h4 h5 h6 h7 h8 h9 h10 h11 h12 :=
    (ins53_grow w (vc := vc) h1 h2 h3 h4 h5 h6 h7 h8 h9 h10 h11 h12).mono fun x w' ⟨ROW, G, a⟩ => ⟨ROW, G, 119, a⟩
  atEnd w w1 c q n cap vb vo m vc r h1 h2 h3 := ins53_end w w1 h1 h2 h3
theorem walks55 : InsWalks Tryz.prog 55 1 103 where
  shift w c q n cap i vb vo m vc cells e fr old new h1 h2 h3 h4 h5 h6 h7 h8 h9 h10 h11 h12 h13 h14 tA tB kA kB h15 h16 h17 h18 h19 := by
    simp only [Nat.mul_one] at *
    exact ins55_shift w h1 h2 h3 h4 h5 h6 h7 h8 h9 h10 h11 h12 h13 h14 tA tB kA kB h15 h16 h17 h18 h19
  grow w c q n cap i vb vo m vc cells e fr old new h1 h2 h3 h4 h5 h6 h7 h8 h9 h10 h11 h12 := by
    simp only [Nat.mul_one] at *
    exact (ins55_grow w (vc := vc) h1 h2 h3 h4 h5 h6 h7 h8 h9 h10 h11 h12).mono fun x w' ⟨ROW, G, a⟩ => ⟨ROW, G, 120, a⟩
  atEnd w w1 c q n cap vb vo m vc r h1 h2 h3 := ins55_end w w1 h1 h2 h3

/-- a contract that has been proved serves the executor -/
theorem ovr_of_calls {P : Program} {f : FuncId} {args : List Value} {w : World} {Q : World → World → Value → Prop} (hf : (callFunc f ⟨args⟩).run P w = .ok (.enter f ⟨args⟩) w)
    (h : Calls P f ⟨args⟩ w fun x w' => ∃ v, x = .returned v ∧ Q w w' v) :
    (callFunc f ⟨args⟩).run P w = .ok (.enter f ⟨args⟩) w ∧ ∀ cs, ∃ v w' fr, Steps P (lone (Frame.enter P f ⟨args⟩ .normal) cs w) (lone fr cs w') ∧ fr.fn = f ∧ fr.leaving P w' (.returned v) ∧ Q w w' v := by
  refine ⟨hf, fun cs => ?_⟩
  obtain ⟨e, w', fr, ⟨v, rfl, hq⟩, h1, h2, h3⟩ := h cs
  exact ⟨v, w', fr, h1, h2, h3, hq⟩
theorem enters {P : Program} {f : FuncId} {fn : Func} (hf : P.funcs[f]? = some fn) (hn : (fn.name == "runtime.NumGoroutine") = false) (hb : fn.body.isNone = false) (args : List Value) (w : World) : (callFunc f ⟨args⟩).run P w = .ok (.enter f ⟨args⟩) w := by
  have h1 : fn.name ≠ "runtime.NumGoroutine" := by simpa using hn
  have h2 : fn.body ≠ none := fun e => by rw [e] at hb; cases hb
  simp [callFunc, hf, h1, h2]
theorem E1ok : EnvOk E1 := envOf_ok _ _ _ _ _ _
theorem size53 : appSize E1.tt 120 = some 2 := by decide +kernel
theorem size55 : appSize E1.tt 103 = some 1 := by decide +kernel
theorem nint53 : isInt (E1.tt.und 120) = some false := by decide +kernel
theorem nint55 : isInt (E1.tt.und 103) = some false := by decide +kernel
theorem good1 : EnvGood E1 where
  toEnvOk := E1ok
  nog f fn h := envOf_nog (m := 12) nogs f fn h
  cmp f h a b w w' v hr := cmp_run f h a b w w' v hr
  add f h a b w w' v hr := add_run f h a b w w' v hr
  ovr f g hg args args' ρ H w v' H' h ha hc := by
    have hg : ovr1 f = some g := hg
    unfold ovr1 at hg
    split at hg
    · cases hg
      obtain ⟨a, b⟩ := ovr_of_calls (Q := fun w w' v => ∃ ρ', VR ρ' v v' ∧ HR E1.ng ρ' H' w' ∧ Ext ρ H w ρ' H' w') (enters Tryz.func53 (by kernel_rfl) (by kernel_rfl) _ _) ((insert_sound E1ok walks53 size53 nint53 h ha hc).mono fun x w1 ⟨ρ', v, a, b⟩ => ⟨v, a, ρ', b⟩)
      exact ⟨a, fun cs => let ⟨v, w', fr, c1, c2, c3, ρ', c4⟩ := b cs; ⟨ρ', v, w', fr, c1, c2, c3, c4⟩⟩
    · cases hg
      obtain ⟨a, b⟩ := ovr_of_calls (Q := fun w w' v => ∃ ρ', VR ρ' v v' ∧ HR E1.ng ρ' H' w' ∧ Ext ρ H w ρ' H' w') (enters Tryz.func55 (by kernel_rfl) (by kernel_rfl) _ _) ((insert_sound E1ok walks55 size55 nint55 h ha hc).mono fun x w1 ⟨ρ', v, a, b⟩ => ⟨v, a, ρ', b⟩)
      exact ⟨a, fun cs => let ⟨v, w', fr, c1, c2, c3, ρ', c4⟩ := b cs; ⟨ρ', v, w', fr, c1, c2, c3, c4⟩⟩
    · cases hg
end Go.Proofs.YtacchpkmjgdebaaGreat

/- A verified executor for closed Go calls, part of it: its lemmas carry no condition. -/
import Derived.Test.YtacchpkmjgdebaaGreatExE
set_option linter.unusedVariables false
set_option linter.unusedSimpArgs false
namespace Ex
open Go
variable {E : Env} {ρ ρ' : Rho} {H H' : Heap} {w w' : World}

def Goes (P : Program) (s : Sem Next) (w : World) (v : Value) (w' : World) : Prop := s.run P w = .ok (.value v) w' ∨ (s.run P w = .ok .skip w' ∧ v = undef)
def OpRes (E : Env) (ρ : Rho) (H : Heap) (w : World) (s : Sem Next) (v' : Value) (H' : Heap) : Prop :=
  ∃ ρ' v w', Goes E.P s w v w' ∧ VR ρ' v v' ∧ HR E.ng ρ' H' w' ∧ Ext ρ H w ρ' H' w'

theorem run_v {P : Program} {s : Sem Value} {x : Value} (h : s.run P w = .ok x w') : (do pure (Next.value (← s)) : Sem Next).run P w = .ok (.value x) w' := by
  show (s >>= fun a => pure (Next.value a)).run P w = _
  simp [Sem.run_bind, h, Result.andThen]
theorem run_u {P : Program} {s : Sem Unit} (h : s.run P w = .ok () w') : (do s; pure Next.skip : Sem Next).run P w = .ok .skip w' := by
  show (s >>= fun _ => pure Next.skip).run P w = _
  simp [Sem.run_bind, h, Result.andThen]

theorem OpRes.val (h : HR E.ng ρ H w) {s : Sem Next} {v v' : Value} (hs : s.run E.P w = .ok (.value v) w) (hv : VR ρ v v') : OpRes E ρ H w s v' H :=
  ⟨ρ, v, w, .inl hs, hv, h, Ext.refl _ _ _⟩

theorem oval_inv {o : Option Value} {v' : Value} (h : oval H o = .ok v' H') : o = some v' ∧ H' = H := by
  cases o <;> simp [oval] at h; exact ⟨by simp [h.1], h.2.symm⟩

theorem VR.undef : VR ρ undef Undef := .tuple [] [] rfl (by simp)

mutual
theorem VR.of_free (ρ : Rho) : ∀ v, free v = true → VR ρ v v
  | .bool b, _ => .bool b
  | .int k n, _ => .int k n
  | .float k n, _ => .float k n
  | .complex k a b, _ => .complex k a b
  | .string s, _ => .string s
  | .pointer none, _ => .pnil
  | .pointer (some a), h => by simp [free] at h
  | .slice none l c, h => by
    simp [free] at h
    obtain ⟨rfl, rfl⟩ := h
    exact .snil
  | .slice (some a) l c, h => by simp [free] at h
  | .map none, _ => .mnil
  | .map (some a), h => by simp [free] at h
  | .chan none, _ => .cnil
  | .chan (some a), h => by simp [free] at h
  | .func f a b, h => by simp [free] at h
  | .nilFunc, _ => .nilFunc
  | .iface t v, h => .iface t (VR.of_free ρ v (by simpa [free] using h))
  | .nilIface, _ => .nilIface
  | .agg ⟨l⟩, h => .agg l l rfl (LR.of_free ρ l (by simpa [free, freeA] using h))
  | .tuple ⟨l⟩, h => .tuple l l rfl (LR.of_free ρ l (by simpa [free, freeA] using h))
theorem LR.of_free (ρ : Rho) : ∀ l, freeL l = true → ∀ (i : Nat) u v, l[i]? = some u → l[i]? = some v → VR ρ u v
  | [], _ => by simp
  | x :: l, h => by
    simp only [freeL, Bool.and_eq_true] at h
    intro i u v a b
    cases i with
    | zero => simp at a b; subst a; subst b; exact VR.of_free ρ x h.1
    | succ i => exact LR.of_free ρ l h.2 i u v (by simpa using a) (by simpa using b)
end

theorem pureRun_run {α : Type} {P : Program} : ∀ {s : Sem α} {a : α}, pureRun P s = some a → ∀ w, s.run P w = .ok a w
  | .pure a, _, h, _ => by simp only [pureRun, Option.some.injEq] at h; subst h; rfl
  | .program k, _, h, w => pureRun_run (s := k P) h w
  | .mark m k, _, h, w => pureRun_run (s := k) h w
  | .load .., _, h, _ | .store .., _, h, _ | .new .., _, h, _ | .shape .., _, h, _ | .freeze .., _, h, _ | .frozen .., _, h, _ | .getObj .., _, h, _ | .setObj .., _, h, _
  | .choose .., _, h, _ | .sys .., _, h, _ | .halt _, _, h, _ => by simp [pureRun] at h

theorem opValue_inv {n : Option Next} {v : Value} (h : opValue n = some v) : n = some (.value v) ∧ free v = true := by
  cases n with
  | none => simp [opValue] at h
  | some x =>
    cases x <;> simp only [opValue] at h
    case value u =>
      unfold freeV at h
      cases hf : free u <;> rw [hf] at h <;> simp at h
      subst h; exact ⟨rfl, hf⟩
    all_goals cases h

/-- values without addresses are what they stand for -/
theorem free_operands {ev : Operand → Value} {t : Tr Value} {x : Operand} (h : VR ρ (ev x) (evA t x)) (hf : free (evA t x) = true) : ev x = evA t x := free_eq h hf

theorem pureOp_sound {ev : Operand → Value} {t : Tr Value} {o : Oper} {v' : Value} (h : HR E.ng ρ H w) (hs : ∀ cs b, o.op ≠ .select cs b) (hev : ∀ x ∈ o.op.operands, ev x = evA t x)
    (hp : opValue (pureRun E.P (execOp (evA t) o)) = some v') : OpRes E ρ H w (execOp ev o) v' H := by
  obtain ⟨h1, h2⟩ := opValue_inv hp
  refine OpRes.val h ?_ (VR.of_free ρ _ h2)
  rw [execOp_congr o hs hev]
  exact pureRun_run h1 w

/-! numbers -/
theorem lim_pos (k : IntKind) : 0 < lim k := by cases k <;> decide
theorem wrap_small {k : IntKind} {n : Nat} (h : n < lim k) : k.wrap (n : Int) = n := by
  cases k <;> simp only [lim] at h <;> simp only [IntKind.wrap, IntKind.bits, IntKind.signed] <;> simp <;> omega
theorem fit_eq (k : IntKind) (n : Nat) : fit k n = .int k (k.wrap (n : Int)) := by
  unfold fit
  cases hb : Nat.blt n (lim k) with
  | true =>
    have : n < lim k := by simpa [Nat.blt_eq] using hb
    show Value.int k (Int.ofNat n) = _
    rw [wrap_small this]; rfl
  | false =>
    show big k n = _
    cases k <;> simp only [big] <;> first
      | rfl
      | (congr 1; simp only [IntKind.wrap, IntKind.bits, IntKind.signed]; simp; rfl)
end Ex

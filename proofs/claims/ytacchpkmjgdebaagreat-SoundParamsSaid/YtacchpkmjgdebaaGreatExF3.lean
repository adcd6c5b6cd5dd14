/- A verified executor for closed Go calls, part of it: its lemmas carry no condition. -/
import Derived.Test.YtacchpkmjgdebaaGreatExF2
set_option linter.unusedVariables false
set_option linter.unusedSimpArgs false
namespace Ex
open Go
variable {E : Env} {ρ ρ' : Rho} {H H' : Heap} {w w' : World}

theorem eqGuard_other {P : Program} {op : BinOp} {t : TypeId} {x y : Operand} {a b : Value} (h : ∀ (u v : Array Value), ¬ (a = .agg u ∧ b = .agg v)) (h' : ¬ (a = .nilIface ∧ b = .nilIface)) (w : World) :
    (eqGuard op t x y a b).run P w = .ok () w := by
  unfold eqGuard
  cases op <;> first
    | rfl
    | (simp only [Bool.not_true, Bool.false_eq_true, if_false]
       split
       · exact absurd ⟨rfl, rfl⟩ h'
       · exact absurd ⟨rfl, rfl⟩ (h _ _)
       · rfl)

theorem run_bin {P : Program} {op : BinOp} {t : TypeId} {x y : Operand} {a b v : Value} {w : World} (hg : (eqGuard op t x y a b).run P w = .ok () w) (hb : (Go.binOp op t a b).run P w = .ok v w) :
    (do eqGuard op t x y a b; Go.binOp op t a b : Sem Value).run P w = .ok v w := by
  show (eqGuard op t x y a b >>= fun _ => Go.binOp op t a b).run P w = _
  simp only [Sem.run_bind, hg, Result.andThen, hb]

section
variable {P : Program} {t : TypeId} (d : Nat)
theorem eq_p1 {e : TypeId} (hu : P.underlying t = some (.pointer e)) (a : Addr) (w : World) : (Op.equalIn (d + 1) t (.pointer (some a)) (.pointer none)).run P w = .ok false w := by simp [Op.equalIn, run_underlying hu]
theorem eq_p2 {e : TypeId} (hu : P.underlying t = some (.pointer e)) (a : Addr) (w : World) : (Op.equalIn (d + 1) t (.pointer none) (.pointer (some a))).run P w = .ok false w := by simp [Op.equalIn, run_underlying hu]
theorem eq_s1 {e : TypeId} (hu : P.underlying t = some (.slice e)) (a : Addr) (l c l' c' : Nat) (w : World) : (Op.equalIn (d + 1) t (.slice (some a) l c) (.slice none l' c')).run P w = .ok false w := by simp [Op.equalIn, run_underlying hu]
theorem eq_s2 {e : TypeId} (hu : P.underlying t = some (.slice e)) (a : Addr) (l c l' c' : Nat) (w : World) : (Op.equalIn (d + 1) t (.slice none l' c') (.slice (some a) l c)).run P w = .ok false w := by simp [Op.equalIn, run_underlying hu]
theorem eq_f1 {x y : Array TypeId} {z : Bool} (hu : P.underlying t = some (.func x y z)) (f : Fn) (a b : Array Value) (w : World) : (Op.equalIn (d + 1) t (.func f a b) .nilFunc).run P w = .ok false w := by simp [Op.equalIn, run_underlying hu]
theorem eq_f2 {x y : Array TypeId} {z : Bool} (hu : P.underlying t = some (.func x y z)) (f : Fn) (a b : Array Value) (w : World) : (Op.equalIn (d + 1) t .nilFunc (.func f a b)).run P w = .ok false w := by simp [Op.equalIn, run_underlying hu]
theorem eq_i1 {m : Array (String × TypeId)} (hu : P.underlying t = some (.interface m)) (k : TypeId) (v : Value) (w : World) : (Op.equalIn (d + 1) t (.iface k v) .nilIface).run P w = .ok false w := by simp [Op.equalIn, run_underlying hu]
theorem eq_i2 {m : Array (String × TypeId)} (hu : P.underlying t = some (.interface m)) (k : TypeId) (v : Value) (w : World) : (Op.equalIn (d + 1) t .nilIface (.iface k v)).run P w = .ok false w := by simp [Op.equalIn, run_underlying hu]
end

theorem VR.int_inv {v : Value} {k : IntKind} {n : Int} (h : VR ρ v (.int k n)) : v = .int k n := by cases h; rfl
theorem VR.bool_inv {v : Value} {b : Bool} (h : VR ρ v (.bool b)) : v = .bool b := by cases h; rfl
theorem VR.string_inv {v : Value} {s : ByteArray} (h : VR ρ v (.string s)) : v = .string s := by cases h; rfl
/-- neither a number nor a string, nor both nil, nor both structs -/
def Apart (x y : Value) : Prop := (∀ (u v : Array Value), ¬ (x = .agg u ∧ y = .agg v)) ∧ ¬ (x = .nilIface ∧ y = .nilIface) ∧ (∀ k n, x ≠ .int k n) ∧ (∀ s, x ≠ .string s) ∧ (∀ k n, x ≠ .float k n) ∧ (∀ k n m, x ≠ .complex k n m)
theorem nilEq_sound (hE : EnvOk E) {t : TypeId} {x x' y y' : Value} {r : Bool} (hx : VR ρ x x') (hy : VR ρ y y') (h : nilEq (E.tt.und t) x' y' = some r) (w : World) :
    (Op.equal t x y).run E.P w = .ok r w ∧ Apart x y := by
  unfold nilEq at h
  split at h
  · rename_i e hd
    have hu := und_eq hE hd
    split at h <;> cases h
    · cases hx; cases hy; exact ⟨eq_p1 9999 hu _ w, by simp [Apart]⟩
    · cases hx; cases hy; exact ⟨eq_p2 9999 hu _ w, by simp [Apart]⟩
  · rename_i e hd
    have hu := und_eq hE hd
    split at h <;> cases h
    · cases hx <;> cases hy <;> exact ⟨eq_s1 9999 hu _ _ _ _ _ w, by simp [Apart]⟩
    · cases hx <;> cases hy <;> exact ⟨eq_s2 9999 hu _ _ _ _ _ w, by simp [Apart]⟩
  · rename_i e hd
    have hu := und_eq hE hd
    split at h <;> cases h
    · cases hx; cases hy; exact ⟨eq_f1 9999 hu _ _ _ w, by simp [Apart]⟩
    · cases hx; cases hy; exact ⟨eq_f2 9999 hu _ _ _ w, by simp [Apart]⟩
  · rename_i e hd
    have hu := und_eq hE hd
    split at h <;> cases h
    · cases hx; cases hy; exact ⟨eq_i1 9999 hu _ _ w, by simp [Apart]⟩
    · cases hx; cases hy; exact ⟨eq_i2 9999 hu _ _ w, by simp [Apart]⟩
  · cases h

theorem binOp_eql {P : Program} {t : TypeId} {x y : Value} {r : Bool} (hr : (Op.equal t x y).run P w = .ok r w) (ha : Apart x y) : (Go.binOp .eql t x y).run P w = .ok (.bool r) w := by
  obtain ⟨h1, h2, h3, h4, h5, h6⟩ := ha
  have : Go.binOp .eql t x y = (do pure (.bool (← Op.equal t x y))) := by
    cases x <;> first
      | exact absurd rfl (h3 _ _)
      | exact absurd rfl (h4 _)
      | exact absurd rfl (h5 _ _)
      | exact absurd rfl (h6 _ _ _)
      | (cases y <;> simp [Go.binOp])
  rw [this]
  show (Op.equal t x y >>= fun b => pure (Value.bool b)).run P w = _
  simp [hr, Result.andThen]
theorem binOp_neq {P : Program} {t : TypeId} {x y : Value} {r : Bool} (hr : (Op.equal t x y).run P w = .ok r w) (ha : Apart x y) : (Go.binOp .neq t x y).run P w = .ok (.bool !r) w := by
  obtain ⟨h1, h2, h3, h4, h5, h6⟩ := ha
  have : Go.binOp .neq t x y = (do pure (.bool (!(← Op.equal t x y)))) := by
    cases x <;> first
      | exact absurd rfl (h3 _ _)
      | exact absurd rfl (h4 _)
      | exact absurd rfl (h5 _ _)
      | exact absurd rfl (h6 _ _ _)
      | (cases y <;> simp [Go.binOp])
  rw [this]
  show (Op.equal t x y >>= fun b => pure (Value.bool !b)).run P w = _
  simp [hr, Result.andThen]

theorem bin_sound (hE : EnvOk E) (h : HR E.ng ρ H w) {ev : Operand → Value} {t : Tr Value} {o : Oper} {op : BinOp} {ty ty' : TypeId} {x y : Operand} {v' : Value} (ho : o.op = .binOp op ty x y ty')
    (hx : VR ρ (ev x) (evA t x)) (hy : VR ρ (ev y) (evA t y)) (hb : binA E.P t o op (E.tt.und ty) (evA t x) (evA t y) = some v') : OpRes E ρ H w (execOp ev o) v' H := by
  have hexec : execOp ev o = (do pure (Next.value (← (do eqGuard op ty x y (ev x) (ev y); Go.binOp op ty (ev x) (ev y) : Sem Value)))) := by
    obtain ⟨dst, op', type, pos, after, guard⟩ := o
    simp only at ho; subst ho; rfl
  have slow : binSlow E.P t o op (E.tt.und ty) (evA t x) (evA t y) = some v' → OpRes E ρ H w (execOp ev o) v' H := by
    intro hs
    unfold binSlow at hs
    cases hf : (free (evA t x) && free (evA t y)) with
    | true =>
      rw [hf] at hs
      simp only [Bool.and_eq_true] at hf
      refine pureOp_sound h (by rw [ho]; simp) (fun z hz => ?_) hs
      rw [ho] at hz
      simp [Op.operands] at hz
      rcases hz with rfl | rfl
      · exact free_operands hx hf.1
      · exact free_operands hy hf.2
    | false =>
      rw [hf] at hs
      simp only at hs
      cases op <;> simp only [nilBin] at hs <;> try (cases hs; done)
      · cases hn : nilEq (E.tt.und ty) (evA t x) (evA t y) with
        | none => rw [hn] at hs; cases hs
        | some r =>
          rw [hn] at hs
          simp only [omap, Option.some.injEq] at hs
          subst hs
          obtain ⟨h1, h2⟩ := nilEq_sound hE hx hy hn w
          exact OpRes.val h (by rw [hexec]; exact run_v (run_bin (eqGuard_other h2.1 h2.2.1 w) (binOp_eql h1 h2))) (.bool _)
      · cases hn : nilEq (E.tt.und ty) (evA t x) (evA t y) with
        | none => rw [hn] at hs; cases hs
        | some r =>
          rw [hn] at hs
          simp only [omap, Option.some.injEq] at hs
          subst hs
          obtain ⟨h1, h2⟩ := nilEq_sound hE hx hy hn w
          exact OpRes.val h (by rw [hexec]; exact run_v (run_bin (eqGuard_other h2.1 h2.2.1 w) (binOp_neq h1 h2))) (.bool _)
  unfold binA at hb
  split at hb
  · rename_i k a ex
    split at hb
    · rename_i k' b ey
      rw [ex] at hx; rw [ey] at hy
      have h1 : ev x = .int k (a : Int) := hx.int_inv
      have h2 : ev y = .int k' (b : Int) := hy.int_inv
      cases hn : binNat op k k' a b with
      | none => rw [hn] at hb; exact slow hb
      | some u =>
        rw [hn] at hb
        simp only [orElse, Option.some.injEq] at hb
        subst hb
        have hr : (Go.binOp op ty (.int k (a : Int)) (.int k' (b : Int))).run E.P w = .ok u w ∧ free u = true := by
          unfold binNat at hn
          cases hsh : isShift op with
          | true => rw [hsh] at hn; exact natShift_sound hn ty w
          | false =>
            rw [hsh] at hn
            simp only at hn
            split at hn
            · rename_i hk
              have : k = k' := by simpa using hk
              subst this
              exact natBin_sound hsh hn ty w
            · cases hn
        refine OpRes.val h ?_ (VR.of_free ρ _ hr.2)
        rw [hexec, h1, h2]
        exact run_v (run_bin (eqGuard_other (by simp) (by simp) w) hr.1)
    · exact slow hb
  · exact slow hb
end Ex

/- A verified executor for closed Go calls, part of it: its lemmas carry no condition. -/
import Derived.Test.YtacchpkmjgdebaaGreatExF
set_option linter.unusedVariables false
set_option linter.unusedSimpArgs false
namespace Ex
open Go
variable {E : Env} {ρ ρ' : Rho} {H H' : Heap} {w w' : World}

theorem free_fit (k : IntKind) (n : Nat) : free (fit k n) = true := by rw [fit_eq]; rfl
theorem both_inv {k : IntKind} {a b : Nat} {v v' : Value} (h : both k a b v = some v') : a < lim k ∧ b < lim k ∧ v' = v := by
  unfold both at h
  cases hb : (Nat.blt a (lim k) && Nat.blt b (lim k)) with
  | false => rw [hb] at h; cases h
  | true =>
    rw [hb] at h
    simp only [Bool.and_eq_true, Nat.blt_eq] at hb
    exact ⟨hb.1, hb.2, (Option.some.inj h).symm⟩
theorem bits_lim (k : IntKind) : lim k ≤ 2 ^ k.bits := by cases k <;> simp [lim, IntKind.bits]
theorem lim_pow (k : IntKind) : ∃ n, lim k = 2 ^ n := by
  cases k
  · exact ⟨7, rfl⟩
  · exact ⟨15, rfl⟩
  · exact ⟨31, rfl⟩
  · exact ⟨63, rfl⟩
  · exact ⟨8, rfl⟩
  · exact ⟨16, rfl⟩
  · exact ⟨32, rfl⟩
  · exact ⟨64, rfl⟩
theorem cmp_sound {P : Program} {op : BinOp} {k : IntKind} {a b : Nat} {c c' : Bool} (t : TypeId) (w : World) (hop : Go.binOp op t (.int k (a : Int)) (.int k (b : Int)) = Op.intCmp op a b)
    (hc : Op.intCmp op (a : Int) b = pure (.bool c')) (e : c' = c) : (Go.binOp op t (.int k (a : Int)) (.int k (b : Int))).run P w = .ok (.bool c) w ∧ free (.bool c) = true := by
  rw [hop, hc, e]; exact ⟨rfl, rfl⟩

theorem natBin_sound {P : Program} {op : BinOp} {k : IntKind} {a b : Nat} {v' : Value} (hsh : isShift op = false) (h : natBin op k a b = some v') (t : TypeId) (w : World) :
    (Go.binOp op t (.int k (a : Int)) (.int k (b : Int))).run P w = .ok v' w ∧ free v' = true := by
  cases op <;> simp only [natBin] at h <;> simp only [isShift] at hsh <;> try (cases hsh; done)
  case add => cases h; exact ⟨by rw [fit_eq]; simp [Go.binOp, Op.intArith], free_fit _ _⟩
  case mul => cases h; exact ⟨by rw [fit_eq]; simp [Go.binOp, Op.intArith], free_fit _ _⟩
  case sub =>
    cases hb : Nat.ble b a with
    | false => rw [hb] at h; cases h
    | true =>
      rw [hb] at h
      have hle : b ≤ a := Nat.le_of_ble_eq_true hb
      cases h
      refine ⟨?_, free_fit _ _⟩
      rw [fit_eq]
      simp [Go.binOp, Op.intArith]
      congr 2
      show _ = ((a - b : Nat) : Int)
      omega
  case quo =>
    cases hb : Nat.beq b 0 with
    | true => rw [hb] at h; cases h
    | false =>
      rw [hb] at h
      have hne : b ≠ 0 := fun e => by rw [e] at hb; cases hb
      cases h
      refine ⟨?_, free_fit _ _⟩
      rw [fit_eq]
      simp [Go.binOp, Op.intDiv, hne]
      rfl
  case rem =>
    cases hb : Nat.beq b 0 with
    | true => rw [hb] at h; cases h
    | false =>
      rw [hb] at h
      have hne : b ≠ 0 := fun e => by rw [e] at hb; cases hb
      cases h
      refine ⟨?_, rfl⟩
      simp [Go.binOp, Op.intDiv, hne]
      rfl
  case and =>
    obtain ⟨ha, hb, rfl⟩ := both_inv h
    refine ⟨?_, rfl⟩
    have h1 := Nat.mod_eq_of_lt (Nat.lt_of_lt_of_le ha (bits_lim k))
    have h2 := Nat.mod_eq_of_lt (Nat.lt_of_lt_of_le hb (bits_lim k))
    have h3 : Nat.land a b < lim k := Nat.lt_of_le_of_lt Nat.and_le_left ha
    simp [Go.binOp, Op.intBits, h1, h2]
    exact wrap_small h3
  case or =>
    obtain ⟨ha, hb, rfl⟩ := both_inv h
    refine ⟨?_, rfl⟩
    have h1 := Nat.mod_eq_of_lt (Nat.lt_of_lt_of_le ha (bits_lim k))
    have h2 := Nat.mod_eq_of_lt (Nat.lt_of_lt_of_le hb (bits_lim k))
    have h3 : Nat.lor a b < lim k := by
      obtain ⟨n, hn⟩ := lim_pow k
      rw [hn] at ha hb ⊢
      exact Nat.or_lt_two_pow ha hb
    simp [Go.binOp, Op.intBits, h1, h2]
    exact wrap_small h3
  case eql =>
    cases h
    refine cmp_sound (c' := ((a : Int) == b)) t w (by simp [Go.binOp]) rfl ?_
    rw [Bool.eq_iff_iff]; simp [Nat.beq_eq]; omega
  case neq =>
    cases h
    refine cmp_sound (c' := ((a : Int) != b)) t w (by simp [Go.binOp]) rfl ?_
    cases hb : Nat.beq a b with
    | true => have := Nat.eq_of_beq_eq_true hb; subst this; simp
    | false => have : a ≠ b := fun e => by subst e; simp at hb
               simp; omega
  case lss =>
    cases h
    refine cmp_sound (c' := decide ((a : Int) < b)) t w (by simp [Go.binOp]) rfl ?_
    rw [Bool.eq_iff_iff]; simp [Nat.blt_eq]
  case leq =>
    cases h
    refine cmp_sound (c' := decide ((a : Int) ≤ b)) t w (by simp [Go.binOp]) rfl ?_
    rw [Bool.eq_iff_iff]; simp
  case gtr =>
    cases h
    refine cmp_sound (c' := decide ((a : Int) > b)) t w (by simp [Go.binOp]) rfl ?_
    rw [Bool.eq_iff_iff]; simp [Nat.blt_eq]
  case geq =>
    cases h
    refine cmp_sound (c' := decide ((a : Int) ≥ b)) t w (by simp [Go.binOp]) rfl ?_
    rw [Bool.eq_iff_iff]; simp
  all_goals cases h

theorem bitsA_eq (k : IntKind) : bitsA k = k.bits := by cases k <;> rfl
theorem natShift_sound {P : Program} {op : BinOp} {k k' : IntKind} {a b : Nat} {v' : Value} (h : natShift op k a b = some v') (t : TypeId) (w : World) :
    (Go.binOp op t (.int k (a : Int)) (.int k' (b : Int))).run P w = .ok v' w ∧ free v' = true := by
  cases op <;> simp only [natShift] at h
  case shl =>
    cases h
    refine ⟨?_, free_fit _ _⟩
    rw [fit_eq]
    have hneg : ¬ ((b : Int) < 0) := by omega
    simp [Go.binOp, Op.shift, hneg, bitsA_eq, Nat.shiftLeft_eq]
  case shr =>
    cases h
    refine ⟨?_, rfl⟩
    have hneg : ¬ ((b : Int) < 0) := by omega
    simp [Go.binOp, Op.shift, hneg, bitsA_eq, Nat.shiftRight_eq_div_pow]
    rw [Int.fdiv_eq_ediv_of_nonneg _ (Int.le_of_lt (Int.pow_pos (by decide)))]
  all_goals cases h
end Ex

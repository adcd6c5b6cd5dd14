/- A verified executor for closed Go calls, part of it: its lemmas carry no condition. -/
import Derived.Test.YtacchpkmjgdebaaGreatExI
set_option linter.unusedVariables false
set_option linter.unusedSimpArgs false
namespace Ex
open Go
variable {E : Env} {ρ ρ' : Rho} {H H' : Heap} {w w' : World}

inductive OR (ρ : Rho) : Option Value → Option Value → Prop
  | none : OR ρ none none
  | some {v v' : Value} (h : VR ρ v v') : OR ρ (some v) (some v')

theorem boundA_some {ρ : Rho} {v v' : Value} {d most n : Nat} (hv : VR ρ v v') (h : boundA (some v') d most = some n) : n ≤ most ∧ ∃ k, v = .int k (n : Int) := by
  unfold boundA at h
  split at h
  · rename_i heq; cases heq
  · rename_i k m heq
    cases heq
    cases hb : Nat.ble m most with
    | false => rw [hb] at h; cases h
    | true => rw [hb] at h; cases h; exact ⟨Nat.le_of_ble_eq_true hb, k, hv.int_inv⟩
  · cases h

theorem run_bound {P : Program} {k : IntKind} {n y : Nat} (h : n ≤ y) (code : BoundsCode) (w : World) : (Instr.sliceBound (.int k (n : Int)) y code).run P w = .ok n w := by
  have h1 : (0 : Int) ≤ (n : Int) ∧ (n : Int) ≤ (y : Int) := by omega
  simp [Instr.sliceBound, asIntOf, Result.andThen, h]

/-- what a slicing's three numbers come to; m': the row's own end where none is given -/
theorem bounds_sound {P : Program} {lo hi mx lo' hi' mx' : Option Value} {len cap c l h m : Nat} (hlo : OR ρ lo lo') (hhi : OR ρ hi hi') (hmx : OR ρ mx mx') (hb : boundsA lo' hi' mx' len cap = some (l, h, m)) (hc : cap ≤ c) (sl : Bool) (w : World) :
    l ≤ h ∧ h ≤ m ∧ m ≤ cap ∧ ∃ m', (Instr.sliceBounds sl len c lo hi mx).run P w = .ok (l, h, m') w ∧ m ≤ m' ∧ m' ≤ c ∧ (c = cap → m' = m) := by
  unfold boundsA at hb
  cases hmx with
  | none =>
    simp only [bounds1] at hb
    cases hh : boundA hi' len cap with
    | none => rw [hh] at hb; cases hb
    | some h1 =>
      rw [hh] at hb
      simp only [bounds2] at hb
      cases hl : boundA lo' 0 h1 with
      | none => rw [hl] at hb; cases hb
      | some l1 =>
        rw [hl] at hb
        simp only [bounds3] at hb
        cases hle : Nat.ble h1 cap with
        | false => rw [hle] at hb; cases hb
        | true =>
          rw [hle] at hb
          cases hb
          have hle := Nat.le_of_ble_eq_true hle
          cases hhi with
          | none =>
            cases hh
            cases hlo with
            | none => cases hl; exact ⟨Nat.zero_le _, hle, Nat.le_refl _, c, by simp [Instr.sliceBounds], hc, Nat.le_refl _, fun e => e⟩
            | some hv =>
              obtain ⟨h2, k, rfl⟩ := boundA_some hv hl
              exact ⟨h2, hle, Nat.le_refl _, c, by simp [Instr.sliceBounds, run_bound h2, Result.andThen], hc, Nat.le_refl _, fun e => e⟩
          | some hv2 =>
            obtain ⟨h3, k2, rfl⟩ := boundA_some hv2 hh
            cases hlo with
            | none => cases hl; exact ⟨Nat.zero_le _, hle, Nat.le_refl _, c, by simp [Instr.sliceBounds, run_bound (Nat.le_trans h3 hc), Result.andThen], hc, Nat.le_refl _, fun e => e⟩
            | some hv =>
              obtain ⟨h2, k, rfl⟩ := boundA_some hv hl
              exact ⟨h2, hle, Nat.le_refl _, c, by simp [Instr.sliceBounds, run_bound h2, run_bound (Nat.le_trans h3 hc), Result.andThen], hc, Nat.le_refl _, fun e => e⟩
  | some hvm =>
    simp only at hb
    cases hhi with
    | none => cases hb
    | some hv2 =>
      simp only [bounds1] at hb
      rename_i vm vm' vh vh'
      cases hm : boundA (some vm') cap cap with
      | none => rw [hm] at hb; cases hb
      | some m1 =>
        rw [hm] at hb
        simp only [bounds2] at hb
        obtain ⟨h5, k5, rfl⟩ := boundA_some hvm hm
        cases hh : boundA (some vh') len m1 with
        | none => rw [hh] at hb; cases hb
        | some h1 =>
          rw [hh] at hb
          simp only at hb
          obtain ⟨h3, k2, rfl⟩ := boundA_some hv2 hh
          cases hl : boundA lo' 0 h1 with
          | none => rw [hl] at hb; cases hb
          | some l1 =>
            rw [hl] at hb
            simp only [bounds3] at hb
            cases hle : Nat.ble h1 m1 with
            | false => rw [hle] at hb; cases hb
            | true =>
              rw [hle] at hb
              cases hb
              have hle := Nat.le_of_ble_eq_true hle
              cases hlo with
              | none => cases hl; exact ⟨Nat.zero_le _, hle, h5, m, by simp [Instr.sliceBounds, run_bound (Nat.le_trans h5 hc), run_bound h3, Result.andThen], Nat.le_refl _, Nat.le_trans h5 hc, fun _ => rfl⟩
              | some hv =>
                obtain ⟨h2, k, rfl⟩ := boundA_some hv hl
                exact ⟨h2, hle, h5, m, by simp [Instr.sliceBounds, run_bound h2, run_bound (Nat.le_trans h5 hc), run_bound h3, Result.andThen], Nat.le_refl _, Nat.le_trans h5 hc, fun _ => rfl⟩

theorem okRow_inv (h : HR E.ng ρ H w) {b size : Nat} {p : Pl} (hp : ρ b = some p) (ho : okRow (H.get b) size = true) : p.k = 0 ∨ p.k = size := by
  cases hb : H.get b <;> rw [hb] at ho <;> simp only [okRow] at ho <;> try (cases ho; done)
  rename_i cs k
  have hk := (h.cells hp hb).1
  cases k with
  | zero => exact .inl hk
  | succ k => exact .inr (by rw [hk]; exact Nat.eq_of_beq_eq_true ho)
theorem exactRow_inv (h : HR E.ng ρ H w) {b : Nat} {p : Pl} (hp : ρ b = some p) (ho : exactRow (H.get b) = true) : p.k = 0 := by
  cases hb : H.get b <;> rw [hb] at ho <;> simp only [exactRow] at ho <;> try (cases ho; done)
  rename_i cs k
  have hk := (h.cells hp hb).1
  cases k with
  | zero => exact hk
  | succ k => cases ho

theorem slAt_eq (b o size l h m : Nat) : slAt b o size (some (l, h, m)) = some (.slice (some ⟨b, if m = l then o else o + l * size, none⟩) (h - l) (m - l)) := by
  simp only [slAt]
  congr 3
  by_cases e : m = l
  · subst e; simp
  · rw [if_neg e]
    have : Nat.beq m l = false := by
      cases hb : Nat.beq m l with
      | false => rfl
      | true => exact absurd (Nat.eq_of_beq_eq_true hb) e
    rw [this]

theorem slice_sound (hE : EnvOk E) (h : HR E.ng ρ H w) {t : TypeId} {x x' v' : Value} {lo hi mx lo' hi' mx' : Option Value} (hx : VR ρ x x') (hlo : OR ρ lo lo') (hhi : OR ρ hi hi') (hmx : OR ρ mx mx')
    (hs : sliceA E.tt H t x' lo' hi' mx' = some v') : ∃ v, (Instr.sliceAt t x lo hi mx).run E.P w = .ok v w ∧ VR ρ v v' := by
  cases x' with
  | string bs =>
    obtain ⟨⟨s⟩⟩ := bs
    cases hmx with
    | some _ => cases hs
    | none =>
      have hs : (match E.tt.und t with | some .string => slStr s (boundsA lo' hi' none s.length s.length) | _ => none) = some v' := hs
      split at hs
      · rename_i hd
        have hu := und_eq hE hd
        rw [hx.string_inv]
        cases hb : boundsA lo' hi' none s.length s.length with
        | none => rw [hb] at hs; cases hs
        | some r =>
          obtain ⟨l, hh, m⟩ := r
          rw [hb] at hs
          obtain ⟨h1, h2, h3, m', h4, h5, h6, h7⟩ := bounds_sound (P := E.P) hlo hhi .none hb (Nat.le_refl _) false w
          simp only [slStr] at hs
          cases ht : takeL (hh - l) (dropL l s) with
          | none => rw [ht] at hs; cases hs
          | some x =>
            rw [ht] at hs
            cases hs
            rw [dropL_eq] at ht
            obtain ⟨hn, rfl⟩ := takeL_some ht
            refine ⟨.string ((⟨⟨s⟩⟩ : ByteArray).extract l hh), ?_, ?_⟩
            · have hsz : (⟨⟨s⟩⟩ : ByteArray).size = s.length := rfl
              simp [Instr.sliceAt, Instr.slice, run_underlying hu, Result.andThen, hsz, h4]
            · have : (⟨⟨s⟩⟩ : ByteArray).extract l hh = ⟨⟨(s.drop l).take (hh - l)⟩⟩ := by
                apply ByteArray.ext
                rw [ByteArray.data_extract]
                apply Array.ext'
                simp [List.extract_eq_take_drop]
              rw [this]; exact .string _
      · cases hs
  | slice a len cap =>
    have hs : slSl H (.slice a len cap) lo' hi' mx' (elemA E.tt t) = some v' := hs
    cases he : elemA E.tt t with
    | none => rw [he] at hs; cases hs
    | some e =>
      rw [he] at hs
      obtain ⟨hu, hsz⟩ := elemA_inv hE he
      obtain ⟨e, size⟩ := e
      simp only at hu hsz
      have hrun : ∀ (A : Option Addr) (L C l hh m : Nat), (Instr.sliceBounds true L C lo hi mx).run E.P w = .ok (l, hh, m) w →
          (Instr.sliceAt t (.slice A L C) lo hi mx).run E.P w = .ok (.slice (if m = l then A else A.map (·.add (l * size))) (hh - l) (m - l)) w := fun A L C l hh m hb => by
        simp [Instr.sliceAt, Instr.slice, run_underlying hu, Result.andThen, hb, run_sizeOf_eq hE hsz]
      cases a with
      | none =>
        have hs : slNil (boundsA lo' hi' mx' 0 0) = some v' := hs
        cases hb : boundsA lo' hi' mx' 0 0 with
        | none => rw [hb] at hs; cases hs
        | some r =>
          obtain ⟨l, hh, m⟩ := r
          rw [hb] at hs
          cases hs
          cases hx
          obtain ⟨h1, h2, h3, m', h4, h5, h6, h7⟩ := bounds_sound (P := E.P) hlo hhi hmx hb (Nat.le_refl 0) true w
          have hm0 : m = 0 := by omega
          have hm' : m' = 0 := by omega
          have hh0 : hh = 0 := by omega
          have hl0 : l = 0 := by omega
          subst hm0; subst hm'; subst hh0; subst hl0
          exact ⟨_, hrun _ _ _ _ _ _ h4, .snil⟩
      | some a =>
        obtain ⟨b, o, s⟩ := a
        have hs : (match okRow (H.get b) size with | true => slAt b o size (boundsA lo' hi' mx' len cap) | false => none) = some v' := hs
        cases ho : okRow (H.get b) size with
        | false => rw [ho] at hs; cases hs
        | true =>
          rw [ho] at hs
          simp only at hs
          cases hb : boundsA lo' hi' mx' len cap with
          | none => rw [hb] at hs; cases hs
          | some r =>
            obtain ⟨l, hh, m⟩ := r
            rw [hb, slAt_eq] at hs
            cases hs
            obtain ⟨p, hp, ⟨c, rfl, hc, h0, hk⟩ | ⟨a, c, rfl, rfl, rfl, hk⟩⟩ := slice_inv hx
            · obtain ⟨h1, h2, h3, m', h4, h5, h6, h7⟩ := bounds_sound (P := E.P) hlo hhi hmx hb hc true w
              refine ⟨_, hrun _ _ _ _ _ _ h4, ?_⟩
              rcases okRow_inv h hp ho with hk0 | hks
              · have hm : m' = m := h7 (h0 hk0)
                subst hm
                by_cases e : m' = l
                · rw [if_pos e, if_pos e]
                  exact .slice hp (Nat.le_refl _) (fun _ => rfl) (fun hne => absurd hk0 hne)
                · rw [if_neg e, if_neg e]
                  simp only [Option.map_some, addr_add, Nat.add_assoc]
                  exact .slice hp (Nat.le_refl _) (fun _ => rfl) (fun hne => absurd hk0 hne)
              · by_cases hk0 : p.k = 0
                · have hm : m' = m := h7 (h0 hk0)
                  subst hm
                  by_cases e : m' = l
                  · rw [if_pos e, if_pos e]
                    exact .slice hp (Nat.le_refl _) (fun _ => rfl) (fun hne => absurd hk0 hne)
                  · rw [if_neg e, if_neg e]
                    simp only [Option.map_some, addr_add, Nat.add_assoc]
                    exact .slice hp (Nat.le_refl _) (fun _ => rfl) (fun hne => absurd hk0 hne)
                · by_cases e : m = l
                  · have hh' : hh - l = 0 := by omega
                    have hml : m - l = 0 := by omega
                    rw [hh', hml, if_pos e]
                    by_cases e' : m' = l
                    · rw [if_pos e']; exact .sempty _ hp hk0
                    · rw [if_neg e']; exact .sempty _ hp hk0
                  · have hmm : m ≤ m' := by omega
                    have hmc : m' ≤ c := by omega
                    rw [if_neg e, if_neg (by omega)]
                    simp only [Option.map_some, addr_add, Nat.add_assoc]
                    refine .slice hp (by omega) (fun h => absurd h hk0) (fun _ => ?_)
                    have := hk hk0
                    rw [← hks]
                    have e1 : l * p.k + p.k * (m' - l) = p.k * m' := by
                      rw [Nat.mul_comm l, ← Nat.mul_add]; congr 1; omega
                    have e2 : p.k * m' ≤ p.k * c := Nat.mul_le_mul_left _ hmc
                    omega
            · obtain ⟨h1, h2, h3, m', h4, h5, h6, h7⟩ := bounds_sound (P := E.P) (c := c) hlo hhi hmx hb (Nat.zero_le _) true w
              have hm0 : m = 0 := by omega
              have hh0 : hh = 0 := by omega
              have hl0 : l = 0 := by omega
              subst hm0; subst hh0; subst hl0
              refine ⟨_, hrun _ _ _ _ _ _ h4, ?_⟩
              by_cases e' : m' = 0
              · rw [if_pos e', if_pos rfl]; exact .sempty _ hp hk
              · rw [if_neg e', if_pos rfl]; exact .sempty _ hp hk
  | pointer a =>
    have hs : slArr H (.pointer a) lo' hi' mx' (arrA E.tt t) = some v' := hs
    cases he : arrA E.tt t with
    | none => rw [he] at hs; cases hs
    | some e =>
      rw [he] at hs
      obtain ⟨hu, hsz⟩ := arrA_inv hE he
      obtain ⟨n, e, size⟩ := e
      simp only at hu hsz
      cases a with
      | none => cases hs
      | some a =>
        obtain ⟨b, o, s⟩ := a
        have hs : (match exactRow (H.get b) with | true => slAt b o size (boundsA lo' hi' mx' n n) | false => none) = some v' := hs
        cases ho : exactRow (H.get b) with
        | false => rw [ho] at hs; cases hs
        | true =>
          rw [ho] at hs
          simp only at hs
          obtain ⟨p, hp, rfl⟩ := ptr_inv hx
          have hk0 := exactRow_inv h hp ho
          cases hb : boundsA lo' hi' mx' n n with
          | none => rw [hb] at hs; cases hs
          | some r =>
            obtain ⟨l, hh, m⟩ := r
            rw [hb, slAt_eq] at hs
            cases hs
            obtain ⟨h1, h2, h3, m', h4, h5, h6, h7⟩ := bounds_sound (P := E.P) hlo hhi hmx hb (Nat.le_refl _) false w
            have hm : m' = m := h7 rfl
            subst hm
            refine ⟨.slice (some ⟨p.c, p.s + (if m' = l then o else o + l * size), none⟩) (hh - l) (m' - l), ?_, .slice hp (Nat.le_refl _) (fun _ => rfl) (fun hne => absurd hk0 hne)⟩
            by_cases e : m' = l
            · simp [Instr.sliceAt, run_underlying hu, Result.andThen, Instr.sureAddr, h4, run_sizeOf_eq hE hsz, e]
            · simp [Instr.sliceAt, run_underlying hu, Result.andThen, Instr.sureAddr, h4, run_sizeOf_eq hE hsz, e, addr_add, Nat.add_assoc]
  | _ => cases hs
end Ex

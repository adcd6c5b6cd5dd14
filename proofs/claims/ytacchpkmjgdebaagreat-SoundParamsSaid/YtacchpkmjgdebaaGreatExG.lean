/- A verified executor for closed Go calls, part of it: its lemmas carry no condition. -/
import Derived.Test.YtacchpkmjgdebaaGreatExF3
set_option linter.unusedVariables false
set_option linter.unusedSimpArgs false
namespace Ex
open Go
variable {E : Env} {ρ ρ' : Rho} {H H' : Heap} {w w' : World}

theorem OpRes.ofSem (h : HR E.ng ρ H w) {s : Sem Next} {sv : Sem Value} {v v' : Value} (hs : s = (do pure (Next.value (← sv)))) (hr : sv.run E.P w = .ok v w) (hv : VR ρ v v') : OpRes E ρ H w s v' H :=
  OpRes.val h (by rw [hs]; exact run_v hr) hv

theorem pick_sound (h : HR E.ng ρ H w) {c a b c' a' b' v' : Value} (hc : VR ρ c c') (ha : VR ρ a a') (hb : VR ρ b b') (hp : asBoolA c' a' b' = some v') :
    OpRes E ρ H w (do pure (Next.value (if ← asBool c then a else b))) v' H := by
  unfold asBoolA at hp
  split at hp <;> cases hp
  · rw [hc.bool_inv]; exact OpRes.val h rfl ha
  · rw [hc.bool_inv]; exact OpRes.val h rfl hb

theorem nilCk_inv {x' v' : Value} (hp : nilCk x' = some v') : v' = x' := by
  unfold nilCk at hp
  split at hp <;> simp_all

theorem extract_sound {x x' v' : Value} {i : Nat} (hx : VR ρ x x') (hp : extractV x' i = some v') (P : Program) (w : World) : ∃ v, (Instr.extract x i).run P w = .ok v w ∧ VR ρ v v' := by
  unfold extractV at hp
  split at hp
  · rename_i vs
    rw [nth_eq] at hp
    cases hx with
    | tuple l l' hl hh =>
      obtain ⟨v, h1, h2⟩ := LR.get (ρ := ρ) ⟨hl, hh⟩ hp
      refine ⟨v, ?_, h2⟩
      have : ((⟨l⟩ : Array Value)[i]? : Option Value) = some v := by simpa using h1
      simp [Instr.extract, this]
  · cases hp

theorem part_sound (hE : EnvOk E) {t : TypeId} {cs cs' : List Value} {off : Nat} {v' : Value} (hc : LR ρ cs cs') (hp : partA E.tt t cs' off = some v') (w : World) :
    ∃ v, (part t ⟨cs⟩ off).run E.P w = .ok v w ∧ VR ρ v v' := by
  unfold partA shapeA at hp
  cases ha : isAggA E.tt t with
  | none => rw [ha] at hp; cases hp
  | some g =>
    rw [ha] at hp
    cases g with
    | true =>
      simp only at hp
      cases hs : sizeA E.tt t with
      | none => rw [hs] at hp; cases hp
      | some n =>
        rw [hs] at hp
        simp only [partOf] at hp
        cases ht : takeL n (dropL off cs') with
        | none => rw [ht] at hp; cases hp
        | some l' =>
          rw [ht] at hp
          simp only [omap, Option.some.injEq] at hp
          subst hp
          rw [dropL_eq] at ht
          obtain ⟨hn, rfl⟩ := takeL_some ht
          refine ⟨.agg ⟨(cs.drop off).take n⟩, ?_, VR.agg_of ((hc.drop off).take n)⟩
          simp only [part, Sem.run_bind, run_isAgg_eq hE ha, run_sizeOf_eq hE hs, Result.andThen, if_true]
          show Result.ok _ w = _
          congr 2
          apply Array.ext'
          simp [Array.toList_extract, List.extract_eq_take_drop]
    | false =>
      simp only [partOf] at hp
      rw [nth_eq] at hp
      obtain ⟨v, h1, h2⟩ := hc.get hp
      refine ⟨v, ?_, h2⟩
      have : ((⟨cs⟩ : Array Value)[off]? : Option Value) = some v := by simpa using h1
      simp [part, run_isAgg_eq hE ha, Result.andThen, this]

theorem fieldOf_inv (hE : EnvOk E) {t : TypeId} {i : Nat} {f : TypeId × Nat × Nat} (h : fieldOf E.tt t i = some f) :
    ∃ fs fd, E.P.underlying t = some (.struct fs) ∧ fs[i]? = some fd ∧ f = (fd.type, fd.offset, f.2.2) ∧ sizeA E.tt fd.type = some f.2.2 := by
  unfold fieldOf at h
  split at h
  · rename_i fs hu
    split at h
    · rename_i fd hf
      split at h
      · rename_i n hs
        cases h
        exact ⟨fs, fd, und_eq hE hu, hf, rfl, hs⟩
      · cases h
    · cases h
  · cases h

theorem field_sound (hE : EnvOk E) {t : TypeId} {x x' v' : Value} {i : Nat} (hx : VR ρ x x') (hp : fieldV E.tt x' (fieldOf E.tt t i) = some v') (w : World) :
    ∃ v, (Instr.field t x i).run E.P w = .ok v w ∧ VR ρ v v' := by
  cases hf : fieldOf E.tt t i with
  | none => rw [hf] at hp; cases hp
  | some f =>
    obtain ⟨fs, fd, hu, hfd, hfe, hs⟩ := fieldOf_inv hE hf
    obtain ⟨ty, off, n⟩ := f
    simp only [Prod.mk.injEq] at hfe
    obtain ⟨rfl, rfl, -⟩ := hfe
    rw [hf] at hp
    simp only [fieldV] at hp
    split at hp
    · rename_i cs'
      cases hx with
      | agg l l' hl hh =>
        obtain ⟨v, h1, h2⟩ := part_sound (ρ := ρ) hE ⟨hl, hh⟩ hp w
        refine ⟨v, ?_, h2⟩
        simp only [Instr.field, Sem.run_bind, run_underlying hu, Result.andThen, hfd, asAgg, Sem.run_pure]
        exact h1
    · cases hp

theorem fieldAddr_sound (hE : EnvOk E) {t : TypeId} {x x' v' : Value} {i : Nat} (hx : VR ρ x x') (hp : fieldAddrV x' (fieldOf E.tt t i) = some v') (w : World) :
    ∃ v, (Instr.fieldAt t x i).run E.P w = .ok v w ∧ VR ρ v v' := by
  cases hf : fieldOf E.tt t i with
  | none => rw [hf] at hp; cases hp
  | some f =>
    obtain ⟨fs, fd, hu, hfd, hfe, hs⟩ := fieldOf_inv hE hf
    obtain ⟨ty, off, n⟩ := f
    simp only [Prod.mk.injEq] at hfe
    obtain ⟨rfl, rfl, -⟩ := hfe
    rw [hf] at hp
    simp only [fieldAddrV] at hp
    split at hp
    · rename_i b o s
      cases hn : Nat.beq n 0 with
      | true => rw [hn] at hp; cases hp
      | false =>
        rw [hn] at hp
        have hne : n ≠ 0 := fun e => by rw [e] at hn; cases hn
        obtain ⟨p, hp2, rfl⟩ := ptr_inv hx
        cases hp
        refine ⟨.pointer (some ⟨p.c, p.s + (o + fd.offset), none⟩), ?_, .ptr hp2⟩
        simp only [Instr.fieldAt, Sem.run_bind, run_underlying hu, Result.andThen, hfd, Instr.sureAddr, Sem.run_pure, fieldPlace, run_sizeOf_eq hE hs, hne, if_false, addr_add, Nat.add_assoc]
    · cases hp

theorem elemA_inv (hE : EnvOk E) {t : TypeId} {e : TypeId × Nat} (h : elemA E.tt t = some e) : E.P.underlying t = some (.slice e.1) ∧ sizeA E.tt e.1 = some e.2 := by
  unfold elemA at h
  split at h
  · rename_i el hu
    split at h
    · rename_i n hs; cases h; exact ⟨und_eq hE hu, hs⟩
    · cases h
  · cases h
theorem arrA_inv (hE : EnvOk E) {t : TypeId} {e : Nat × TypeId × Nat} (h : arrA E.tt t = some e) : E.P.underlying t = some (.array e.1 e.2.1) ∧ sizeA E.tt e.2.1 = some e.2.2 := by
  unfold arrA at h
  split at h
  · rename_i l el hu
    split at h
    · rename_i n hs; cases h; exact ⟨und_eq hE hu, hs⟩
    · cases h
  · cases h

theorem natOf_inv {v v' : Value} {n : Nat} (hv : VR ρ v v') (h : natOf v' = some n) : ∃ k, v = .int k (n : Int) := by
  unfold natOf at h
  split at h
  · cases h; exact ⟨_, hv.int_inv⟩
  · cases h

theorem idxIn_inv {i len : Nat} {v v' : Value} (h : idxIn i len v = some v') : i < len ∧ v' = v := by
  unfold idxIn at h
  cases hb : Nat.blt i len with
  | false => rw [hb] at h; cases h
  | true => rw [hb] at h; exact ⟨by simpa [Nat.blt_eq] using hb, (Option.some.inj h).symm⟩

theorem slice_inv {v : Value} {b o len cap : Nat} {s : Option Nat} (h : VR ρ v (.slice (some ⟨b, o, s⟩) len cap)) :
    ∃ p, ρ b = some p ∧ ((∃ c, v = .slice (some ⟨p.c, p.s + o, none⟩) len c ∧ cap ≤ c ∧ (p.k = 0 → c = cap) ∧ (p.k ≠ 0 → o + p.k * c ≤ p.z)) ∨ (∃ a c, v = .slice (some a) 0 c ∧ len = 0 ∧ cap = 0 ∧ p.k ≠ 0)) := by
  cases h with
  | slice hp hc h0 hk => exact ⟨_, hp, .inl ⟨_, rfl, hc, h0, hk⟩⟩
  | sempty a hp hk => exact ⟨_, hp, .inr ⟨a, _, rfl, rfl, rfl, hk⟩⟩

theorem indexAddr_sound (hE : EnvOk E) {t : TypeId} {x x' i i' v' : Value} (hx : VR ρ x x') (hi : VR ρ i i') (hp : idxAddr1 E.tt t x' (natOf i') = some v') (w : World) :
    ∃ v, (Instr.indexAt t x i).run E.P w = .ok v w ∧ VR ρ v v' := by
  cases hn : natOf i' with
  | none => rw [hn] at hp; cases hp
  | some n =>
    rw [hn] at hp
    obtain ⟨k, rfl⟩ := natOf_inv hi hn
    have array : idxArr x' n (arrA E.tt t) = some v' → ∃ v, (Instr.indexAt t x (.int k (n : Int))).run E.P w = .ok v w ∧ VR ρ v v' := by
      intro hp
      cases he : arrA E.tt t with
      | none => rw [he] at hp; cases hp
      | some e =>
        rw [he] at hp
        obtain ⟨hu, hs⟩ := arrA_inv hE he
        cases x' with
        | pointer a =>
          cases a with
          | none => cases hp
          | some a =>
            obtain ⟨b, o, s⟩ := a
            obtain ⟨hlt, rfl⟩ := idxIn_inv (show idxIn n e.1 _ = some v' from hp)
            obtain ⟨p, hp2, rfl⟩ := ptr_inv hx
            refine ⟨.pointer (some ⟨p.c, p.s + (o + n * e.2.2), none⟩), ?_, .ptr hp2⟩
            simp [Instr.indexAt, asIntOf, run_underlying hu, Result.andThen, Instr.sureAddr, run_sizeOf_eq hE hs, addr_add, Nat.add_assoc, hlt]
        | _ => cases hp
    cases x' with
    | slice a len cap =>
      have hp : idxSl (.slice a len cap) n (elemA E.tt t) = some v' := hp
      cases he : elemA E.tt t with
      | none => rw [he] at hp; cases hp
      | some e =>
        rw [he] at hp
        obtain ⟨hu, hs⟩ := elemA_inv hE he
        cases a with
        | none => cases hp
        | some a =>
          obtain ⟨b, o, s⟩ := a
          obtain ⟨hlt, rfl⟩ := idxIn_inv (show idxIn n len _ = some v' from hp)
          obtain ⟨p, hp2, ⟨c, rfl, -⟩ | ⟨a, c, -, h0, -⟩⟩ := slice_inv hx
          · refine ⟨.pointer (some ⟨p.c, p.s + (o + n * e.2), none⟩), ?_, .ptr hp2⟩
            simp [Instr.indexAt, asIntOf, run_underlying hu, Result.andThen, run_sizeOf_eq hE hs, addr_add, Nat.add_assoc, hlt]
          · omega
    | _ => exact array hp

theorem index_sound (hE : EnvOk E) {t : TypeId} {x x' i i' v' : Value} (hx : VR ρ x x') (hi : VR ρ i i') (hp : indexV E.tt t x' i' = some v') (w : World) :
    ∃ v, (Instr.index t x i).run E.P w = .ok v w ∧ VR ρ v v' := by
  cases x' with
  | agg arr =>
    obtain ⟨cs'⟩ := arr
    have hp : idxAgg E.tt cs' (natOf i') (arrA E.tt t) = some v' := hp
    cases he : arrA E.tt t with
    | none => rw [he] at hp; cases hp
    | some e =>
      rw [he] at hp
      obtain ⟨hu, hs⟩ := arrA_inv hE he
      obtain ⟨len, ty, size⟩ := e
      simp only [idxAgg] at hp
      cases hn : natOf i' with
      | none => rw [hn] at hp; cases hp
      | some n =>
        rw [hn] at hp
        obtain ⟨k, rfl⟩ := natOf_inv hi hn
        simp only at hp
        cases hb : Nat.blt n len with
        | false => rw [hb] at hp; cases hp
        | true =>
          rw [hb] at hp
          have hlt : n < len := by simpa [Nat.blt_eq] using hb
          cases hx with
          | agg l l' hl hh =>
            obtain ⟨v, h1, h2⟩ := part_sound (ρ := ρ) hE ⟨hl, hh⟩ hp w
            refine ⟨v, ?_, h2⟩
            simp only at hu hs
            simp [Instr.index, asIntOf, run_underlying hu, Result.andThen, run_sizeOf_eq hE hs, hlt, h1]
  | string bs =>
    obtain ⟨⟨s⟩⟩ := bs
    have hp : (match E.tt.und t with | some .string => idxStr s (natOf i') | _ => none) = some v' := hp
    split at hp
    · rename_i hd
      have hu := und_eq hE hd
      rw [hx.string_inv]
      cases hn : natOf i' with
      | none => rw [hn] at hp; cases hp
      | some n =>
        rw [hn] at hp
        obtain ⟨k, rfl⟩ := natOf_inv hi hn
        simp only [idxStr, nth_eq] at hp
        cases hb : s[n]? with
        | none => rw [hb] at hp; cases hp
        | some b =>
          rw [hb] at hp
          simp only [omap, Option.some.injEq] at hp
          subst hp
          refine ⟨ofByte b, ?_, VR.of_free ρ _ rfl⟩
          have hget : ((⟨⟨s⟩⟩ : ByteArray)[n]? : Option UInt8) = some b := by
            obtain ⟨hlt, e⟩ := List.getElem?_eq_some_iff.1 hb
            have hlt' : n < (⟨⟨s⟩⟩ : ByteArray).size := hlt
            rw [getElem?_pos (⟨⟨s⟩⟩ : ByteArray) n hlt']
            exact congrArg some e
          simp [Instr.index, asIntOf, run_underlying hu, Result.andThen, hget, ofByte]
    · cases hp
  | _ => cases hp
end Ex

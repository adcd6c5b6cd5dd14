/- A verified executor for closed Go calls, part of it: its lemmas carry no condition. -/
import Derived.Test.YtacchpkmjgdebaaGreatExH
set_option linter.unusedVariables false
set_option linter.unusedSimpArgs false
namespace Ex
open Go
variable {E : Env} {ρ ρ' : Rho} {H H' : Heap} {w w' : World}

theorem cellsV_eq (v : Value) : cellsV v = v.cells.toList := by cases v <;> rfl
theorem repl_get : ∀ (n : Nat) (z : List Value) (i : Nat), (repl n z)[i]? = if i < n * z.length then z[i % z.length]? else none
  | 0, z, i => by show ([] : List Value)[i]? = _; simp
  | n + 1, z, i => by
    show (z ++ repl n z)[i]? = _
    by_cases h : i < z.length
    · rw [List.getElem?_append_left h, if_pos (by rw [Nat.add_mul, Nat.one_mul]; omega), Nat.mod_eq_of_lt h]
    · rw [List.getElem?_append_right (by omega), repl_get n z]
      have h1 : (i - z.length) % z.length = i % z.length := by rw [← Nat.mod_eq_sub_mod (by omega)]
      by_cases h2 : i - z.length < n * z.length
      · rw [if_pos h2, if_pos (by rw [Nat.add_mul, Nat.one_mul]; omega), h1]
      · rw [if_neg h2, if_neg (by rw [Nat.add_mul, Nat.one_mul]; omega)]
theorem repl_length : ∀ (n : Nat) (z : List Value), (repl n z).length = n * z.length
  | 0, z => by show ([] : List Value).length = _; simp
  | n + 1, z => by
    show (z ++ repl n z).length = _
    rw [List.length_append, repl_length n z, Nat.add_mul, Nat.one_mul]; omega
/-- the model's row of zero values -/
theorem zeros_eq (n : Nat) (z : Array Value) (hz : 0 < z.size) : (Array.range (n * z.size)).map (fun i => z[i % z.size]!) = ⟨repl n z.toList⟩ := by
  apply Array.ext'
  apply List.ext_getElem?
  intro i
  rw [repl_get]
  simp only [Array.toList_map, Array.toList_range, List.getElem?_map, Array.length_toList, List.getElem?_range]
  by_cases h : i < n * z.size
  · have hm : i % z.size < z.size := Nat.mod_lt _ hz
    simp [h, hm]
  · simp [h]
theorem LR.repl {l l' : List Value} (h : LR ρ l l') : ∀ n, LR ρ (repl n l) (repl n l')
  | 0 => LR.nil ρ
  | n + 1 => h.append (LR.repl h n)

theorem zeros_inv (hE : EnvOk E) {t : TypeId} {n : Nat} {l : List Value} (h : zeros E.tt t n = some l) :
    ∃ i z, E.P.info? t = some i ∧ i.zero = some z ∧ z.cells.size = i.size ∧ 0 < i.size ∧ l = repl n z.cells.toList ∧ ∀ ρ, LR ρ l l := by
  unfold zeros at h
  cases hz : zeroA E.tt t with
  | none => rw [hz] at h; cases h
  | some z =>
    rw [hz] at h
    obtain ⟨i, hi, hzi, hf⟩ := zeroA_inv hE hz
    simp only at h
    cases hs : sizeA E.tt t with
    | none => rw [hs] at h; cases h
    | some s =>
      rw [hs] at h
      simp only [zeros2] at h
      obtain ⟨i', hi', hn⟩ := size_eq hE hs
      rw [hi] at hi'; cases hi'
      cases hb : (Nat.beq (cellsV z).length s && Nat.blt 0 s) with
      | false => rw [hb] at h; cases h
      | true =>
        rw [hb] at h
        cases h
        simp only [Bool.and_eq_true, Nat.blt_eq] at hb
        have h1 : (cellsV z).length = s := Nat.eq_of_beq_eq_true hb.1
        rw [cellsV_eq] at h1 ⊢
        refine ⟨i, z, hi, hzi, by rw [hn, ← h1]; simp, by rw [hn]; exact hb.2, rfl, fun ρ => ?_⟩
        have := cells_rel (VR.of_free ρ z hf)
        rw [cellsV_eq] at this
        exact this.repl n

theorem buildSlice_sound (hE : EnvOk E) (h : HR E.ng ρ H w) {t : TypeId} {len : Nat} {parts : Array (Nat × Value)} {parts' : List (Nat × Value)} {v' : Value} (hp : PR ρ parts.toList parts') (hb : bslA E.tt H len parts' (elemA E.tt t) = .ok v' H') :
    OpRes E ρ H w (do pure (Next.value (← Instr.buildSlice t len parts))) v' H' := by
  cases he : elemA E.tt t with
  | none => rw [he] at hb; cases hb
  | some e =>
    rw [he] at hb
    obtain ⟨hu, hs⟩ := elemA_inv hE he
    obtain ⟨e, size⟩ := e
    simp only at hu hs
    simp only [bslA] at hb
    cases hle : Nat.ble (len * size) 65536 with
    | false => rw [hle] at hb; cases hb
    | true =>
      rw [hle] at hb
      have hsm : len * size ≤ 65536 := Nat.le_of_ble_eq_true hle
      simp only at hb
      cases hz : zeros E.tt e len with
      | none => rw [hz] at hb; cases hb
      | some z =>
        rw [hz] at hb
        obtain ⟨i, z0, hi, hzi, hzs, hpos, rfl, hlr⟩ := zeros_inv hE hz
        obtain ⟨i', hi', hn⟩ := size_eq hE hs
        rw [hi] at hi'; cases hi'
        simp only [bslA2, rowA] at hb
        cases hfl : fillA (elemPlace size) parts' (repl len z0.cells.toList) with
        | none => rw [hfl] at hb; cases hb
        | some cs =>
          rw [hfl] at hb
          cases hb
          obtain ⟨r, g1, g2⟩ := fill_sound (place := fun i => some (i * size, size)) (cells := ⟨repl len z0.cells.toList⟩) (fun j x hx => hx) hp (hlr ρ) hfl
          obtain ⟨h1, h2⟩ := new_exact h e g2
          have hrun : (Instr.buildSlice t len parts).run E.P w = .ok (.slice (some ⟨w.heap.size, 0, none⟩) len len) (w.alloc (.cells ⟨r.toList⟩ e)) := by
            have hbig : ¬ (len * size > 2 ^ 24) := by omega
            simp only [Instr.buildSlice, Sem.run_bind, run_underlying hu, run_sizeOf_eq hE hs, Result.andThen, hbig, if_false]
            by_cases h0 : len * size = 0
            · have hlen : len = 0 := by
                rcases Nat.mul_eq_zero.1 h0 with h | h
                · exact h
                · omega
              subst hlen
              have g1' : Instr.fill (fun i => some (i * size, size)) #[] parts.toList = some r := g1
              simp only [h0, if_true, Sem.run_bind, Sem.run_pure, Result.andThen]
              rw [show (Array.map (fun x => (#[] : Array Value)[x % (#[] : Array Value).size]!) (Array.range 0)) = #[] from by simp, g1']
              rfl
            · have hrow : (Array.range (len * size)).map (fun i => z0.cells[i % z0.cells.size]!) = ⟨repl len z0.cells.toList⟩ := by
                rw [show len * size = len * z0.cells.size by rw [hzs, hn]]
                exact zeros_eq len z0.cells (by rw [hzs]; exact hpos)
              simp only [h0, if_false, Sem.run_bind, runZero hi hzi, Result.andThen, Sem.run_pure, hrow, g1]
              rfl
          refine ⟨_, _, _, .inl (run_v hrun), ?_, h1, h2⟩
          exact VR.slice (o := 0) (p := ⟨w.heap.size, 0, r.toList.length, 0⟩) (Rho.put_same _ _ _) (Nat.le_refl _) (fun _ => rfl) (fun h => absurd rfl h)

theorem makeSlice_sound (hE : EnvOk E) (h : HR E.ng ρ H w) {t : TypeId} {l l' c c' : Value} {v' : Value} (hl : VR ρ l l') (hc : VR ρ c c') (hb : mkSlA E.tt H t (natOf l') (natOf c') = .ok v' H') :
    OpRes E ρ H w (do pure (Next.value (← Instr.makeSlice t l c))) v' H' := by
  cases hnl : natOf l' with
  | none => rw [hnl] at hb; cases hb
  | some nl =>
    cases hnc : natOf c' with
    | none => rw [hnl, hnc] at hb; cases hb
    | some nc =>
      rw [hnl, hnc] at hb
      obtain ⟨k1, rfl⟩ := natOf_inv hl hnl
      obtain ⟨k2, rfl⟩ := natOf_inv hc hnc
      simp only [mkSlA] at hb
      cases he : elemA E.tt t with
      | none => rw [he] at hb; cases hb
      | some e =>
        rw [he] at hb
        obtain ⟨hu, hs⟩ := elemA_inv hE he
        obtain ⟨e, size⟩ := e
        simp only at hu hs
        simp only [mkSl2] at hb
        cases hle : (Nat.ble nl nc && Nat.ble nc 65536) with
        | false => rw [hle] at hb; cases hb
        | true =>
          rw [hle] at hb
          simp only [Bool.and_eq_true] at hle
          have h1 := Nat.le_of_ble_eq_true hle.1
          have h2 := Nat.le_of_ble_eq_true hle.2
          simp only at hb
          cases hi0 : E.tt.info e with
          | none => rw [hi0] at hb; cases hb
          | some i0 =>
            rw [hi0] at hb
            simp only at hb
            cases hby : Nat.ble i0.bytes 1024 with
            | false => rw [hby] at hb; cases hb
            | true =>
              rw [hby] at hb
              have h3 := Nat.le_of_ble_eq_true hby
              simp only at hb
              cases hz : zeros E.tt e nc with
              | none => rw [hz] at hb; cases hb
              | some z =>
                rw [hz] at hb
                obtain ⟨i, z0, hi, hzi, hzs, hpos, rfl, hlr⟩ := zeros_inv hE hz
                have hii := hE.tt e i0 hi0
                rw [hi] at hii; cases hii
                simp only [rowA] at hb
                cases hb
                obtain ⟨g1, g2⟩ := new_exact h e (hlr ρ)
                have hmul : i0.bytes * nc ≤ 1024 * 65536 := Nat.mul_le_mul h3 h2
                have hmul' : (i0.bytes : Int) * (nc : Int) ≤ 281474976710656 := by
                  have : ((i0.bytes * nc : Nat) : Int) ≤ ((1024 * 65536 : Nat) : Int) := Int.ofNat_le.2 hmul
                  rw [Int.natCast_mul] at this
                  omega
                have hrun := run_make (P := E.P) w t e i0 z0 hu hi hzi k1 k2 nl nc (by omega) (by omega) hmul' (by omega)
                have hm : madeCells z0.cells ((nc : Int).toNat * i0.size) = ⟨repl nc z0.cells.toList⟩ := by
                  rw [Int.toNat_natCast, ← hzs]
                  exact zeros_eq nc z0.cells (by rw [hzs]; exact hpos)
                rw [hm] at hrun
                refine ⟨_, _, _, .inl (run_v hrun), ?_, g1, g2⟩
                exact VR.slice (o := 0) (p := ⟨w.heap.size, 0, (repl nc z0.cells.toList).length, 0⟩) (Rho.put_same _ _ _) (Nat.le_of_eq (Int.toNat_natCast _).symm) (fun _ => Int.toNat_natCast _) (fun h => absurd rfl h)
end Ex

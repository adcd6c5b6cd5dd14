/- A verified executor for closed Go calls, part of it: its lemmas carry no condition. -/
import Derived.Test.YtacchpkmjgdebaaGreatExK
set_option linter.unusedVariables false
set_option linter.unusedSimpArgs false
namespace Ex
open Go
variable {E : Env} {ρ ρ' : Rho} {H H' : Heap} {w w' : World}

theorem isInt_inv (hE : EnvOk E) {u : TypeId} (h : isInt (E.tt.und u) = some false) : ∃ d, E.P.underlying u = some d ∧ ∀ k, d ≠ .int k := by
  cases hu : E.tt.und u with
  | none => rw [hu] at h; cases h
  | some d => rw [hu] at h; exact ⟨d, und_eq hE hu, fun k e => by subst e; cases h⟩

/-- a row moves on: what stood for it is dead, what stands for it now begins where the slice begins -/
theorem move_sound (h : HR E.ng ρ H w) {b o k n size : Nat} {p : Pl} {cs old' new' new : List Value} (hp : ρ b = some p) (hb : H.get b = .cells cs k) (hk : k ≠ 0) (hks : k = size) (hend : o + n * size = cs.length)
    (hold : old' = (cs.drop o).take (n * size)) (hn : LR ρ new new') (h1 : ∀ v ∈ new, oneCell v = true) (hfit : o + n * size + new.length ≤ p.z) :
    ∃ ρ' w', (storeCells ⟨p.c, p.s + o + n * size, none⟩ new).run E.P w = .ok () w' ∧ ρ' H.next = some ⟨p.c, p.s + o, p.z - o, k⟩ ∧ HR E.ng ρ' (newRowA (H.set b .none) (old' ++ new') k) w' ∧ Ext ρ H w ρ' (newRowA (H.set b .none) (old' ++ new') k) w' := by
  obtain ⟨hpk, hc⟩ := h.cells hp hb
  have halive : H.get b ≠ .none := by rw [hb]; simp
  obtain ⟨cells, e, fr, c1, c2, c3, c4, c5, c6⟩ := hc
  have hfit' : p.s + o + n * size + 0 + new.length ≤ cells.size := by rw [c2]; omega
  have hrun := run_store_cells (P := E.P) (p.s + o + n * size) new 0 cells w c1 hfit' (fun o ho => c5 o (.inl ho)) h1
  have hlt := (Array.getElem?_eq_some_iff.1 c1).1
  have hkill := h.kill halive
  have hnext : (H.set b .none).next = H.next := Heap.next_set _ _ _
  have hnotheld : ¬ Held ρ (H.set b .none) p.c := by
    rintro ⟨b', q, hb', hq, hqc⟩
    by_cases e : b' = b
    · subst e; rw [Heap.get_set_same H _ halive] at hb'; exact hb' rfl
    · rw [Heap.get_set_ne H _ e] at hb'
      exact e (h.inj b' b q p hb' halive hq hp hqc)
  have hother : ∀ c, c ≠ p.c → (withObj w p.c (.cells (splice cells (p.s + o + n * size + 0) new) e fr)).heap[c]? = w.heap[c]? := fun c hne => by
    rw [withObj_heap _ _ _ _ hlt, if_neg hne]
  have hle : ρ.le (ρ.put H.next ⟨p.c, p.s + o, p.z - o, k⟩) := Rho.le_put (h.fresh _ (Nat.le_refl _))
  have holdlen : old'.length = n * size := by rw [hold]; simp; omega
  have hobj : ObjAt (ρ.put H.next ⟨p.c, p.s + o, p.z - o, k⟩) (withObj w p.c (.cells (splice cells (p.s + o + n * size + 0) new) e fr)) H.next (.cells (old' ++ new') k) := by
    refine ⟨_, Rho.put_same _ _ _, rfl, _, e, fr, by rw [withObj_heap _ _ _ _ hlt, if_pos rfl], by rw [splice_size, c2]; simp only; omega, ?_, fun h0 => absurd h0 hk, by rw [splice_size]; exact fun o ho => c5 o (.inl (ho.resolve_right hk)), fun i v' hv => ?_⟩
    · simp only [List.length_append, holdlen, ← hn.1]; omega
    · simp only
      rw [splice_get _ _ _ _ hfit']
      by_cases hi : i < n * size
      · rw [List.getElem?_append_left (by omega), hold, List.getElem?_take_of_lt hi, List.getElem?_drop] at hv
        rw [if_neg (by omega)]
        obtain ⟨v, a, b'⟩ := c6 _ v' hv
        exact ⟨v, by rw [Nat.add_assoc]; exact a, b'.mono hle⟩
      · rw [List.getElem?_append_right (by omega), holdlen] at hv
        obtain ⟨v, a, b'⟩ := hn.get hv
        have hi2 := (List.getElem?_eq_some_iff.1 a).1
        rw [if_pos (by omega)]
        exact ⟨v, by rw [show p.s + o + i - (p.s + o + n * size + 0) = i - n * size by omega]; exact a, b'.mono hle⟩
  have hadd := hkill.addObj (p := ⟨p.c, p.s + o, p.z - o, k⟩) (o := .cells (old' ++ new') k) (w' := withObj w p.c (.cells (splice cells (p.s + o + n * size + 0) new) e fr)) hnotheld
    (fun c hc => hother c (fun e => hnotheld (e ▸ hc))) (by rw [hnext]; exact hobj)
  rw [hnext] at hadd
  refine ⟨_, _, hrun, Rho.put_same _ _ _, hadd, ?_⟩
  exact { le := hle, size := by rw [withObj_size]; exact Nat.le_refl _, keep := fun c _ hnh => hother c (fun e => hnh ⟨b, p, halive, hp, e.symm⟩),
          range := fun c hh => by
            have hh : Held (ρ.put (H.set b .none).next ⟨p.c, p.s + o, p.z - o, k⟩) ((H.set b .none).add (.cells (old' ++ new') k)) c := by rw [hnext]; exact hh
            rcases Held.add hh with e | hh
            · exact .inr ⟨b, p, halive, hp, e.symm⟩
            · exact .inr (Held.set halive hh),
          dom := fun x q hq => by
            by_cases e : x = H.next
            · exact .inr (by omega)
            · rw [Rho.put_ne _ _ e] at hq; exact .inl hq
          next := by show H.next ≤ ((H.set b .none).add _).next; rw [Heap.next_add, hnext]; omega, tape := rfl, os := rfl, output := rfl }

theorem Ext.of_kill {b : Nat} (hb : H.get b ≠ .none) (h : Ext ρ (H.set b .none) w ρ' H' w') : Ext ρ H w ρ' H' w' where
  le := h.le
  size := h.size
  keep c hc hn := h.keep c hc (fun hh => hn (Held.set hb hh))
  range c hc := (h.range c hc).imp id (Held.set hb)
  dom b p hp := (h.dom b p hp).imp id (fun x => by rwa [Heap.next_set] at x)
  next := by have := h.next; rwa [Heap.next_set] at this
  tape := h.tape
  os := h.os
  output := h.output

theorem append_sound (hE : EnvOk E) (h : HR E.ng ρ H w) {t u ty : TypeId} {s s' x x' v' : Value} (hd : isInt (E.tt.und u) = some false) (hs : VR ρ s s') (hx : VR ρ x x') (ha : appendA E.tt H t s' x' = .ok v' H') :
    ∃ ρ' v w', (Builtin.append_ #[t, u] ty #[s, x]).run E.P w = .ok v w' ∧ VR ρ' v v' ∧ HR E.ng ρ' H' w' ∧ Ext ρ H w ρ' H' w' := by
  obtain ⟨d, hu, hdn⟩ := isInt_inv hE hd
  unfold appendA at ha
  cases hsz : appSize E.tt t with
  | none => rw [hsz] at ha; cases ha
  | some size =>
    rw [hsz] at ha
    obtain ⟨e, i, z, ht, hi, hisz, hz, hzs, hb1, hb0, hpos⟩ := appSize_inv hE hsz
    simp only [appLen] at ha
    cases hl : lenA x' with
    | none => rw [hl] at ha; cases ha
    | some n =>
      rw [hl] at ha
      simp only [appSrc] at ha
      cases hsrc : srcCells H size n x' with
      | none => rw [hsrc] at ha; cases ha
      | some new' =>
        rw [hsrc] at ha
        simp only at ha
        cases hq : (Nat.beq new'.length (n * size) && allOne new') with
        | false => rw [hq] at ha; cases ha
        | true =>
          rw [hq] at ha
          simp only [Bool.and_eq_true] at hq
          have hnl : new'.length = n * size := Nat.eq_of_beq_eq_true hq.1
          obtain ⟨new, hnr, hnrun⟩ := src_sound h hx hl hsrc
          have hnew1 : ∀ v ∈ new, oneCell v = true := allOne_rel hnr hq.2
          have hnlen : new.length = n * size := by rw [hnr.1, hnl]
          have hlen := lenA_sound hx hl E.P
          simp only at ha
          cases s' with
          | slice a len cap =>
            cases a with
            | none =>
              cases hs
              simp only [appTo] at ha
              cases n with
              | zero =>
                cases ha
                refine ⟨ρ, .slice none (0 + 0) 0, w, ?_, .snil, h, Ext.refl _ _ _⟩
                exact run_append_near ht hu hdn hi hlen (by rw [hisz]; exact hnrun w rfl) (Nat.le_refl _) (fun a e => by cases e) (fun _ => rfl)
              | succ n =>
                simp only at ha
                cases hle : Nat.ble (n + 1) 1048576 with
                | false => rw [hle] at ha; cases ha
                | true =>
                  rw [hle] at ha
                  have hle := Nat.le_of_ble_eq_true hle
                  simp only [fresh] at ha
                  cases ha
                  have hr := run_append_far (w := w) (ty := ty) (base := none) (sLen := 0) (sCap := 0) (old := []) (new := new) ht hu hdn hi hz hlen rfl (by rw [hisz]; exact hnrun w.drew rfl) (by omega) (by omega) hb1 hb0
                  rw [Nat.zero_add] at hr
                  exact freshRes h hzs hpos (grownCap_ge _ _ _ _) (by simpa using hnlen) (LR.nil ρ) hnr hr
            | some a =>
              obtain ⟨b, o, sp⟩ := a
              have ha : (match Nat.ble (len + n) 1048576 with | true => appIn H b o len cap size n new' (H.get b) | false => .bad) = .ok v' H' := ha
              cases hsm : Nat.ble (len + n) 1048576 with
              | false => rw [hsm] at ha; cases ha
              | true =>
                rw [hsm] at ha
                have hsm := Nat.le_of_ble_eq_true hsm
                simp only at ha
                obtain ⟨p, hp, hcase⟩ := slice_inv hs
                cases hob : H.get b <;> rw [hob] at ha <;> simp only [appIn] at ha <;> try (cases ha; done)
                rename_i cs k
                obtain ⟨hpk, hcells⟩ := h.cells hp hob
                cases hnear : Nat.ble (len + n) cap with
                | true =>
                  rw [hnear] at ha
                  have hnear := Nat.le_of_ble_eq_true hnear
                  simp only at ha
                  cases hnew' : new' with
                  | nil =>
                    rw [hnew'] at ha hnl hnr
                    cases ha
                    have hn0 : n = 0 := by
                      rcases Nat.mul_eq_zero.1 (by simpa using hnl.symm) with h | h
                      · exact h
                      · omega
                    have hnil := hnr.nil_inv
                    subst hnil; subst hn0
                    rcases hcase with ⟨c, rfl, hc, h0, hk⟩ | ⟨a, c, rfl, rfl, rfl, hk⟩
                    · exact ⟨ρ, _, w, run_append_near ht hu hdn hi hlen (by rw [hisz]; exact hnrun w rfl) (Nat.le_trans hnear hc) (fun a e => rfl) (fun e => by cases e), .slice hp hc h0 hk, h, Ext.refl _ _ _⟩
                    · exact ⟨ρ, _, w, run_append_near ht hu hdn hi hlen (by rw [hisz]; exact hnrun w rfl) (Nat.zero_le _) (fun a e => rfl) (fun e => by cases e), .sempty _ hp hk, h, Ext.refl _ _ _⟩
                  | cons y ys =>
                    rw [hnew'] at ha
                    rw [← hnew'] at ha
                    have ha : appNear b o len cap n (writeCells H b (o + len * size) new') = .ok v' H' := by rw [hnew'] at ha; simpa [hnew'] using ha
                    cases hwr : writeCells H b (o + len * size) new' with
                    | none => rw [hwr] at ha; cases ha
                    | some H1 =>
                      rw [hwr] at ha
                      cases ha
                      obtain ⟨w', g1, g2, g3⟩ := write_cells h hp hwr hnr hnew1
                      rcases hcase with ⟨c, rfl, hc, h0, hk⟩ | ⟨a, c, rfl, rfl, rfl, hk⟩
                      · refine ⟨ρ, _, w', run_append_near ht hu hdn hi hlen (by rw [hisz]; exact hnrun w rfl) (Nat.le_trans hnear hc) (fun a e => ?_) (fun e => by cases e), .slice hp hc h0 hk, g2, g3⟩
                        cases e
                        rw [addr_add, hisz, Nat.add_assoc]
                        rw [← Nat.add_assoc] at g1
                        rw [← Nat.add_assoc]
                        exact g1
                      · exfalso
                        have hn0 : n = 0 := by omega
                        rw [hn0, Nat.zero_mul, hnew'] at hnl
                        simp at hnl
                | false =>
                  rw [hnear] at ha
                  have hfar : cap < len + n := by
                    rcases Nat.lt_or_ge cap (len + n) with h | h
                    · exact h
                    · rw [Nat.ble_eq_true_of_le h] at hnear; cases hnear
                  simp only at ha
                  cases hold : takeL (len * size) (dropL o cs) with
                  | none => rw [hold] at ha; cases ha
                  | some old' =>
                    rw [hold] at ha
                    simp only [appFar] at ha
                    have hread : readCells H b o (len * size) = some old' := by simp only [readCells, hob]; exact hold
                    obtain ⟨old, ho1, ho2, ho3⟩ := read_cells h hp hread
                    rw [dropL_eq] at hold
                    obtain ⟨hol, hoe⟩ := takeL_some hold
                    have hgrow : ∀ H0, HR E.ng ρ H0 w → ∀ c, s = .slice (some ⟨p.c, p.s + o, none⟩) len c → c < len + n → ∃ ρ' v w', (Builtin.append_ #[t, u] ty #[s, x]).run E.P w = .ok v w' ∧ VR ρ' v (.slice (some ⟨H0.next, 0, none⟩) (len + n) (len + n)) ∧
                        HR E.ng ρ' (newRowA H0 (old' ++ new') size) w' ∧ Ext ρ H0 w ρ' (newRowA H0 (old' ++ new') size) w' := by
                      intro H0 h0w c hse hcl
                      subst hse
                      have hfo : (Builtin.firstCells i.size len (.slice (some ⟨p.c, p.s + o, none⟩) len c)).run E.P w.drew = .ok ⟨old⟩ w.drew := by
                        have hrun := run_loadCells_list (P := E.P) w.drew ⟨p.c, p.s + o, none⟩ old (fun j v hv => by
                          rw [addr_add]; exact ho3 j v hv)
                        rw [ho2] at hrun
                        rw [hisz]; exact hrun
                      have hr := run_append_far (w := w) (ty := ty) (base := some ⟨p.c, p.s + o, none⟩) (sLen := len) (sCap := c) (old := old) (new := new) ht hu hdn hi hz hlen hfo (by rw [hisz]; exact hnrun w.drew rfl) hcl hsm hb1 hb0
                      exact freshRes h0w hzs hpos (grownCap_ge _ _ _ _) (by rw [List.length_append, ho2, hnlen, ← Nat.add_mul]) ho1 hnr hr
                    cases k with
                    | zero =>
                      simp only [fresh] at ha
                      cases ha
                      rcases hcase with ⟨c, hse, hc, h0, hk⟩ | ⟨a, c, rfl, rfl, rfl, hk⟩
                      · exact hgrow H h c hse (by rw [h0 hpk]; exact hfar)
                      · exact absurd hpk hk
                    | succ k =>
                      simp only at ha
                      cases hq2 : (Nat.beq (k + 1) size && Nat.beq (o + len * size) cs.length && Nat.blt 0 cap) with
                      | false => rw [hq2] at ha; cases ha
                      | true =>
                        rw [hq2] at ha
                        simp only [Bool.and_eq_true, Nat.blt_eq] at hq2
                        obtain ⟨⟨q1, q2⟩, q3⟩ := hq2
                        have q1 := Nat.eq_of_beq_eq_true q1
                        have q2 := Nat.eq_of_beq_eq_true q2
                        simp only [fresh] at ha
                        cases ha
                        rcases hcase with ⟨c, hse, hc, h0, hk⟩ | ⟨a, c, rfl, rfl, rfl, hk⟩
                        · rcases Nat.lt_or_ge c (len + n) with hcl | hcl
                          · -- a new row
                            have hal : H.get b ≠ .none := by rw [hob]; simp
                            obtain ⟨ρ', v, w', r1, r2, r3, r4⟩ := hgrow _ (h.kill hal) c hse hcl
                            exact ⟨ρ', v, w', r1, r2, r3, r4.of_kill hal⟩
                          · -- the same row
                            subst hse
                            have hkk : p.k ≠ 0 := by rw [hpk]; omega
                            have hroom := hk hkk
                            have hfit : o + len * size + new.length ≤ p.z := by
                              rw [hnlen, hpk, q1] at *
                              have e1 : len * size + n * size = (len + n) * size := by rw [Nat.add_mul]
                              have e2 : size * (len + n) ≤ size * c := Nat.mul_le_mul_left _ hcl
                              have e3 : size * (len + n) = (len + n) * size := Nat.mul_comm _ _
                              omega
                            obtain ⟨ρ', w', m1, m2, m3, m4⟩ := move_sound h hp hob (by omega) q1 q2 hoe hnr hnew1 hfit
                            rw [q1] at m2 m3 m4
                            refine ⟨ρ', .slice (some ⟨p.c, p.s + o, none⟩) (len + n) c, w', ?_, ?_, ?_, ?_⟩
                            · refine run_append_near ht hu hdn hi hlen (by rw [hisz]; exact hnrun w rfl) hcl (fun a e => ?_) (fun e => by cases e)
                              cases e
                              rw [addr_add, hisz]
                              exact m1
                            · have hn2 : (H.set b .none).next = H.next := Heap.next_set _ _ _
                              rw [hn2]
                              refine VR.slice (o := 0) (p := ⟨p.c, p.s + o, p.z - o, size⟩) m2 hcl (fun h0 => absurd h0 (by simp only; omega)) (fun _ => ?_)
                              simp only
                              have : p.k = size := by rw [hpk]; exact q1
                              rw [this] at hroom
                              omega
                            · exact m3
                            · exact m4
                        · omega
          | _ => simp only [appTo] at ha; cases ha
end Ex

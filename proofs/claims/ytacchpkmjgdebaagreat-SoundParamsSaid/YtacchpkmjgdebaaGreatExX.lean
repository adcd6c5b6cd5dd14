/- A verified executor for closed Go calls, part of it: its lemmas carry no condition. -/
import Derived.Test.YtacchpkmjgdebaaGreatExW
set_option linter.unusedVariables false
set_option linter.unusedSimpArgs false
namespace Ex
open Go
variable {E : Env} {ρ ρ' : Rho} {H H' : Heap} {w w' : World} {ex : Ex}
variable {ops : Array Oper} {s : Nat → St} {nt : Nat} {ρ0 : Rho} {w0 : World} {L : Nat → Prop} {m : Nat} {a : Array Value}

theorem Core.pend_next (hC : Core E ops s nt ρ0 w0 L m ρ a w) {j : Nat} (hj : Pend E ops s L m j) : (s (j + 1)).H.next = (s j).H.next + 1 := by
  obtain ⟨p, cs, _, _, h3, _⟩ := hC.pend j hj
  rw [h3]; exact Heap.next_add _ _

theorem Core.start (hD : Drw E ex ops s nt) (hC : Core E ops s nt ρ0 w0 L m ρ a w) : (s 0).H.next ≤ (s m).H.next := hD.mono (Nat.zero_le _) hC.le

/-- what isn't pending leaves the heap as it is -/
theorem Core.pass (hC : Core E ops s nt ρ0 w0 L m ρ a w) (hm : m < ops.size) (hH : (s (m + 1)).H = (s m).H) (hp : ¬ Pend E ops s L m m) : Core E ops s nt ρ0 w0 L (m + 1) ρ a w := by
  have hP : ∀ j, Pend E ops s L (m + 1) j → Pend E ops s L m j := fun j ⟨h1, h2, h3⟩ => ⟨by omega, h2, h3⟩
  have hQ : ∀ j, Pend E ops s L m j → Pend E ops s L (m + 1) j := fun j ⟨h1, h2, h3⟩ => by
    refine ⟨?_, h2, h3⟩
    rcases Nat.lt_or_ge m j with h | h
    · exact h
    · have : j = m := by omega
      subst this; exact absurd ⟨h1, h2, h3⟩ hp
  refine ⟨hC.lt, hC.closed, hm, by rw [hH]; exact hC.hr, ?_, ?_, ?_, hC.size, hC.done, hC.old, by rw [hH]; exact hC.ext⟩
  · intro b p hb
    rw [hH]
    exact (hC.dom b p hb).imp id (fun ⟨j, h, e⟩ => ⟨j, hQ j h, e⟩)
  · intro j hj
    rw [hH]
    exact hC.pend j (hP j hj)
  · intro j j' p p' h1 h2
    exact hC.inj j j' p p' (hP j h1) (hP j' h2)

/-- what is pending comes to its place -/
theorem Core.take (hD : Drw E ex ops s nt) (hC : Core E ops s nt ρ0 w0 L m ρ a w) (hm : m < ops.size) (hp : Pend E ops s L m m) : Core E ops s nt ρ0 w0 L (m + 1) ρ a w := by
  have hP : ∀ j, Pend E ops s L (m + 1) j → Pend E ops s L m j := fun j ⟨h1, h2, h3⟩ => ⟨by omega, h2, h3⟩
  have hQ : ∀ j, Pend E ops s L m j → j = m ∨ Pend E ops s L (m + 1) j := fun j ⟨h1, h2, h3⟩ => by
    rcases Nat.lt_or_ge m j with h | h
    · exact .inr ⟨h, h2, h3⟩
    · exact .inl (by omega)
  obtain ⟨p, cs, h1, h2, h3, h4, h5, h6, h7⟩ := hC.pend m hp
  have hn := hC.pend_next hp
  have hcut : (cut ρ (s m).H.next).put (s m).H.next p = cut ρ (s (m + 1)).H.next := by
    funext b
    rw [hn]
    by_cases e : b = (s m).H.next
    · subst e; rw [Rho.put_same]; simp [cut, h1]
    · rw [Rho.put_ne _ _ e]
      unfold cut
      by_cases hlt : b < (s m).H.next
      · rw [if_pos hlt, if_pos (by omega)]
      · rw [if_neg hlt, if_neg (by omega)]
  have hadd := hC.hr.addObj (w' := w) (p := p) (o := .cells cs 0) h5 (fun _ _ => rfl) ⟨p, Rho.put_same _ _ _, h2, by rw [hcut, hn]; exact h4⟩
  rw [hcut] at hadd
  have hH : (s m).H.add (.cells cs 0) = (s (m + 1)).H := h3.symm
  rw [hH] at hadd
  have held : ∀ c, Held (cut ρ (s (m + 1)).H.next) (s (m + 1)).H c → c = p.c ∨ Held (cut ρ (s m).H.next) (s m).H c := fun c hc => by
    rw [← hcut, ← hH] at hc
    exact Held.add hc
  refine ⟨hC.lt, hC.closed, hm, hadd, ?_, ?_, ?_, hC.size, hC.done, hC.old, ?_⟩
  · intro b q hb
    rcases hC.dom b q hb with h | ⟨j, h, e⟩
    · exact .inl (by omega)
    · rcases hQ j h with rfl | h
      · exact .inl (by omega)
      · exact .inr ⟨j, h, e⟩
  · intro j hj
    obtain ⟨q, cs', g1, g2, g3, g4, g5, g6, g7⟩ := hC.pend j (hP j hj)
    refine ⟨q, cs', g1, g2, g3, g4, fun hh => ?_, g6, g7⟩
    rcases held _ hh with e | e
    · have := hC.inj j m q p (hP j hj) hp g1 h1 e
      have := hj.1
      omega
    · exact g5 e
  · intro j j' q q' k1 k2
    exact hC.inj j j' q q' (hP j k1) (hP j' k2)
  · have hext := hC.ext
    exact { le := Rho.le_trans hext.le (cut_mono (by omega)), size := hext.size, keep := hext.keep,
            range := fun c hc => (held c hc).elim (fun e => .inl (by rw [e]; exact h6)) (hext.range c),
            dom := fun b q hq => by
              have hs := hC.start hD
              by_cases hlt : b < (s m).H.next
              · refine hext.dom b q ?_
                rw [cut_lt hlt]
                exact cut_le _ _ _ _ hq
              · exact .inr (by omega)
            next := by have := hext.next; omega, tape := hext.tape, os := hext.os, output := hext.output }

/-- all that is pending up to i comes to its place -/
theorem Core.absorb (hD : Drw E ex ops s nt) {i : Nat} (hi : i ≤ ops.size) : ∀ (k m : Nat), m + k = i → Core E ops s nt ρ0 w0 L m ρ a w →
    (∀ (j : Nat) (o : Oper), m ≤ j → j < i → ops.toList[j]? = some o → wantedA ops (s j).t o.guard = true → kindOf E.tt o.op ≤ 2 ∧ (kindOf E.tt o.op = 2 → L j)) → Core E ops s nt ρ0 w0 L i ρ a w
  | 0, m, hm, hC, _ => by simp at hm; subst hm; exact hC
  | k + 1, m, hm, hC, hall => by
    have hlt : m < ops.size := by omega
    obtain ⟨o, ho⟩ : ∃ o, ops.toList[m]? = some o := ⟨_, List.getElem?_eq_getElem (by simpa using hlt)⟩
    refine Core.absorb hD hi k (m + 1) (by omega) ?_ (fun j o' h1 h2 => hall j o' (by omega) h2)
    cases hw : wantedA ops (s m).t o.guard with
    | false => exact hC.pass hlt (hD.chain.skip m o ho hw).2.2 (fun ⟨_, _, o', h3, _, h5⟩ => by rw [ho] at h3; cases h3; rw [hw] at h5; cases h5)
    | true =>
      obtain ⟨hk, hk2⟩ := hall m o (Nat.le_refl _) (by omega) ho hw
      have hop := (hD.chain.op m o ho hw).1
      rcases Nat.lt_or_ge (kindOf E.tt o.op) 2 with h2 | h2
      · have hH : (s (m + 1)).H = (s m).H := by
          rcases (show kindOf E.tt o.op = 0 ∨ kindOf E.tt o.op = 1 by omega) with h | h
          · exact (kind0 h hop).1
          · exact (kind1 h hop).1
        exact hC.pass hlt hH (fun ⟨_, _, o', h3, h4, _⟩ => by rw [ho] at h3; cases h3; omega)
      · have h2 : kindOf E.tt o.op = 2 := by omega
        exact hC.take hD hlt ⟨Nat.le_refl _, hk2 h2, o, ho, h2, hw⟩

theorem bare_next (n : Nat) : (bare n).next = n := rfl
/-- a maker -/
theorem Core.make (hD : Drw E ex ops s nt) (hC : Core E ops s nt ρ0 w0 L m ρ a w) {i : Nat} {o : Oper} (hi : ops.toList[i]? = some o) (hn : ¬ L i) (hmi : m ≤ i) (hdep : ∀ e ∈ o.after.toList, Region.binds .any e = true → L e.on) {v : Value} {cs : List Value}
    (hk : kindOf E.tt o.op = 2) (hw : wantedA ops (s i).t o.guard = true) (hH : (s (i + 1)).H = newRowA (s i).H cs 0) {ρ2 : Rho} (hv : VR ρ2 v (s i).v) (hr : HR E.ng ρ2 (newRowA (bare (s i).H.next) cs 0) w')
    (he : Ext (cut ρ (s i).H.next) (bare (s i).H.next) w ρ2 (newRowA (bare (s i).H.next) cs 0) w') :
    ∃ ρ', ρ.le ρ' ∧ Core E ops s nt ρ0 w0 (more L i) m ρ' (putA a o.dst v) w' := by
  have hlt : i < ops.size := by simpa using (List.getElem?_eq_some_iff.1 hi).1
  have hobj := hr.obj (s i).H.next
  rw [show (newRowA (bare (s i).H.next) cs 0).get (s i).H.next = .cells cs 0 from bare_add_get _ _] at hobj
  obtain ⟨p, hp, hpk, hcells⟩ := hobj
  have hmono := hD.mono hmi (Nat.le_of_lt hlt)
  have hne : ∀ j, Pend E ops s L m j → (s j).H.next ≠ (s i).H.next := fun j hj e => by
    have hji : j ≠ i := fun e' => hn (e' ▸ hj.2.1)
    have hjn := hC.pend_next hj
    have hjl := hC.lt j hj.2.1
    rcases Nat.lt_or_ge j i with h | h
    · have := hD.mono (i := j + 1) (j := i) (by omega) (by omega); omega
    · have h1 := hD.mono (i := i + 1) (j := j) (by omega) (by omega)
      have : (s (i + 1)).H.next = (s i).H.next + 1 := by rw [hH]; exact Heap.next_add _ _
      omega
  have hnone : ρ (s i).H.next = none := by
    cases hq : ρ (s i).H.next with
    | none => rfl
    | some q =>
      rcases hC.dom _ q hq with h | ⟨j, h, e⟩
      · omega
      · exact absurd e.symm (hne j h)
  have hle : ρ.le (ρ.put (s i).H.next p) := Rho.le_put hnone
  have hcut : ρ2 = cut (ρ.put (s i).H.next p) ((s i).H.next + 1) := by
    funext b
    unfold cut
    by_cases hb : b < (s i).H.next + 1
    · rw [if_pos hb]
      by_cases e : b = (s i).H.next
      · subst e; rw [Rho.put_same]; exact hp
      · rw [Rho.put_ne _ _ e]
        have hb' : b < (s i).H.next := by omega
        cases hq : ρ b with
        | some q => exact he.le b q (by rw [cut_lt hb']; exact hq)
        | none =>
          cases hq2 : ρ2 b with
          | none => rfl
          | some q2 =>
            rcases he.dom b q2 hq2 with h | h
            · rw [cut_lt hb', hq] at h; cases h
            · rw [bare_next] at h; omega
    · rw [if_neg hb]
      exact hr.fresh b (by rw [show (newRowA (bare (s i).H.next) cs 0).next = (s i).H.next + 1 from Heap.next_add _ _]; omega)
  have hcutm : cut (ρ.put (s i).H.next p) (s m).H.next = cut ρ (s m).H.next := by
    funext b
    unfold cut
    by_cases hb : b < (s m).H.next
    · rw [if_pos hb, if_pos hb, Rho.put_ne _ _ (by omega)]
    · rw [if_neg hb, if_neg hb]
  have halive : (newRowA (bare (s i).H.next) cs 0).get (s i).H.next ≠ .none := by
    rw [show (newRowA (bare (s i).H.next) cs 0).get (s i).H.next = .cells cs 0 from bare_add_get _ _]; intro e; cases e
  have hpc : w.heap.size ≤ p.c := (he.range p.c ⟨_, p, halive, hp, rfl⟩).resolve_right bare_held
  have hkeep : ∀ c, c < w.heap.size → w'.heap[c]? = w.heap[c]? := fun c hc => he.keep c hc bare_held
  have hQ : ∀ j, Pend E ops s (more L i) m j → j = i ∨ Pend E ops s L m j := by
    rintro j ⟨h1, h2, h3⟩
    rcases h2 with h2 | rfl
    · exact .inr ⟨h1, h2, h3⟩
    · exact .inl rfl
  have hP : ∀ j, Pend E ops s L m j → Pend E ops s (more L i) m j := fun j ⟨h1, h2, h3⟩ => ⟨h1, .inl h2, h3⟩
  have hle2 : ρ2.le (ρ.put (s i).H.next p) := by rw [hcut]; exact cut_le _ _
  refine ⟨ρ.put (s i).H.next p, hle, ?_, more_closed hC.closed hi hdep, hC.le, ?_, ?_, ?_, ?_, by rw [putA_size]; exact hC.size, hC.done' hD hi hle (hv.mono hle2), hC.old' hi hle, ?_⟩
  · rintro j (hj | rfl)
    · exact hC.lt j hj
    · exact hlt
  · rw [hcutm]; exact hC.hr.grow hkeep
  · intro b q hb
    by_cases e : b = (s i).H.next
    · exact .inr ⟨i, ⟨hmi, .inr rfl, o, hi, hk, hw⟩, e⟩
    · rw [Rho.put_ne _ _ e] at hb
      exact (hC.dom b q hb).imp id (fun ⟨j, h, e⟩ => ⟨j, hP j h, e⟩)
  · intro j hj
    rw [hcutm]
    rcases hQ j hj with rfl | hj
    · refine ⟨p, cs, Rho.put_same _ _ _, hpk, hH, by rw [← hcut]; exact hcells, fun hh => ?_, Nat.le_trans hC.ext.size hpc, hr.lt halive hp⟩
      have := Held.lt hC.hr hh
      omega
    · obtain ⟨q, cs', g1, g2, g3, g4, g5, g6, g7⟩ := hC.pend j hj
      refine ⟨q, cs', hle _ _ g1, g2, g3, g4.mono ?_ (hkeep _ g7), g5, g6, Nat.lt_of_lt_of_le g7 he.size⟩
      intro b x hx
      unfold cut at hx ⊢
      split at hx
      · rename_i hb; rw [if_pos hb]; exact hle _ _ hx
      · cases hx
  · intro j j' q q' k1 k2 e1 e2 ec
    rcases hQ j k1 with rfl | k3 <;> rcases hQ j' k2 with rfl | k4
    · rfl
    · rw [Rho.put_same] at e1; cases e1
      obtain ⟨q2, _, g1, _, _, _, _, _, g7⟩ := hC.pend j' k4
      rw [hle _ _ g1] at e2; cases e2
      omega
    · rw [Rho.put_same] at e2; cases e2
      obtain ⟨q2, _, g1, _, _, _, _, _, g7⟩ := hC.pend j k3
      rw [hle _ _ g1] at e1; cases e1
      omega
    · obtain ⟨q2, _, g1, _⟩ := hC.pend j k3
      obtain ⟨q3, _, g2, _⟩ := hC.pend j' k4
      rw [hle _ _ g1] at e1; cases e1
      rw [hle _ _ g2] at e2; cases e2
      exact hC.inj j j' _ _ k3 k4 g1 g2 ec
  · rw [hcutm]
    exact hC.ext.grow he.size hkeep he.tape he.os he.output

/-- an active one -/
theorem Core.act (hD : Drw E ex ops s nt) {i : Nat} (hC : Core E ops s nt ρ0 w0 L i ρ a w) {o : Oper} (hi : ops.toList[i]? = some o) (hdep : ∀ e ∈ o.after.toList, Region.binds .any e = true → L e.on) {v : Value}
    (hk : kindOf E.tt o.op ≠ 2) {ρ2 : Rho} (hv : VR ρ2 v (s i).v) (hr : HR E.ng ρ2 (s (i + 1)).H w') (he : Ext (cut ρ (s i).H.next) (s i).H w ρ2 (s (i + 1)).H w') :
    ∃ ρ', ρ.le ρ' ∧ Core E ops s nt ρ0 w0 (more L i) (i + 1) ρ' (putA a o.dst v) w' := by
  have hlt : i < ops.size := by simpa using (List.getElem?_eq_some_iff.1 hi).1
  have hQ : ∀ j, Pend E ops s (more L i) (i + 1) j → Pend E ops s L i j ∧ i < j := by
    rintro j ⟨h1, h2, h3⟩
    rcases h2 with h2 | rfl
    · exact ⟨⟨by omega, h2, h3⟩, by omega⟩
    · omega
  have hQ' : ∀ j, Pend E ops s L i j → Pend E ops s (more L i) (i + 1) j := by
    rintro j ⟨h1, h2, o', h3, h4, h5⟩
    refine ⟨?_, .inl h2, o', h3, h4, h5⟩
    rcases Nat.lt_or_ge i j with h | h
    · exact h
    · have : j = i := by omega
      subst this; rw [hi] at h3; cases h3; exact absurd h4 hk
  have habove : ∀ j, Pend E ops s L i j → (s (i + 1)).H.next ≤ (s j).H.next := fun j hj => hD.mono (hQ' j hj).1 (Nat.le_of_lt (hC.lt j hj.2.1))
  let ρ' : Rho := fun b => if b < (s (i + 1)).H.next then ρ2 b else ρ b
  have hcut : cut ρ' (s (i + 1)).H.next = ρ2 := by
    funext b
    unfold cut
    by_cases hb : b < (s (i + 1)).H.next
    · rw [if_pos hb]; show (if _ then _ else _) = _; rw [if_pos hb]
    · rw [if_neg hb]; exact (hr.fresh b (by omega)).symm
  have hle : ρ.le ρ' := fun b q hq => by
    show (if _ then _ else _) = _
    by_cases hb : b < (s (i + 1)).H.next
    · rw [if_pos hb]
      rcases hC.dom b q hq with h | ⟨j, h, e⟩
      · exact he.le b q (by rw [cut_lt h]; exact hq)
      · have := habove j h; omega
    · rw [if_neg hb]; exact hq
  have hle2 : ρ2.le ρ' := by rw [← hcut]; exact cut_le _ _
  refine ⟨ρ', hle, ?_, more_closed hC.closed hi hdep, hlt, by rw [hcut]; exact hr, ?_, ?_, ?_, by rw [putA_size]; exact hC.size, hC.done' hD hi hle (hv.mono hle2), hC.old' hi hle, by rw [hcut]; exact hC.ext.trans he⟩
  · rintro j (hj | rfl)
    · exact hC.lt j hj
    · exact hlt
  · intro b q hb
    rcases Nat.lt_or_ge b (s (i + 1)).H.next with h | h
    · exact .inl h
    · have hb : (if b < (s (i + 1)).H.next then ρ2 b else ρ b) = some q := hb
      rw [if_neg (by omega)] at hb
      rcases hC.dom b q hb with h' | ⟨j, h', e⟩
      · have := hD.next i hlt; omega
      · exact .inr ⟨j, hQ' j h', e⟩
  · intro j hj
    obtain ⟨hj', hij⟩ := hQ j hj
    obtain ⟨p, cs, g1, g2, g3, g4, g5, g6, g7⟩ := hC.pend j hj'
    refine ⟨p, cs, hle _ _ g1, g2, g3, g4.mono ?_ (he.keep _ g7 g5), ?_, g6, Nat.lt_of_lt_of_le g7 he.size⟩
    · intro b x hx
      unfold cut at hx ⊢
      split at hx
      · rename_i hb; rw [if_pos hb]; exact hle _ _ hx
      · cases hx
    · rw [hcut]
      intro hh
      rcases he.range _ hh with h | h
      · omega
      · exact g5 h
  · intro j j' q q' k1 k2 e1 e2 ec
    obtain ⟨k1, _⟩ := hQ j k1
    obtain ⟨k2, _⟩ := hQ j' k2
    obtain ⟨q2, _, g1, _⟩ := hC.pend j k1
    obtain ⟨q3, _, g2, _⟩ := hC.pend j' k2
    rw [hle _ _ g1] at e1; cases e1
    rw [hle _ _ g2] at e2; cases e2
    exact hC.inj j j' _ _ k1 k2 g1 g2 ec
end Ex

/- A verified executor for closed Go calls, part of it: its lemmas carry no condition. -/
import Derived.Test.YtacchpkmjgdebaaGreatExY
set_option linter.unusedVariables false
set_option linter.unusedSimpArgs false
namespace Ex
open Go
variable {E : Env} {ρ ρ' : Rho} {H H' : Heap} {w w' : World} {ex : Ex}
variable {ops : Array Oper} {s : Nat → St} {nt : Nat} {ρ0 : Rho} {w0 : World}

def Lof (listed : Array Bool) : Nat → Prop := fun j => listed.getD j false = true
theorem Lof_set {listed : Array Bool} {i : Nat} (hi : i < listed.size) : Lof (listed.setIfInBounds i true) = more (Lof listed) i := by
  funext j
  apply propext
  unfold Lof more
  by_cases e : i = j
  · subst e; simp [hi]
  · rw [getD_set_ne false e]
    simp only [Ne.symm (a := i) e, or_false]

/-- when none is ready all are listed -/
theorem all_listed {md : Region.Mode} (hg : Good E.tt ops ops.toList) {listed : Array Bool} (hs : listed.size = ops.size) (hr : Region.ready md ops listed = []) : ∀ j, j < ops.size → Lof listed j := by
  intro j hj
  refine hg.top md (Lof listed) (fun i o hi hdep => ?_) j (by simpa using hj)
  have hlt : i < ops.size := by simpa using (List.getElem?_eq_some_iff.1 hi).1
  cases hb : listed.getD i false with
  | true => exact hb
  | false =>
    have hbt : listed.getD i true = false := by
      rw [Array.getD_eq_getD_getElem?] at hb ⊢
      rw [Array.getElem?_eq_getElem (by omega)] at hb ⊢
      exact hb
    have hm : i ∈ Region.ready md ops listed := by
      rw [mem_ready]
      exact ⟨hbt, o, by simpa using hi, fun e he hbn => hdep e (by simpa using he) hbn⟩
    rw [hr] at hm; cases hm

theorem draw_loop (hG : EnvGood E) (hex : SoundEx E ex) (hD : Drw E ex ops s nt) {md : Region.Mode} {cs : List Frame} {k' : List Item} : ∀ (fuel t : Nat) (listed : Array Bool) (U : List Nat) (m : Nat) (ρ : Rho) (w : World) (fr : Frame), listed.size = ops.size →
    (∀ j, j < ops.size → ¬ Lof listed j → j ∈ U) → U.length ≤ fuel → Core E ops s nt ρ0 w0 (Lof listed) m ρ fr.tmps w → Stg E ops (Lof listed) m → fr.mode = .run → fr.todo = .inRegion ops (Region.linearise.go md ops fuel t listed []) :: k' →
    ∃ m' ρ' a' w' L, (∀ j, j < ops.size → L j) ∧ Steps E.P (lone fr cs w) (lone { fr with tmps := a', todo := .inRegion ops [] :: k' } cs w') ∧ Core E ops s nt ρ0 w0 L m' ρ' a' w' ∧ Stg E ops L m'
  | 0, t, listed, U, m, ρ, w, fr, hsz, hU, hf, hC, hS, hm, ht => by
    refine ⟨m, ρ, fr.tmps, w, Lof listed, fun j hj => ?_, ?_, hC, hS⟩
    · by_cases h : Lof listed j
      · exact h
      · have hmem := hU j hj h
        have : U = [] := by simpa using hf
        rw [this] at hmem; cases hmem
    · have : fr = { fr with tmps := fr.tmps, todo := .inRegion ops [] :: k' } := by
        have ht : fr.todo = .inRegion ops [] :: k' := by simpa [Region.linearise.go] using ht
        rw [← ht]
      rw [← this]; exact Steps.refl _ _
  | fuel + 1, t, listed, U, m, ρ, w, fr, hsz, hU, hf, hC, hS, hm, ht => by
    simp only [Region.linearise.go] at ht
    have ht : fr.todo = .inRegion ops (match (Region.ready md ops listed)[t % (Region.ready md ops listed).length]? with
      | some i => Region.linearise.go md ops fuel (t / (Region.ready md ops listed).length) (listed.setIfInBounds i true) [i]
      | none => [].reverse) :: k' := ht
    cases hi : (Region.ready md ops listed)[t % (Region.ready md ops listed).length]? with
    | none =>
      have hnil : Region.ready md ops listed = [] := by
        cases hr : Region.ready md ops listed with
        | nil => rfl
        | cons x xs =>
          rw [hr] at hi
          have hlt : t % (x :: xs).length < (x :: xs).length := Nat.mod_lt _ (by simp)
          simp at hi
          simp at hlt
          omega
      rw [hi] at ht
      refine ⟨m, ρ, fr.tmps, w, Lof listed, all_listed hD.good hsz hnil, ?_, hC, hS⟩
      have : fr = { fr with tmps := fr.tmps, todo := .inRegion ops [] :: k' } := by
        have ht : fr.todo = .inRegion ops [] :: k' := by simpa using ht
        rw [← ht]
      rw [← this]; exact Steps.refl _ _
    | some i =>
      rw [hi] at ht
      simp only [] at ht
      rw [linearise_go_acc, List.reverse_singleton, List.singleton_append] at ht
      have hmem := List.mem_of_getElem? hi
      rw [mem_ready] at hmem
      obtain ⟨hl, o, ho, hdep⟩ := hmem
      have hlt : i < ops.size := (Array.getElem?_eq_some_iff.1 ho).1
      have hn : ¬ Lof listed i := by
        unfold Lof
        rw [Array.getD_eq_getD_getElem?] at hl ⊢
        rw [Array.getElem?_eq_getElem (by omega)] at hl ⊢
        simp at hl ⊢
        exact hl
      obtain ⟨m', ρ', v, w', g1, g2, g3⟩ := draw_step hG hex hD (cs := cs) hC hS ht hm (by simpa using ho) hn (fun e he hb => hdep e (by simpa using he) (binds_any md hb))
      rw [← Lof_set (by omega)] at g2 g3
      have hiU := hU i hlt hn
      obtain ⟨m2, ρ2, a2, w2, L2, k1, k2, k3, k4⟩ := draw_loop hG hex hD (cs := cs) (k' := k') fuel _ (listed.setIfInBounds i true) (U.erase i) m' ρ' w' { fr with tmps := putA fr.tmps o.dst v, todo := .inRegion ops (Region.linearise.go md ops fuel (t / (Region.ready md ops listed).length) (listed.setIfInBounds i true) []) :: k' } (by simpa using hsz)
        (fun j hj hnj => by
          have hne : j ≠ i := fun e => by
            subst e
            rw [Lof_set (by omega)] at hnj
            exact hnj (.inr rfl)
          have : ¬ Lof listed j := fun h => by rw [Lof_set (by omega)] at hnj; exact hnj (.inl h)
          exact (List.mem_erase_of_ne hne).2 (hU j hj this))
        (by rw [List.length_erase_of_mem hiU]; omega) g2 g3 hm rfl
      exact ⟨m2, ρ2, a2, w2, L2, k1, Steps.trans g1 k2, k3, k4⟩

theorem step_draw {P : Program} {fr : Frame} {cs : List Frame} {id : Nat} {k' : List Item} (hm : fr.mode = .run) (ht : fr.todo = .code (.region id ops true) :: k') :
    Go.step P (lone fr cs w) = .next (lone { fr with todo := .inRegion ops (Region.schedule (P.follows .mixedOrders) ops (w.tape w.drawn (.order fr.fn id))) :: k' } cs { w with drawn := w.drawn + 1 }) :=
  step_lone_go (by simp [stepG, stepG.exec, hm, ht, choose, Sem.run, Question.forced, Question.cut])

theorem nextsOk_spec : ∀ {tr : List St}, nextsOk tr = true → ∀ i, i + 1 < tr.length → (stOf tr i).H.next ≤ (stOf tr (i + 1)).H.next
  | [], _, i, hi => by simp at hi
  | [x], _, i, hi => by simp at hi
  | x :: y :: l, h, i, hi => by
    have h : (Nat.ble x.H.next y.H.next && nextsOk (y :: l)) = true := h
    simp only [Bool.and_eq_true] at h
    cases i with
    | zero => have := Nat.le_of_ble_eq_true h.1; simpa [stOf] using this
    | succ i =>
      have := nextsOk_spec h.2 i (by simpa using hi)
      simpa [stOf] using this

theorem stOf_nth {tr : List St} {i : Nat} {x : St} (h : nth tr i = some x) : stOf tr i = x := by
  rw [nth_eq] at h; unfold stOf; rw [h]; rfl

theorem draw_ok (hG : EnvGood E) (hex : SoundEx E ex) : DrawOk E ex := by
  intro ops nt t t' H H' hdo hok ρ fr w cs id k' ht hm htr h
  unfold drawOps at hdo
  cases hst : okDraw E.tt ops (masks ops.toList []) with
  | false => rw [hst] at hdo; cases hdo
  | true =>
    rw [hst] at hdo
    simp only at hdo
    cases htrc : traceOps E ex ops ops.toList t H with
    | bad => rw [htrc] at hdo; cases hdo
    | ok tr =>
      rw [htrc] at hdo
      simp only [drawTr] at hdo
      cases hck : (drawChk E ex ops ops.toList (masks ops.toList []) ops.toList.length tr && nextsOk tr) with
      | false => rw [hck] at hdo; cases hdo
      | true =>
        rw [hck] at hdo
        simp only [lastSt] at hdo
        simp only [Bool.and_eq_true] at hck
        obtain ⟨hck, hnx⟩ := hck
        obtain ⟨hlen, h0t, h0H, hch⟩ := trace_chain ops.toList t H tr htrc
        cases hlast : nth tr ops.toList.length with
        | none => rw [hlast] at hdo; cases hdo
        | some x =>
          rw [hlast] at hdo
          cases hdo
          have hx := stOf_nth hlast
          have hsize : ops.toList.length = ops.size := by simp
          have one : ∀ (i : Nat) (o : Oper), ops.toList[i]? = some o → drawOne E ex ops ops.toList (masks ops.toList []) ops.toList.length tr i o (stOf tr i) = true := by
            intro i o hi
            have hlt := (List.getElem?_eq_some_iff.1 hi).1
            unfold drawChk at hck
            have h1 := List.all_eq_true.1 hck i (List.mem_range.2 hlt)
            rw [nth_eq, hi] at h1
            simp only at h1
            cases hy : nth tr i with
            | none => rw [hy] at h1; cases h1
            | some y => rw [hy] at h1; rw [stOf_nth hy]; exact h1
          have hD : Drw E ex ops (stOf tr) nt := by
            refine ⟨good_of hst, hch, hok, fun d hd => by rw [h0t]; exact htr.has d hd, fun i hi => nextsOk_spec hnx i (by rw [hlen]; omega), ?_, ?_⟩
            · intro i m o hi hw hk hm hs
              have h1 := one i o hi
              unfold drawOne at h1
              rw [hw, hk] at h1
              simp only [readOk] at h1
              have h2 := List.all_eq_true.1 h1 m (List.mem_range.2 (by omega))
              rw [hsize, hs] at h2
              simp only [Bool.not_true, Bool.false_or] at h2
              cases hy : nth tr m with
              | none => rw [hy] at h2; cases h2
              | some y =>
                rw [hy] at h2
                rw [stOf_nth hy]
                simp only at h2
                cases hop : opA E ex y.H (stOf tr i).t o with
                | bad => rw [hop] at h2; cases h2
                | ok u H2 =>
                  rw [hop] at h2
                  have := veq_eq h2
                  exact ⟨H2, by rw [this]⟩
            · intro i o hi hw hk
              have h1 := one i o hi
              unfold drawOne at h1
              rw [hw] at h1
              simp only at h1
              have h2 : actOk o (stOf tr i) = true := by
                have := kindOf_le E.tt o.op
                rcases (show kindOf E.tt o.op = 2 ∨ kindOf E.tt o.op = 3 by omega) with h | h <;> rw [h] at h1 <;> exact h1
              unfold actOk at h2
              generalize hg : (stOf tr i).H = HH at h2
              cases HH with
              | mk o n => exact h2
          have hs1 := step_draw (P := E.P) (w := w) (cs := cs) hm ht
          obtain ⟨md, u, hsch⟩ : ∃ md u, Region.schedule (E.P.follows .mixedOrders) ops (w.tape w.drawn (.order fr.fn id)) = Region.linearise.go md ops ops.size u (Array.replicate ops.size false) [] := by
            unfold Region.schedule
            split
            · exact ⟨_, _, rfl⟩
            · exact ⟨_, _, rfl⟩
          rw [hsch] at hs1
          have hnone : ∀ j, ¬ Lof (Array.replicate ops.size false) j := fun j hj => by
            unfold Lof at hj
            rw [Array.getD_eq_getD_getElem?] at hj
            by_cases hlt : j < ops.size <;> simp [Array.getElem?_replicate, hlt] at hj
          have hcut : cut ρ (stOf tr 0).H.next = ρ := by
            funext b
            unfold cut
            split
            · rfl
            · rename_i hb; rw [h0H] at hb; exact (h.fresh b (by omega)).symm
          have hC0 : Core E ops (stOf tr) nt ρ w (Lof (Array.replicate ops.size false)) 0 ρ fr.tmps { w with drawn := w.drawn + 1 } := by
            refine ⟨fun j hj => absurd hj (hnone j), fun j _ hj => absurd hj (hnone j), Nat.zero_le _, ?_, ?_, fun j hj => absurd hj.2.1 (hnone j), fun j _ _ _ hj => absurd hj.2.1 (hnone j), htr.size, fun j _ _ hj => absurd hj (hnone j), fun d _ => ?_, ?_⟩
            · rw [hcut, h0H]; exact h.world rfl
            · intro b p hb
              rw [h0H]
              rcases Nat.lt_or_ge b H.next with hlt | hge
              · exact .inl hlt
              · rw [h.fresh b hge] at hb; cases hb
            · rw [h0t]; exact htr.rel d
            · rw [hcut]
              exact (Ext.refl ρ (stOf tr 0).H w).grow (Nat.le_refl _) (fun _ _ => rfl) rfl rfl rfl
          have hS0 : Stg E ops (Lof (Array.replicate ops.size false)) 0 := ⟨.inl rfl, fun q _ hq => absurd hq (hnone q)⟩
          obtain ⟨m', ρ', a', w', L, k1, k2, k3, k4⟩ := draw_loop hG hex hD (cs := cs) (k' := k') ops.size u (Array.replicate ops.size false) (List.range ops.size) 0 ρ { w with drawn := w.drawn + 1 }
            { fr with todo := .inRegion ops (Region.linearise.go md ops ops.size u (Array.replicate ops.size false) []) :: k' } (by simp) (fun j hj _ => List.mem_range.2 hj) (by simp) hC0 hS0 hm rfl
          have hCn := Core.absorb hD (Nat.le_refl ops.size) (ops.size - m') m' (by have := k3.le; omega) k3 (fun j o h1 h2 hj hw => by
            have hk := kindOf_le E.tt o.op
            have hL := k1 j h2
            refine ⟨?_, fun _ => hL⟩
            rcases Nat.lt_or_ge (kindOf E.tt o.op) 3 with h | h
            · omega
            · have := k4.2 j o hL hj (by omega); omega)
          have hρ : cut ρ' (stOf tr ops.size).H.next = ρ' := by
            funext b
            unfold cut
            split
            · rfl
            · rename_i hb
              cases hq : ρ' b with
              | none => rfl
              | some q =>
                rcases hCn.dom b q hq with h | ⟨j, h, _⟩
                · omega
                · have := hCn.lt j h.2.1; have := h.1; omega
          have hfin := hCn.hr
          have hext := hCn.ext
          rw [hρ] at hfin hext
          rw [← hsize, hx] at hfin hext
          rw [h0H] at hext
          refine ⟨ρ', a', w', Steps.trans (.one hs1) (Steps.trans k2 (.one (step_lone_go ?_))), ⟨hCn.size, fun d => ?_, fun d hd => ?_⟩, hfin, hext⟩
          · simp [stepG, stepG.exec, hm]
          · rw [← hx]
            by_cases hwr : ∃ (j : Nat) (o : Oper), ops.toList[j]? = some o ∧ o.dst = some d
            · obtain ⟨j, o, hj, hd⟩ := hwr
              have hlt := (List.getElem?_eq_some_iff.1 hj).1
              rw [chain_some hch hD.good hD.has hj hd (hD.dst_lt hj hd) ops.toList.length (Nat.le_refl _) hlt]
              exact hCn.done j o d (k1 j (by omega)) hj hd
            · rw [chain_none hch ops.toList.length (Nat.le_refl _) (fun j o _ h2 hd2 => hwr ⟨j, o, h2, hd2⟩)]
              exact hCn.old d (fun j o _ h2 hd2 => hwr ⟨j, o, h2, hd2⟩)
          · rw [← hx, chain_has hch d ops.toList.length (Nat.le_refl _), h0t]; exact htr.has d hd

theorem run_sound (hG : EnvGood E) : ∀ n, SoundEx E (run E n)
  | 0 => fun _ _ _ _ _ _ _ h => by cases h
  | n + 1 => step_go hG (run_sound hG n) (draw_ok hG (run_sound hG n))
end Ex

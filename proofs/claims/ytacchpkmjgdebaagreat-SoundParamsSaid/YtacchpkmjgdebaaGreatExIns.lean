/- A verified executor for closed Go calls, part of it: its lemmas carry no condition. -/
import Derived.Test.YtacchpkmjgdebaaGreatExCall
import Derived.Laws.Append
set_option linter.unusedVariables false
set_option linter.unusedSimpArgs false
namespace Ex
open Go
variable {E : Env} {ρ ρ' : Rho} {H H' : Heap} {w w' : World}

/-- a row's block is written anew from the slice's start on: what stood for it is dead, what stands for it now begins where the slice begins -/
theorem rehold (h : HR E.ng ρ H w) {b o k : Nat} {p : Pl} {cs R R' : List Value} {cells cells' : Array Value} {e : TypeId} {fr : Nat × Nat} (hp : ρ b = some p) (hb : H.get b = .cells cs k) (hk : k ≠ 0)
    (hw : w.heap[p.c]? = some (.cells cells e fr)) (hsz : cells'.size = cells.size) (hfz : ∀ o, o < cells.size → ¬ (fr.1 ≤ o ∧ o < fr.2)) (hcz : cells.size = p.s + p.z) (hR : LR ρ R R') (hfit : o + R.length ≤ p.z) (hat : ∀ i v, R[i]? = some v → cells'[p.s + o + i]? = some v) :
    HR E.ng (ρ.put H.next ⟨p.c, p.s + o, p.z - o, k⟩) (newRowA (H.set b .none) R' k) (withObj w p.c (.cells cells' e fr)) ∧ Ext ρ H w (ρ.put H.next ⟨p.c, p.s + o, p.z - o, k⟩) (newRowA (H.set b .none) R' k) (withObj w p.c (.cells cells' e fr)) := by
  have halive : H.get b ≠ .none := by rw [hb]; simp
  have hlt := (Array.getElem?_eq_some_iff.1 hw).1
  have hkill := h.kill halive
  have hnext : (H.set b .none).next = H.next := Heap.next_set _ _ _
  have hnotheld : ¬ Held ρ (H.set b .none) p.c := by
    rintro ⟨b', q, hb', hq, hqc⟩
    by_cases e : b' = b
    · subst e; rw [Heap.get_set_same H _ halive] at hb'; exact hb' rfl
    · rw [Heap.get_set_ne H _ e] at hb'
      exact e (h.inj b' b q p hb' halive hq hp hqc)
  have hother : ∀ c, c ≠ p.c → (withObj w p.c (.cells cells' e fr)).heap[c]? = w.heap[c]? := fun c hne => by
    rw [withObj_heap _ _ _ _ hlt, if_neg hne]
  have hle : ρ.le (ρ.put H.next ⟨p.c, p.s + o, p.z - o, k⟩) := Rho.le_put (h.fresh _ (Nat.le_refl _))
  have hobj : ObjAt (ρ.put H.next ⟨p.c, p.s + o, p.z - o, k⟩) (withObj w p.c (.cells cells' e fr)) H.next (.cells R' k) := by
    refine ⟨_, Rho.put_same _ _ _, rfl, _, e, fr, by rw [withObj_heap _ _ _ _ hlt, if_pos rfl], by simp only; omega, by simp only [← hR.1]; omega, fun h0 => absurd h0 hk, fun o ho => hfz o (by rw [← hsz]; exact ho.resolve_right hk), fun i v' hv => ?_⟩
    obtain ⟨v, a, b'⟩ := hR.get hv
    exact ⟨v, hat i v a, b'.mono hle⟩
  have hadd := hkill.addObj (p := ⟨p.c, p.s + o, p.z - o, k⟩) (o := .cells R' k) (w' := withObj w p.c (.cells cells' e fr)) hnotheld
    (fun c hc => hother c (fun e => hnotheld (e ▸ hc))) (by rw [hnext]; exact hobj)
  rw [hnext] at hadd
  refine ⟨hadd, ?_⟩
  exact { le := hle, size := by rw [withObj_size]; exact Nat.le_refl _, keep := fun c _ hnh => hother c (fun e => hnh ⟨b, p, halive, hp, e.symm⟩),
          range := fun c hh => by
            have hh : Held (ρ.put (H.set b .none).next ⟨p.c, p.s + o, p.z - o, k⟩) ((H.set b .none).add (.cells R' k)) c := by rw [hnext]; exact hh
            rcases Held.add hh with e | hh
            · exact .inr ⟨b, p, halive, hp, e.symm⟩
            · exact .inr (Held.set halive hh),
          dom := fun x q hq => by
            by_cases e : x = H.next
            · exact .inr (by omega)
            · rw [Rho.put_ne _ _ e] at hq; exact .inl hq
          next := by show H.next ≤ ((H.set b .none).add _).next; rw [Heap.next_add, hnext]; omega, tape := rfl, os := rfl, output := rfl }

/-- within the known cells -/
theorem rewrite_near (h : HR E.ng ρ H w) {b o : Nat} {p : Pl} {R R' : List Value} {cells : Array Value} {e : TypeId} {fr : Nat × Nat} (hp : ρ b = some p) (hr : writeCells H b o R' = some H') (hR : LR ρ R R') (h1 : ∀ v ∈ R, oneCell v = true)
    (hw : w.heap[p.c]? = some (.cells cells e fr)) (hfz : ∀ o, o < cells.size → ¬ (fr.1 ≤ o ∧ o < fr.2)) (hfit : p.s + o + R.length ≤ cells.size) :
    HR E.ng ρ H' (withObj w p.c (.cells (splice cells (p.s + o) R) e fr)) ∧ Ext ρ H w ρ H' (withObj w p.c (.cells (splice cells (p.s + o) R) e fr)) := by
  obtain ⟨w', g1, g2⟩ := write_cells h hp hr hR h1
  have hrun := run_store_cells (P := E.P) (p.s + o) R 0 cells w hw (by omega) hfz h1
  rw [g1] at hrun
  have : w' = withObj w p.c (.cells (splice cells (p.s + o) R) e fr) := by injection hrun
  rw [← this]; exact g2
/-- copy, for elements of any size -/
theorem run_copy_obj {P : Program} (w : World) (dT sT ty elem : TypeId) (size : Nat) (hu : P.underlying dT = some (.slice elem)) (hs : (P.info? elem).map (·.size) = some size) {c q dLen dCap sLen sCap : Nat} {a : Addr} {cs : List Value} {cells : Array Value} {e : TypeId} {fr : Nat × Nat}
    (hn : cs.length = Nat.min sLen dLen * size) (hsrc : ∀ j v, cs[j]? = some v → w.cell? (a.add j) = some v) (hc : w.heap[c]? = some (.cells cells e fr)) (hfit : q + cs.length ≤ cells.size) (hfz : ∀ o, o < cells.size → ¬ (fr.1 ≤ o ∧ o < fr.2)) (h1 : ∀ v ∈ cs, oneCell v = true) :
    (Builtin.copy_ #[dT, sT] ty #[.slice (some ⟨c, q, none⟩) dLen dCap, .slice (some a) sLen sCap]).run P w = .ok (goInt (Nat.min sLen dLen)) (withObj w c (.cells (splice cells q cs) e fr)) := by
  have hfirst := run_firstCells_some (P := P) (w := w) size (Nat.min sLen dLen) a sLen sCap cs hn hsrc
  have hst := run_store_cells (P := P) q cs 0 cells w hc (by omega) hfz h1
  cases hq : P.info? elem with
  | none => simp [hq] at hs
  | some i =>
    have hi : i.size = size := by simpa [hq] using hs
    have hso : (Go.sizeOf elem).run P w = .ok size w := by simp only [Go.sizeOf, Sem.run_bind, runTI hq, Result.andThen, hi]; rfl
    simp only [Builtin.copy_, Builtin.lenOf, Sem.run_bind, Sem.run_pure, Result.andThen, run_underlying hu w, hso]
    simp [run_underlying hu w, hso, hfirst, Result.andThen, hst]
end Ex

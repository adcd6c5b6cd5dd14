/- A verified executor for closed Go calls, part of it: its lemmas carry no condition. -/
import Derived.Test.YtacchpkmjgdebaaGreatExD
set_option linter.unusedVariables false
set_option linter.unusedSimpArgs false
namespace Ex
open Go

structure EnvOk (E : Env) : Prop where
  tt : ∀ i x, E.tt.get none i = some x → E.P.info? i = some x
  ft : ∀ i x, E.ft.get none i = some x → E.P.funcs[i]? = some x

variable {E : Env} {ρ ρ' : Rho} {H H' : Heap} {w w' : World}

theorem und_eq (hE : EnvOk E) {t : TypeId} {d : TypeDesc} (h : E.tt.und t = some d) : E.P.underlying t = some d := by
  unfold Ts.und at h
  unfold Program.underlying
  cases hi : Ts.info E.tt t with
  | none => rw [hi] at h; cases h
  | some i =>
    rw [hi] at h
    rw [hE.tt t i hi]
    obtain ⟨desc, _, _, _, _, _, _, _, _, _⟩ := i
    simp only at h ⊢
    unfold undOf at h
    cases desc <;> simp only at h ⊢
    case named n u =>
      cases hu : Ts.info E.tt u with
      | none => rw [hu] at h; cases h
      | some j => rw [hu] at h; rw [hE.tt u j hu]; exact h
    all_goals exact h

theorem size_eq (hE : EnvOk E) {t : TypeId} {n : Nat} (h : sizeA E.tt t = some n) : ∃ i, E.P.info? t = some i ∧ i.size = n := by
  unfold sizeA at h
  cases hi : Ts.info E.tt t with
  | none => rw [hi] at h; cases h
  | some i => rw [hi] at h; exact ⟨i, hE.tt t i hi, by simpa using h⟩

theorem runTI {P : Program} {t : TypeId} {i : TypeInfo} (h : P.info? t = some i) (w : World) : (typeInfo t).run P w = .ok i w := by
  unfold typeInfo
  simp only [Sem.run_bind]
  show (Result.ok P w).andThen _ = _
  simp only [Result.andThen]
  rw [h]; rfl
theorem run_sizeOf_eq (hE : EnvOk E) {t : TypeId} {n : Nat} (h : sizeA E.tt t = some n) (w : World) : (Go.sizeOf t).run E.P w = .ok n w := by
  obtain ⟨i, hi, hn⟩ := size_eq hE h
  simp only [Go.sizeOf, Sem.run_bind, runTI hi, Result.andThen, hn]; rfl
theorem run_isAgg_eq (hE : EnvOk E) {t : TypeId} {b : Bool} (h : isAggA E.tt t = some b) (w : World) : (isAgg t).run E.P w = .ok b w := by
  unfold isAggA at h
  cases hu : E.tt.und t with
  | none => rw [hu] at h; cases h
  | some d =>
    rw [hu] at h
    have hu' := und_eq hE hu
    simp only [Option.some.injEq] at h
    subst h
    simp only [isAgg, Sem.run_bind, run_underlying hu', Result.andThen]
    cases d <;> rfl

theorem addr_add (c x j : Nat) : (⟨c, x, none⟩ : Addr).add j = ⟨c, x + j, none⟩ := by unfold Addr.add; split <;> simp_all

theorem CellsAt.cell {p : Pl} {cs : List Value} (h : CellsAt ρ w p cs) {o : Nat} {v' : Value} (hv : cs[o]? = some v') : ∃ v, w.cell? ⟨p.c, p.s + o, none⟩ = some v ∧ VR ρ v v' := by
  obtain ⟨cells, e, fr, h1, h2, h3, h4, h5, h6⟩ := h
  obtain ⟨v, a, b⟩ := h6 o v' hv
  exact ⟨v, by simpa [World.cell?, h1] using a, b⟩

theorem HR.cells (h : HR E.ng ρ H w) {b : Nat} {p : Pl} {cs : List Value} {k : Nat} (hp : ρ b = some p) (hb : H.get b = .cells cs k) : p.k = k ∧ CellsAt ρ w p cs := by
  have := h.obj b
  rw [hb] at this
  obtain ⟨q, hq, hk, hc⟩ := this
  rw [hp] at hq; cases hq
  exact ⟨hk, hc⟩

theorem read_cell (h : HR E.ng ρ H w) {b o : Nat} {p : Pl} {v' : Value} (hp : ρ b = some p) (hr : readCell H b o = some v') : ∃ v, w.cell? ⟨p.c, p.s + o, none⟩ = some v ∧ VR ρ v v' := by
  unfold readCell at hr
  cases hb : H.get b <;> rw [hb] at hr <;> simp only at hr
  case cells cs k => rw [nth_eq] at hr; exact (h.cells hp hb).2.cell hr
  all_goals cases hr

theorem read_cells (h : HR E.ng ρ H w) {b o n : Nat} {p : Pl} {l' : List Value} (hp : ρ b = some p) (hr : readCells H b o n = some l') :
    ∃ l, LR ρ l l' ∧ l.length = n ∧ ∀ (j : Nat) v, l[j]? = some v → w.cell? ⟨p.c, p.s + o + j, none⟩ = some v := by
  unfold readCells at hr
  cases hb : H.get b <;> rw [hb] at hr <;> simp only at hr
  case cells cs k =>
    rw [dropL_eq] at hr
    obtain ⟨hn, rfl⟩ := takeL_some hr
    have hc := (h.cells hp hb).2
    have key : ∀ j, j < n → ∃ v v', cs[o + j]? = some v' ∧ w.cell? ⟨p.c, p.s + o + j, none⟩ = some v ∧ VR ρ v v' := fun j hj => by
      have hlt : o + j < cs.length := by simp at hn; omega
      obtain ⟨v, a, b⟩ := hc.cell (List.getElem?_eq_getElem hlt)
      exact ⟨v, _, List.getElem?_eq_getElem hlt, by rwa [Nat.add_assoc], b⟩
    refine ⟨(List.range n).map fun j => (w.cell? ⟨p.c, p.s + o + j, none⟩).getD undef, ⟨?_, fun i u v a b' => ?_⟩, by simp, fun j v hv => ?_⟩
    · simp at hn ⊢; omega
    · have hi : i < n := by
        have := (List.getElem?_eq_some_iff.1 a).1; simpa using this
      obtain ⟨x, x', e1, e2, e3⟩ := key i hi
      simp [hi, e2] at a
      simp [hi, e1] at b'
      subst a; subst b'; exact e3
    · have hj : j < n := by have := (List.getElem?_eq_some_iff.1 hv).1; simpa using this
      obtain ⟨x, x', e1, e2, e3⟩ := key j hj
      simp [hj, e2] at hv
      rw [e2, hv]
  all_goals cases hr

theorem VR.agg_of {l l' : List Value} (h : LR ρ l l') : VR ρ (.agg ⟨l⟩) (.agg ⟨l'⟩) := .agg l l' h.1 h.2
theorem VR.tuple_of {l l' : List Value} (h : LR ρ l l') : VR ρ (.tuple ⟨l⟩) (.tuple ⟨l'⟩) := .tuple l l' h.1 h.2

theorem load_sound (hE : EnvOk E) (h : HR E.ng ρ H w) {t : TypeId} {b o : Nat} {p : Pl} {v' : Value} (hp : ρ b = some p) (hl : load1 H b o (shapeA E.tt t) = some v') :
    ∃ v, (loadVar t ⟨p.c, p.s + o, none⟩).run E.P w = .ok v w ∧ VR ρ v v' := by
  unfold shapeA at hl
  cases ha : isAggA E.tt t with
  | none => rw [ha] at hl; cases hl
  | some g =>
    rw [ha] at hl
    cases g with
    | true =>
      simp only at hl
      cases hs : sizeA E.tt t with
      | none => rw [hs] at hl; cases hl
      | some n =>
        rw [hs] at hl
        simp only [load1, load2] at hl
        cases hr : readCells H b o n with
        | none => rw [hr] at hl; cases hl
        | some l' =>
          rw [hr] at hl
          obtain ⟨l, h1, h2, h3⟩ := read_cells h hp hr
          have hrun := run_loadCells_list (P := E.P) w ⟨p.c, p.s + o, none⟩ l (fun j v hv => by rw [addr_add]; exact h3 j v hv)
          rw [h2] at hrun
          simp only [omap, Option.some.injEq] at hl
          subst hl
          refine ⟨.agg ⟨l⟩, ?_, VR.agg_of h1⟩
          simp only [loadVar, Sem.run_bind, run_isAgg_eq hE ha, run_sizeOf_eq hE hs, Result.andThen, hrun, if_true]
          rfl
    | false =>
      simp only [load1, load2] at hl
      obtain ⟨v, h1, h2⟩ := read_cell h hp hl
      refine ⟨v, ?_, h2⟩
      simp [loadVar, Sem.run_bind, run_isAgg_eq hE ha, Result.andThen, run_load, h1]

theorem cells_rel {v v' : Value} (h : VR ρ v v') : LR ρ v.cells.toList (cellsV v') := by
  cases h <;> first
    | exact ⟨by assumption, by assumption⟩
    | exact LR.cons (by constructor <;> assumption) (LR.nil _)
    | skip
theorem oneCell_rel {v v' : Value} (h : VR ρ v v') (ho : oneCell v' = true) : oneCell v = true := by
  cases h <;> simp_all [oneCell]
theorem allOne_rel {l l' : List Value} (h : LR ρ l l') (ho : allOne l' = true) : ∀ v ∈ l, oneCell v = true := by
  induction l' generalizing l with
  | nil => rw [h.nil_inv]; simp
  | cons a t ih =>
    obtain ⟨x, y, rfl, hx, hy⟩ := h.cons_inv
    simp only [allOne, Bool.and_eq_true] at ho
    intro v hv
    rcases List.mem_cons.1 hv with rfl | hv
    · exact oneCell_rel hx ho.1
    · exact ih hy ho.2 v hv

theorem write_cells (h : HR E.ng ρ H w) {b o : Nat} {p : Pl} {l l' : List Value} (hp : ρ b = some p) (hr : writeCells H b o l' = some H') (hl : LR ρ l l') (h1 : ∀ v ∈ l, oneCell v = true) :
    ∃ w', (storeCells ⟨p.c, p.s + o, none⟩ l).run E.P w = .ok () w' ∧ HR E.ng ρ H' w' ∧ Ext ρ H w ρ H' w' := by
  unfold writeCells at hr
  cases hb : H.get b <;> rw [hb] at hr <;> simp only at hr
  case cells cs k =>
    obtain ⟨hk, hc⟩ := h.cells hp hb
    have halive : H.get b ≠ .none := by rw [hb]; simp
    cases hput : putAt o l' cs with
    | none => rw [hput] at hr; cases hr
    | some cs' =>
      rw [hput] at hr
      simp only [writeCells1, Option.some.injEq] at hr
      subst hr
      obtain ⟨hlen, rfl⟩ := putAt_some hput
      obtain ⟨cells, e, fr, c1, c2, c3, c4, c5, c6⟩ := hc
      have hfit : p.s + o + 0 + l.length ≤ cells.size := by rw [c2, hl.1]; omega
      have hrun := run_store_cells (P := E.P) (p.s + o) l 0 cells w c1 hfit (fun o ho => c5 o (.inl ho)) h1
      refine ⟨_, hrun, ?_⟩
      have hlt := (Array.getElem?_eq_some_iff.1 c1).1
      have hcells : CellsAt ρ (withObj w p.c (.cells (splice cells (p.s + o + 0) l) e fr)) p (cs.take o ++ l' ++ cs.drop (o + l'.length)) := by
        refine ⟨_, e, fr, by rw [withObj_heap _ _ _ _ hlt, if_pos rfl], by rw [splice_size, c2], ?_, ?_, by rw [splice_size]; exact c5, fun i v' hv => ?_⟩
        · simp; omega
        · intro hk0; have := c4 hk0; simp; omega
        · rw [splice_get _ _ _ _ hfit]
          by_cases hi : i < o
          · rw [List.append_assoc, List.getElem?_append_left (by simp; omega), List.getElem?_take_of_lt hi] at hv
            rw [if_neg (by omega)]
            exact c6 i v' hv
          · by_cases hi2 : i < o + l'.length
            · have e1 : (cs.take o).length = o := by simp; omega
              rw [List.append_assoc, List.getElem?_append_right (by omega), e1, List.getElem?_append_left (by omega)] at hv
              obtain ⟨v, a, b'⟩ := hl.get hv
              rw [if_pos (by rw [hl.1]; omega)]
              exact ⟨v, by rw [show p.s + i - (p.s + o + 0) = i - o by omega]; exact a, b'⟩
            · have e1 : (cs.take o ++ l').length = o + l'.length := by simp; omega
              rw [List.getElem?_append_right (by omega), e1, List.getElem?_drop] at hv
              rw [if_neg (by rw [hl.1]; omega)]
              exact c6 i v' (by rwa [show o + l'.length + (i - (o + l'.length)) = i by omega] at hv)
      have hother : ∀ c, c ≠ p.c → (withObj w p.c (.cells (splice cells (p.s + o + 0) l) e fr)).heap[c]? = w.heap[c]? := fun c hne => by
        rw [withObj_heap _ _ _ _ hlt, if_neg hne]
      refine ⟨h.setObj halive hp hother ⟨p, hp, hk, hcells⟩, ?_⟩
      exact { le := ρ.le_refl, size := by rw [withObj_size]; exact Nat.le_refl _, keep := fun c _ hn => hother c (fun e => hn ⟨b, p, halive, hp, e.symm⟩), range := fun c hh => .inr (Held.set halive hh),
              dom := fun _ _ hq => .inl hq, next := by rw [Heap.next_set]; exact Nat.le_refl _, tape := rfl, os := rfl, output := rfl }
  all_goals cases hr

theorem ptr_inv {v : Value} {b o : Nat} {s : Option Nat} (h : VR ρ v (.pointer (some ⟨b, o, s⟩))) : ∃ p, ρ b = some p ∧ v = .pointer (some ⟨p.c, p.s + o, none⟩) := by
  cases h with
  | ptr hp => exact ⟨_, hp, rfl⟩

theorem store_sound (hE : EnvOk E) (h : HR E.ng ρ H w) {t : TypeId} {a a' v v' : Value} (ha : VR ρ a a') (hv : VR ρ v v') (hs : storeV E.tt H t a' v' = some H') :
    ∃ w', (Instr.storeAt t a v).run E.P w = .ok () w' ∧ HR E.ng ρ H' w' ∧ Ext ρ H w ρ H' w' := by
  unfold storeV at hs
  split at hs
  · rename_i x
    obtain ⟨b, o, s⟩ := x
    obtain ⟨p, hp, rfl⟩ := ptr_inv ha
    cases hz : sizeA E.tt t with
    | none => rw [hz] at hs; cases hs
    | some n =>
      rw [hz] at hs
      simp only [store1, store2] at hs
      have hrel := cells_rel hv
      cases hc : (Nat.beq (cellsV v').length n && allOne (cellsV v')) with
      | false => rw [hc] at hs; cases hs
      | true =>
        rw [hc] at hs
        simp only [Bool.and_eq_true] at hc
        have hlen : (cellsV v').length = n := Nat.eq_of_beq_eq_true hc.1
        have hsz : v.cells.size = n := by rw [← hlen, ← hrel.1]; simp
        have hpre : ∀ w', (storeCells ⟨p.c, p.s + o, none⟩ v.cells.toList).run E.P w = .ok () w' → (Instr.storeAt t (.pointer (some ⟨p.c, p.s + o, none⟩)) v).run E.P w = .ok () w' := fun w' hr => by
          simp only [Instr.storeAt, Instr.sureAddr, storeVar, Sem.run_bind, run_sizeOf_eq hE hz, Result.andThen, hsz, ne_eq, not_true_eq_false, if_false, Sem.run_pure]
          exact hr
        cases hcs : cellsV v' with
        | nil =>
          rw [hcs] at hs hrel
          simp only [Option.some.injEq] at hs
          subst hs
          have := hrel.nil_inv
          refine ⟨w, hpre w (by rw [this]; rfl), h, Ext.refl _ _ _⟩
        | cons x xs =>
          rw [hcs] at hs hrel hc
          obtain ⟨w', h1, h2, h3⟩ := write_cells h hp hs hrel (allOne_rel hrel hc.2)
          exact ⟨w', hpre w' h1, h2, h3⟩
  · cases hs
end Ex

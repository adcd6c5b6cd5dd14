/- A verified executor for closed Go calls, part of it: its lemmas carry no condition. -/
import Derived.Laws.Tables
import Derived.Test.YtacchpkmjgdebaaGreatExG
set_option linter.unusedVariables false
set_option linter.unusedSimpArgs false
namespace Ex
open Go
variable {E : Env} {ρ ρ' : Rho} {H H' : Heap} {w w' : World}

theorem zeroA_inv (hE : EnvOk E) {t : TypeId} {z : Value} (h : zeroA E.tt t = some z) : ∃ i, E.P.info? t = some i ∧ i.zero = some z ∧ free z = true := by
  unfold zeroA at h
  cases hi : Ts.info E.tt t with
  | none => rw [hi] at h; cases h
  | some i =>
    rw [hi] at h
    simp only at h
    cases hz : i.zero with
    | none => rw [hz] at h; cases h
    | some z' =>
      rw [hz] at h
      simp only [freeV] at h
      cases hf : free z' with
      | false => rw [hf] at h; cases h
      | true => rw [hf] at h; cases h; exact ⟨i, hE.tt t i hi, hz, hf⟩
theorem runZero {P : Program} {t : TypeId} {i : TypeInfo} {z : Value} (hi : P.info? t = some i) (hz : i.zero = some z) (w : World) : (zeroValue t).run P w = .ok z w := by
  simp only [zeroValue, Sem.run_bind, runTI hi, Result.andThen, hz]; rfl

theorem alloc_new (w : World) (o : Obj) : (w.alloc o).heap[w.heap.size]? = some o := by show (w.heap.push o)[w.heap.size]? = _; simp
theorem VR.newPtr (ρ : Rho) (b c z k : Nat) : VR (ρ.put b ⟨c, 0, z, k⟩) (.pointer (some ⟨c, 0, none⟩)) (ptrAt b 0) := VR.ptr (o := 0) (p := ⟨c, 0, z, k⟩) (Rho.put_same _ _ _)
/-- a new row, whose end is known -/
theorem new_exact (h : HR E.ng ρ H w) {arr cs : List Value} (e : TypeId) (hl : LR ρ arr cs) :
    HR E.ng (ρ.put H.next ⟨w.heap.size, 0, arr.length, 0⟩) (newRowA H cs 0) (w.alloc (.cells ⟨arr⟩ e)) ∧
    Ext ρ H w (ρ.put H.next ⟨w.heap.size, 0, arr.length, 0⟩) (newRowA H cs 0) (w.alloc (.cells ⟨arr⟩ e)) := by
  refine ext_alloc h _ _ _ rfl rfl rfl rfl rfl ?_
  refine ⟨_, Rho.put_same _ _ _, rfl, ?_⟩
  exact Pl.exactCells (alloc_new w _) (hl.mono (Rho.le_put (h.fresh _ (Nat.le_refl _))))

/-- a new row, whose end isn't known -/
theorem new_open (h : HR E.ng ρ H w) {w1 : World} {arr rest cs : List Value} {k : Nat} (e : TypeId) (hk : k ≠ 0) (hl : LR ρ arr cs) (hw : w1.heap = w.heap) (ht : w1.tape = w.tape) (ho : w1.os = w.os) (hout : w1.output = w.output) :
    HR E.ng (ρ.put H.next ⟨w.heap.size, 0, (arr ++ rest).length, k⟩) (newRowA H cs k) (w1.alloc (.cells ⟨arr ++ rest⟩ e)) ∧
    Ext ρ H w (ρ.put H.next ⟨w.heap.size, 0, (arr ++ rest).length, k⟩) (newRowA H cs k) (w1.alloc (.cells ⟨arr ++ rest⟩ e)) := by
  refine ext_alloc h (.cells ⟨arr ++ rest⟩ e) _ _ rfl (by rw [← hw]; rfl) ht ho hout ?_
  refine ⟨_, Rho.put_same _ _ _, rfl, ⟨arr ++ rest⟩, e, (0, 0), (by have := alloc_new w1 (.cells ⟨arr ++ rest⟩ e); rwa [hw] at this), by simp, by simp [hl.1], fun h0 => absurd h0 hk, fun o _ => by simp, fun i v' hv => ?_⟩
  obtain ⟨v, a, b⟩ := (hl.mono (Rho.le_put (h.fresh _ (Nat.le_refl _)))).get hv
  have hi := (List.getElem?_eq_some_iff.1 a).1
  refine ⟨v, ?_, b⟩
  simp only [Nat.zero_add, List.getElem?_toArray, List.getElem?_append_left hi]
  exact a

theorem newVar_res (h : HR E.ng ρ H w) {v v' : Value} {l' : List Value} (t : TypeId) {u : Value} {s : Sem Value} (hl : LR ρ v.cells.toList l') (hs : s = (do pure (.pointer (some (← Go.newVar t v))))) (hn : Ex.newVar H l' = .ok u H') :
    OpRes E ρ H w (do pure (Next.value (← s))) u H' := by
  cases hn
  obtain ⟨h1, h2⟩ := new_exact h t hl
  have hr : s.run E.P w = .ok (.pointer (some ⟨w.heap.size, 0, none⟩)) (w.alloc (.cells ⟨v.cells.toList⟩ t)) := by
    rw [hs]; rfl
  exact ⟨_, _, _, .inl (run_v hr), .newPtr _ _ _ _ _, h1, h2⟩

theorem alloc_sound (hE : EnvOk E) (h : HR E.ng ρ H w) {t : TypeId} {v' z : Value} (hz : zeroA E.tt t = some z) (hn : Ex.newVar H (cellsV z) = .ok v' H') :
    OpRes E ρ H w (do pure (Next.value (← Instr.alloc t true (.tuple #[])))) v' H' := by
  obtain ⟨i, hi, hzi, hf⟩ := zeroA_inv hE hz
  have hrel := cells_rel (VR.of_free ρ z hf)
  cases hn
  obtain ⟨h1, h2⟩ := new_exact h t hrel
  have hr : (Instr.alloc t true (.tuple #[])).run E.P w = .ok (.pointer (some ⟨w.heap.size, 0, none⟩)) (w.alloc (.cells ⟨z.cells.toList⟩ t)) := by
    simp only [Instr.alloc, Sem.run_bind, runZero hi hzi, Result.andThen]; rfl
  exact ⟨_, _, _, .inl (run_v hr), .newPtr _ _ _ _ _, h1, h2⟩

/-! parts of a literal -/
inductive PR (ρ : Rho) : List (Nat × Value) → List (Nat × Value) → Prop
  | nil : PR ρ [] []
  | cons {i : Nat} {v v' : Value} {l l' : List (Nat × Value)} (h : VR ρ v v') (t : PR ρ l l') : PR ρ ((i, v) :: l) ((i, v') :: l')

theorem splice_rel {cells : Array Value} {cs l l' : List Value} {off : Nat} (hc : LR ρ cells.toList cs) (hl : LR ρ l l') (ho : off + l'.length ≤ cs.length) :
    LR ρ (splice cells off l).toList (cs.take off ++ l' ++ cs.drop (off + l'.length)) := by
  have hsz : cells.size = cs.length := by rw [← hc.1]; simp
  have hfit : off + l.length ≤ cells.size := by rw [hsz, hl.1]; exact ho
  refine ⟨?_, fun i u v a b => ?_⟩
  · simp [splice_size, hsz]; omega
  · rw [Array.getElem?_toList, splice_get _ _ _ _ hfit] at a
    by_cases hi : i < off
    · rw [if_neg (by omega)] at a
      rw [List.append_assoc, List.getElem?_append_left (by simp; omega), List.getElem?_take_of_lt hi] at b
      exact hc.2 i u v (by simpa using a) b
    · by_cases hi2 : i < off + l'.length
      · have e1 : (cs.take off).length = off := by simp; omega
        rw [List.append_assoc, List.getElem?_append_right (by omega), e1, List.getElem?_append_left (by omega)] at b
        rw [if_pos (by rw [hl.1]; omega)] at a
        exact hl.2 _ u v a b
      · have e1 : (cs.take off ++ l').length = off + l'.length := by simp; omega
        rw [List.getElem?_append_right (by omega), e1, List.getElem?_drop] at b
        rw [if_neg (by rw [hl.1]; omega)] at a
        exact hc.2 i u v (by simpa using a) (by rwa [show off + l'.length + (i - (off + l'.length)) = i by omega] at b)

theorem foldl_splice : ∀ (l : List Value) (k off : Nat) (cells : Array Value), (l.zipIdx k).foldl (fun cs (x : Value × Nat) => cs.setIfInBounds (off + x.2) x.1) cells = splice cells (off + k) l
  | [], _, _, _ => rfl
  | v :: l, k, off, cells => by
    simp only [List.zipIdx_cons, List.foldl_cons, splice]
    rw [foldl_splice l (k + 1) off]
    rfl

theorem fill_sound {place : Nat → Option (Nat × Nat)} {place' : Nat → Option (Nat × Nat)} (hp : ∀ i x, place' i = some x → place i = some x) : ∀ {parts parts' : List (Nat × Value)} {cells : Array Value} {cs r' : List Value},
    PR ρ parts parts' → LR ρ cells.toList cs → fillA place' parts' cs = some r' → ∃ r, Instr.fill place cells parts = some r ∧ LR ρ r.toList r' := by
  intro parts parts'
  induction parts' generalizing parts with
  | nil =>
    intro cells cs r' hpr hc hf
    cases hpr
    cases hf
    exact ⟨cells, rfl, hc⟩
  | cons x l' ih =>
    intro cells cs r' hpr hc hf
    cases hpr with
    | cons hv ht =>
      rename_i i v v' l
      simp only [fillA] at hf
      cases hq : place' i with
      | none => rw [hq] at hf; cases hf
      | some q =>
        obtain ⟨off, size⟩ := q
        rw [hq] at hf
        simp only [fill2] at hf
        cases hb : Nat.beq (cellsV v').length size with
        | false => rw [hb] at hf; cases hf
        | true =>
          rw [hb] at hf
          simp only at hf
          cases hpa : putAt off (cellsV v') cs with
          | none => rw [hpa] at hf; cases hf
          | some cs1 =>
            rw [hpa] at hf
            obtain ⟨hlen, rfl⟩ := putAt_some hpa
            have hrel := cells_rel hv
            have hsz : v.cells.size = size := by rw [← Nat.eq_of_beq_eq_true hb, ← hrel.1]; simp
            have hcs : cells.size = cs.length := by rw [← hc.1]; simp
            obtain ⟨r, h1, h2⟩ := ih ht (splice_rel hc hrel hlen) hf
            refine ⟨r, ?_, h2⟩
            simp only [Instr.fill, hp i _ hq]
            have hcond : ¬ (v.cells.size ≠ size || off + v.cells.size > cells.size) = true := by
              have : off + v.cells.size ≤ cells.size := by rw [hcs, hsz, ← Nat.eq_of_beq_eq_true hb]; exact hlen
              simp [hsz]; omega
            rw [if_neg hcond]
            have hfold : v.cells.zipIdx.foldl (fun cs (c, j) => cs.setIfInBounds (off + j) c) cells = splice cells off v.cells.toList := by
              rw [← Array.foldl_toList, Array.toList_zipIdx]
              exact foldl_splice v.cells.toList 0 off cells
            rw [hfold]
            exact h1

theorem places_of (hE : EnvOk E) : ∀ (fs : List Field), allSized E.tt fs = true → ∃ places, fs.mapM (fun f => (E.P.info? f.type).map fun i => (f.offset, i.size)) = some places ∧
    ∀ (i : Nat) f, fs[i]? = some f → ∀ n, sizeA E.tt f.type = some n → places[i]? = some (f.offset, n)
  | [], _ => ⟨[], rfl, by simp⟩
  | f :: fs, h => by
    simp only [allSized] at h
    cases hs : sizeA E.tt f.type with
    | none => rw [hs] at h; cases h
    | some n =>
      rw [hs] at h
      obtain ⟨places, h1, h2⟩ := places_of hE fs h
      obtain ⟨i, hi, hn⟩ := size_eq hE hs
      refine ⟨(f.offset, n) :: places, by simp [List.mapM_cons, hi, h1, hn], fun j g hg m hm => ?_⟩
      cases j with
      | zero => simp at hg; subst hg; rw [hs] at hm; cases hm; rfl
      | succ j => simp at hg ⊢; exact h2 j g hg m hm

theorem build_sound (hE : EnvOk E) {t : TypeId} {parts : Array (Nat × Value)} {parts' : List (Nat × Value)} {v' : Value} (hp : PR ρ parts.toList parts') (hb : buildA E.tt t parts' = some v') (w : World) :
    ∃ v, (Instr.build t parts).run E.P w = .ok v w ∧ VR ρ v v' := by
  unfold buildA at hb
  cases hz : zeroA E.tt t with
  | none => rw [hz] at hb; cases hb
  | some z =>
    rw [hz] at hb
    obtain ⟨i, hi, hzi, hf⟩ := zeroA_inv hE hz
    have hrel := cells_rel (VR.of_free ρ z hf)
    simp only [buildA2] at hb
    split at hb
    · rename_i fs hd
      have hu := und_eq hE hd
      split at hb
      · rename_i hall
        obtain ⟨places, h1, h2⟩ := places_of hE _ hall
        cases hfl : fillA (structPlace E.tt t) parts' (cellsV z) with
        | none => rw [hfl] at hb; cases hb
        | some r' =>
          rw [hfl] at hb
          cases hb
          obtain ⟨r, g1, g2⟩ := fill_sound (place := (places.toArray[·]?)) (fun j x hx => by
            unfold structPlace at hx
            cases hfo : fieldOf E.tt t j with
            | none => rw [hfo] at hx; cases hx
            | some y =>
              rw [hfo] at hx
              obtain ⟨fs2, fd, hu2, hfd, he, hs⟩ := fieldOf_inv hE hfo
              rw [hu] at hu2; cases hu2
              obtain ⟨a, b, c⟩ := y
              simp only [Prod.mk.injEq] at he
              obtain ⟨rfl, rfl, -⟩ := he
              cases hx
              have := h2 j fd (by simpa using hfd) c hs
              simpa using this) hp hrel hfl
          refine ⟨.agg r, run_build w t parts r ?_, VR.agg_of g2⟩
          simp only [Program.built, hi, hu, hzi, h1]
          exact g1
      · cases hb
    · rename_i n e hd
      have hu := und_eq hE hd
      cases hs : sizeA E.tt e with
      | none => rw [hs] at hb; cases hb
      | some m =>
        rw [hs] at hb
        cases hfl : fillA (elemPlace m) parts' (cellsV z) with
        | none => simp only [hfl] at hb; cases hb
        | some r' =>
          simp only [hfl] at hb
          cases hb
          obtain ⟨r, g1, g2⟩ := fill_sound (place := fun i => some (i * m, m)) (fun j x hx => hx) hp hrel hfl
          obtain ⟨ie, hie, hm⟩ := size_eq hE hs
          refine ⟨.agg r, run_build w t parts r ?_, VR.agg_of g2⟩
          simp only [Program.built, hi, hu, hzi, hie, hm]
          exact g1
    · cases hb
end Ex

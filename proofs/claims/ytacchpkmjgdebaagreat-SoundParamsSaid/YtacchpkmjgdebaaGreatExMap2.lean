/- A verified executor for closed Go calls, part of it: its lemmas carry no condition. -/
import Derived.Test.YtacchpkmjgdebaaGreatExMap
set_option linter.unusedVariables false
set_option linter.unusedSimpArgs false
namespace Ex
open Go
variable {E : Env} {ρ ρ' : Rho} {H H' : Heap} {w w' : World}

theorem put_obj (h : HR E.ng ρ H w) {b l : Nat} {x : Obj} {o o' : AObj} (hb : H.get b = o') (hn : o' ≠ .none) (hp : ρ b = some ⟨l, 0, 0, 0⟩) (hlt : l < w.heap.size) (ho : ∀ w', w'.heap[l]? = some x → ObjAt ρ w' b o) :
    HR E.ng ρ (H.set b o) (withObj w l x) ∧ Ext ρ H w ρ (H.set b o) (withObj w l x) := by
  have halive : H.get b ≠ .none := by rw [hb]; exact hn
  refine ⟨h.setObj halive hp (fun c hc => by rw [withObj_heap _ _ _ _ hlt, if_neg hc]) (ho _ (by rw [withObj_heap _ _ _ _ hlt, if_pos rfl])), ?_⟩
  exact { le := ρ.le_refl, size := by rw [withObj_size]; exact Nat.le_refl _, keep := fun c _ hn => by rw [withObj_heap _ _ _ _ hlt, if_neg (fun e => hn ⟨b, _, halive, hp, e.symm⟩)], range := fun c hh => .inr (Held.set halive hh),
          dom := fun _ _ hq => .inl hq, next := by rw [Heap.next_set]; exact Nat.le_refl _, tape := rfl, os := rfl, output := rfl }

theorem new_obj (h : HR E.ng ρ H w) {x : Obj} {o : AObj} (ho : ∀ (ρ' : Rho) (w' : World), ρ.le ρ' → ρ' H.next = some ⟨w.heap.size, 0, 0, 0⟩ → w'.heap[w.heap.size]? = some x → ObjAt ρ' w' H.next o) :
    HR E.ng (ρ.put H.next ⟨w.heap.size, 0, 0, 0⟩) (H.add o) (w.alloc x) ∧ Ext ρ H w (ρ.put H.next ⟨w.heap.size, 0, 0, 0⟩) (H.add o) (w.alloc x) :=
  ext_alloc h x o ⟨w.heap.size, 0, 0, 0⟩ rfl rfl rfl rfl rfl (ho _ _ (Rho.le_put (h.fresh _ (Nat.le_refl _))) (Rho.put_same _ _ _) (alloc_new w _))

theorem makeMap_sound (h : HR E.ng ρ H w) {ty : TypeId} : OpRes E ρ H w (do pure (Next.value (← Instr.makeMap ty none))) (.map (some H.next)) (H.add (.map [])) := by
  obtain ⟨h1, h2⟩ := new_obj h (x := .map #[] 0) (o := .map []) (fun ρ' w' _ hp hw => ⟨_, _, hp, hw, .nil 0⟩)
  have hr : (Instr.makeMap ty none).run E.P w = .ok (.map (some w.heap.size)) (w.alloc (.map #[] 0)) := rfl
  exact ⟨_, _, _, .inl (run_v hr), .mp (Rho.put_same _ _ _), h1, h2⟩

theorem range_sound (hE : EnvOk E) (h : HR E.ng ρ H w) {ty : TypeId} {x x' v' : Value} (hx : VR ρ x x') (hr : rangeA2 H x' (mapD (E.tt.und ty)) = .ok v' H') :
    OpRes E ρ H w (do pure (Next.value (← Instr.range ty x))) v' H' := by
  unfold rangeA2 at hr
  cases hd : mapD (E.tt.und ty) with
  | none => rw [hd] at hr; cases hr
  | some d =>
    obtain ⟨kt, et⟩ := d
    rw [hd] at hr
    have hund := mapD_eq hE hd w
    simp only at hr
    unfold rangeMap at hr
    split at hr
    · cases hx; cases hr
      obtain ⟨h1, h2⟩ := new_obj h (x := .mapIter none 0 #[] 0) (o := .iter none 0 [] 0) (fun ρ' w' _ hp hw => ⟨_, _, hp, hw, fun _ => rfl, fun mb hm => (by cases hm)⟩)
      have hrun : (Instr.range ty (.map none)).run E.P w = .ok (.pointer (some ⟨w.heap.size, 0, none⟩)) (w.alloc (.mapIter none 0 #[] 0)) := by
        simp only [Instr.range, Sem.run_bind, hund, Result.andThen]; rfl
      exact ⟨_, _, _, .inl (run_v hrun), .newPtr _ _ _ _ _, h1, h2⟩
    · rename_i b
      split at hr
      · rename_i es hb
        cases hr
        cases hx with
        | mp hp =>
          have := h.obj b
          rw [hb] at this
          obtain ⟨l, mes, g1, g2, g3⟩ := this
          rw [hp] at g1; cases g1
          rename_i l
          obtain ⟨h1, h2⟩ := new_obj h (x := .mapIter (some l) es.length #[] es.length) (o := .iter (some b) es.length [] es.length) (fun ρ' w' hle hp' hw => ⟨_, _, hp', hw, fun hm => (by cases hm), fun mb hm => by cases hm; exact ⟨l, rfl, hle _ _ hp⟩⟩)
          have hrun : (Instr.range ty (.map (some l))).run E.P w = .ok (.pointer (some ⟨w.heap.size, 0, none⟩)) (w.alloc (.mapIter (some l) es.length #[] es.length)) := by
            simp only [Instr.range, Sem.run_bind, hund, Result.andThen, run_getMap g2]; rfl
          exact ⟨_, _, _, .inl (run_v hrun), .newPtr _ _ _ _ _, h1, h2⟩
      · cases hr
    · cases hr

theorem iter_inv (h : HR E.ng ρ H w) {b : Nat} {x : Value} {s : _} {m : Option Nat} {since last : Nat} {seen : List Nat} (hx : VR ρ x (.pointer (some ⟨b, 0, s⟩))) (hb : H.get b = .iter m since seen last) :
    ∃ l m', x = .pointer (some ⟨l, 0, none⟩) ∧ ρ b = some ⟨l, 0, 0, 0⟩ ∧ w.heap[l]? = some (.mapIter m' since seen.toArray last) ∧ (m = none → m' = none) ∧ (∀ mb, m = some mb → ∃ c, m' = some c ∧ ρ mb = some ⟨c, 0, 0, 0⟩) := by
  have := h.obj b
  rw [hb] at this
  obtain ⟨l, m', g1, g2, g0, g3⟩ := this
  cases hx with
  | ptr hp =>
    rw [g1] at hp; cases hp
    exact ⟨l, m', rfl, g1, g2, g0, g3⟩

theorem map_inv (h : HR E.ng ρ H w) {b c : Nat} {es : List (Value × Value)} (hp : ρ b = some ⟨c, 0, 0, 0⟩) (hb : H.get b = .map es) : ∃ mes, w.heap[c]? = some (.map mes es.length) ∧ MR ρ mes.toList 0 es := by
  have := h.obj b
  rw [hb] at this
  obtain ⟨l, mes, g1, g2, g3⟩ := this
  rw [hp] at g1; cases g1
  exact ⟨mes, g2, g3⟩
theorem MR.one_inv {mes : Array MapEntry} {kv : Value × Value} (h : MR ρ mes.toList 0 [kv]) : ∃ e, mes = #[e] ∧ VR ρ e.key kv.1 ∧ VR ρ e.val kv.2 ∧ e.born = 0 := by
  obtain ⟨l⟩ := mes
  cases h with
  | cons hk hv hb t =>
    rename_i e es k v
    cases t with
    | nil => exact ⟨_, rfl, hk, hv, hb⟩
theorem MR.zero_inv {mes : Array MapEntry} (h : MR ρ mes.toList 0 []) : mes = #[] := by
  obtain ⟨l⟩ := mes
  cases h with
  | nil => rfl

theorem over_rel : VR ρ (.tuple #[.bool false]) over := .tuple _ _ rfl (LR.cons (.bool false) (LR.nil ρ)).2

theorem next_sound (h : HR E.ng ρ H w) {ty : TypeId} {x x' v' : Value} {str : Bool} (hx : VR ρ x x') (hr : nextA H x' str = .ok v' H') :
    OpRes E ρ H w (do pure (Next.value (← Instr.next x str ty))) v' H' := by
  unfold nextA at hr
  cases str with
  | true => cases hr
  | false =>
    simp only at hr
    split at hr
    · rename_i b s
      unfold nextAt at hr
      split at hr
      · rename_i m since seen last hb
        obtain ⟨l, m', rfl, hp, hh, hm0, hmm⟩ := iter_inv h hx hb
        have hlt := (Array.getElem?_eq_some_iff.1 hh).1
        cases m with
        | none =>
          cases hr
          cases hm0 rfl
          have hrun : (Instr.next (.pointer (some ⟨l, 0, none⟩)) false ty).run E.P w = .ok (.tuple #[.bool false]) w := by
            simp only [Instr.next, Sem.run_bind, run_getIter hh, Result.andThen]; rfl
          exact OpRes.val h (run_v hrun) over_rel
        | some m =>
          obtain ⟨c, rfl, hpc⟩ := hmm m rfl
          simp only [nextIn] at hr
          split at hr
          · rename_i es hm
            obtain ⟨mes, hmes, hMR⟩ := map_inv h hpc hm
            unfold nextOne at hr
            split at hr
            · cases hr
              have := hMR.zero_inv
              subst this
              have hrun : (Instr.next (.pointer (some ⟨l, 0, none⟩)) false ty).run E.P w = .ok (.tuple #[.bool false]) w := by
                have e1 : ∀ (p : MapEntry → Bool), Array.filter p #[] 0 0 = #[] := fun _ => rfl
                simp only [Instr.next, Sem.run_bind, run_getIter hh, run_getMap hmes, Result.andThen]
                simp [choose, Sem.run, Question.forced, e1]
              exact OpRes.val h (run_v hrun) over_rel
            · rename_i kv
              obtain ⟨e, rfl, hk, hv, hborn⟩ := hMR.one_inv
              split at hr
              · cases hs : Nat.beq since 1 with
                | false => rw [hs] at hr; cases hr
                | true =>
                  rw [hs] at hr
                  cases hr
                  have hs1 : since = 1 := Nat.eq_of_beq_eq_true hs
                  subst hs1
                  have hrun : (Instr.next (.pointer (some ⟨l, 0, none⟩)) false ty).run E.P w = .ok (.tuple #[.bool true, e.key, e.val]) (withObj w l (.mapIter (some c) 1 #[0] 1)) := by
                    simp only [Instr.next, Sem.run_bind, run_getIter hh, run_getMap hmes, Result.andThen]
                    simp [choose, Sem.run, Question.forced, hborn, setObj, hh, withObj, Result.andThen]
                  obtain ⟨g1, g2⟩ := put_obj h (x := .mapIter (some c) 1 #[0] 1) (o := .iter (some m) 1 [0] 1) hb (by simp) hp hlt (fun w' hw => ⟨l, some c, hp, hw, fun hm => (by cases hm), fun mb hm => by cases hm; exact ⟨c, rfl, hpc⟩⟩)
                  exact ⟨ρ, _, _, .inl (run_v hrun), .tuple _ _ rfl (LR.cons (.bool true) (LR.cons hk (LR.cons hv (LR.nil ρ)))).2, g1, g2⟩
              · cases hs : Nat.beq last 1 with
                | false => rw [hs] at hr; cases hr
                | true =>
                  rw [hs] at hr
                  cases hr
                  have hs1 : last = 1 := Nat.eq_of_beq_eq_true hs
                  subst hs1
                  have hrun : (Instr.next (.pointer (some ⟨l, 0, none⟩)) false ty).run E.P w = .ok (.tuple #[.bool false]) w := by
                    simp only [Instr.next, Sem.run_bind, run_getIter hh, run_getMap hmes, Result.andThen]
                    simp [choose, Sem.run, Question.forced, hborn, Result.andThen]
                  exact OpRes.val h (run_v hrun) over_rel
              · cases hr
            · cases hr
          · cases hr
      · cases hr
    · cases hr

theorem entry_sound (h : HR E.ng ρ H w) {x x' v' : Value} (hx : VR ρ x x') (hr : entryA H x' = some v') : ∃ v, (Instr.entry x).run E.P w = .ok v w ∧ VR ρ v v' := by
  unfold entryA at hr
  split at hr
  · rename_i b s
    unfold entAt at hr
    split at hr
    · rename_i m since seen last hb
      obtain ⟨l, m', rfl, hp, hh, hm0, hmm⟩ := iter_inv h hx hb
      obtain ⟨c, rfl, hpc⟩ := hmm m rfl
      unfold entOne at hr
      split at hr
      · rename_i kv hm
        obtain ⟨mes, hmes, hMR⟩ := map_inv h hpc hm
        obtain ⟨e, rfl, hk, hv, hborn⟩ := hMR.one_inv
        split at hr
        · cases hs : Nat.beq last 1 with
          | false => rw [hs] at hr; cases hr
          | true =>
            rw [hs] at hr
            cases hr
            have hs1 : last = 1 := Nat.eq_of_beq_eq_true hs
            subst hs1
            refine ⟨.tuple #[e.key, e.val], ?_, .tuple _ _ rfl (LR.cons hk (LR.cons hv (LR.nil ρ))).2⟩
            simp only [Instr.entry, Sem.run_bind, run_getIter hh, Result.andThen]
            simp [run_getMap hmes, Result.andThen, hborn]
        · cases hr
      · cases hr
    · cases hr
  · cases hr
end Ex

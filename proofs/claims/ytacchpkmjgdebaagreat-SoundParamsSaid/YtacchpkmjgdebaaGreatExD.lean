/- A verified executor for closed Go calls, part of it: its lemmas carry no condition. -/
import Derived.Test.YtacchpkmjgdebaaGreatExC
set_option linter.unusedVariables false
set_option linter.unusedSimpArgs false
namespace Ex
open Go
variable {ng : Nat} {ρ ρ' : Rho} {H : Heap} {w w' : World}

theorem nth_eq {α : Type} : ∀ (l : List α) (n : Nat), nth l n = l[n]?
  | [], n => by simp [nth]
  | x :: l, 0 => rfl
  | x :: l, n + 1 => by rw [List.getElem?_cons_succ, ← nth_eq l n]; rfl
theorem dropL_eq {α : Type} : ∀ (n : Nat) (l : List α), dropL n l = l.drop n
  | 0, l => rfl
  | n + 1, [] => rfl
  | n + 1, x :: l => by rw [List.drop_succ_cons, ← dropL_eq n l]; rfl
theorem takeL_eq {α : Type} : ∀ (n : Nat) (l : List α), takeL n l = if n ≤ l.length then some (l.take n) else none
  | 0, l => by show some [] = _; simp
  | n + 1, [] => by simp [takeL]
  | n + 1, x :: l => by
    have : takeL (n + 1) (x :: l) = (match takeL n l with | some r => some (x :: r) | none => none) := by
      show @Option.rec (List α) (fun _ => Option (List α)) none (fun r => some (x :: r)) (takeL n l) = _
      cases takeL n l <;> rfl
    rw [this, takeL_eq n l]
    by_cases h : n ≤ l.length <;> simp [h]
theorem takeL_some {α : Type} {n : Nat} {l r : List α} (h : takeL n l = some r) : n ≤ l.length ∧ r = l.take n := by
  rw [takeL_eq] at h
  split at h <;> simp_all
theorem putL_eq : ∀ (vs l : List Value), putL vs l = if vs.length ≤ l.length then some (vs ++ l.drop vs.length) else none
  | [], l => by simp [putL]
  | v :: vs, [] => by simp [putL]
  | v :: vs, x :: l => by
    have : putL (v :: vs) (x :: l) = (match putL vs l with | some r => some (v :: r) | none => none) := by
      show @Option.rec (List Value) (fun _ => Option (List Value)) none (fun r => some (v :: r)) (putL vs l) = _
      cases putL vs l <;> rfl
    rw [this, putL_eq vs l]
    by_cases h : vs.length ≤ l.length <;> simp [h]
theorem putAt_eq : ∀ (n : Nat) (vs l : List Value), putAt n vs l = if n + vs.length ≤ l.length then some (l.take n ++ vs ++ l.drop (n + vs.length)) else none
  | 0, vs, l => by
    show putL vs l = _
    rw [putL_eq]; simp
  | n + 1, vs, [] => by simp [putAt]
  | n + 1, vs, x :: l => by
    have : putAt (n + 1) vs (x :: l) = (match putAt n vs l with | some r => some (x :: r) | none => none) := by
      show @Option.rec (List Value) (fun _ => Option (List Value)) none (fun r => some (x :: r)) (putAt n vs l) = _
      cases putAt n vs l <;> rfl
    rw [this, putAt_eq n vs l]
    by_cases h : n + vs.length ≤ l.length
    · rw [if_pos h, if_pos (by simp; omega)]
      simp [show n + 1 + vs.length = n + vs.length + 1 by omega]
    · rw [if_neg h, if_neg (by simp; omega)]
theorem putAt_some {n : Nat} {vs l r : List Value} (h : putAt n vs l = some r) : n + vs.length ≤ l.length ∧ r = l.take n ++ vs ++ l.drop (n + vs.length) := by
  rw [putAt_eq] at h
  split at h
  · exact ⟨by assumption, (Option.some.inj h).symm⟩
  · cases h

theorem get_of_alive {t : Tr AObj} : ∀ {b : Nat}, Tr.get .none t b ≠ .none → t.has b = true := by
  induction t with
  | nil => intro b h; exact absurd rfl h
  | node v l r ihl ihr =>
    intro b h
    cases b with
    | zero => rfl
    | succ m =>
      rw [Tr.get_succ] at h
      simp only [Tr.has]
      cases hb : Nat.beq (m % 2) 0 <;> rw [hb] at h
      · exact ihr h
      · exact ihl h

theorem Heap.get_set_same (H : Heap) {b : Nat} (o : AObj) (h : H.get b ≠ .none) : (H.set b o).get b = o := by
  cases H; exact Tr.get_set_same _ _ _ _ (get_of_alive h)

theorem HR.world (h : HR ng ρ H w) (hw : w'.heap = w.heap) : HR ng ρ H w' :=
  ⟨fun b => (h.obj b).mono ρ.le_refl (fun p _ => by rw [hw]), h.inj, h.fresh, h.glob⟩

/-- an object that is alive becomes another one, where it lies -/
theorem HR.setObj (h : HR ng ρ H w) {b : Nat} {p : Pl} {o : AObj} (hb : H.get b ≠ .none) (hp : ρ b = some p) (hw : ∀ c, c ≠ p.c → w'.heap[c]? = w.heap[c]?) (ho : ObjAt ρ w' b o) :
    HR ng ρ (H.set b o) w' where
  obj b' := by
    by_cases e : b' = b
    · subst e; rw [Heap.get_set_same H o hb]; exact ho
    · rw [Heap.get_set_ne H o e]
      by_cases hn : H.get b' = .none
      · rw [hn]; trivial
      · exact (h.obj b').mono ρ.le_refl (fun q hq => hw _ (fun ec => e (h.inj b' b q p hn hb hq hp ec)))
  inj b1 b2 p1 p2 h1 h2 := by
    have alive : ∀ x, (H.set b o).get x ≠ .none → H.get x ≠ .none := fun x hx => by
      by_cases e : x = b
      · subst e; exact hb
      · rwa [Heap.get_set_ne H o e] at hx
    exact h.inj b1 b2 p1 p2 (alive _ h1) (alive _ h2)
  fresh b' hb' := h.fresh b' (by rwa [Heap.next_set] at hb')
  glob := h.glob

theorem Held.set {b c : Nat} {o : AObj} (hb : H.get b ≠ .none) (h : Held ρ (H.set b o) c) : Held ρ H c := by
  obtain ⟨b', p, h1, h2, h3⟩ := h
  refine ⟨b', p, ?_, h2, h3⟩
  by_cases e : b' = b
  · subst e; exact hb
  · rwa [Heap.get_set_ne H o e] at h1

theorem HR.kill (h : HR ng ρ H w) {b : Nat} (hb : H.get b ≠ .none) : HR ng ρ (H.set b .none) w where
  obj b' := by
    by_cases e : b' = b
    · subst e; rw [Heap.get_set_same H _ hb]; trivial
    · rw [Heap.get_set_ne H _ e]; exact h.obj b'
  inj b1 b2 p1 p2 h1 h2 := by
    have alive : ∀ x, (H.set b .none).get x ≠ .none → H.get x ≠ .none := fun x hx => by
      by_cases e : x = b
      · subst e; exact hb
      · rwa [Heap.get_set_ne H _ e] at hx
    exact h.inj b1 b2 p1 p2 (alive _ h1) (alive _ h2)
  fresh b' hb' := h.fresh b' (by rwa [Heap.next_set] at hb')
  glob := h.glob

def Rho.put (ρ : Rho) (b : Nat) (p : Pl) : Rho := fun x => if x = b then some p else ρ x
theorem Rho.put_same (ρ : Rho) (b : Nat) (p : Pl) : ρ.put b p b = some p := by simp [Rho.put]
theorem Rho.put_ne (ρ : Rho) {b x : Nat} (p : Pl) (h : x ≠ b) : ρ.put b p x = ρ x := by simp [Rho.put, h]
theorem Rho.le_put {ρ : Rho} {b : Nat} {p : Pl} (h : ρ b = none) : ρ.le (ρ.put b p) := fun x q hq => by
  rw [Rho.put_ne]; exact hq; intro e; subst e; rw [h] at hq; cases hq

/-- a new object -/
theorem HR.addObj (h : HR ng ρ H w) {p : Pl} {o : AObj} (hfree : ¬ Held ρ H p.c) (hw : ∀ c, Held ρ H c → w'.heap[c]? = w.heap[c]?) (ho : ObjAt (ρ.put H.next p) w' H.next o) :
    HR ng (ρ.put H.next p) (H.add o) w' := by
  have hle : ρ.le (ρ.put H.next p) := Rho.le_put (h.fresh _ (Nat.le_refl _))
  have hlt : ∀ b, b ≠ H.next → (ρ.put H.next p) b = ρ b := fun b hb => Rho.put_ne ρ p hb
  have old : ∀ b, b ≠ H.next → (H.add o).get b = H.get b := fun b hb => by
    rcases Heap.get_add H b o with h1 | ⟨h1, _⟩
    · exact h1
    · exact absurd h1 hb
  have dead : H.get H.next = .none := by
    have hf := h.fresh H.next (Nat.le_refl _)
    by_cases hn : H.get H.next = .none
    · exact hn
    · obtain ⟨q, hq, _⟩ := (h.obj H.next).place hn
      rw [hf] at hq; cases hq
  refine ⟨fun b => ?_, ?_, ?_, ?_⟩
  · by_cases e : b = H.next
    · subst e
      rcases Heap.get_add H H.next o with h1 | ⟨_, h1⟩
      · rw [h1, dead]; trivial
      · rw [h1]; exact ho
    · rw [old b e]
      by_cases hn : H.get b = .none
      · rw [hn]; trivial
      · exact (h.obj b).mono hle (fun q hq => hw _ ⟨b, q, hn, hq, rfl⟩)
  · intro b1 b2 p1 p2 h1 h2 e1 e2 ec
    by_cases x1 : b1 = H.next <;> by_cases x2 : b2 = H.next
    · rw [x1, x2]
    · subst x1; rw [Rho.put_same] at e1; cases e1; rw [hlt _ x2] at e2; rw [old _ x2] at h2
      exact absurd ⟨b2, p2, h2, e2, ec.symm⟩ hfree
    · subst x2; rw [Rho.put_same] at e2; cases e2; rw [hlt _ x1] at e1; rw [old _ x1] at h1
      exact absurd ⟨b1, p1, h1, e1, ec⟩ hfree
    · rw [old _ x1] at h1; rw [old _ x2] at h2; rw [hlt _ x1] at e1; rw [hlt _ x2] at e2
      exact h.inj b1 b2 p1 p2 h1 h2 e1 e2 ec
  · intro b hb
    rw [Heap.next_add] at hb
    rw [hlt b (by omega)]; exact h.fresh b (by omega)
  · intro g hg
    obtain ⟨z, hz⟩ := h.glob g hg
    refine ⟨z, hle _ _ hz⟩

theorem Held.add {p : Pl} {o : AObj} {c : Nat} (h : Held (ρ.put H.next p) (H.add o) c) : c = p.c ∨ Held ρ H c := by
  obtain ⟨b, q, h1, h2, h3⟩ := h
  by_cases e : b = H.next
  · subst e; rw [Rho.put_same] at h2; cases h2; exact .inl h3.symm
  · rw [Rho.put_ne _ _ e] at h2
    rcases Heap.get_add H b o with hb | ⟨hb, _⟩
    · rw [hb] at h1; exact .inr ⟨b, q, h1, h2, h3⟩
    · exact absurd hb e

theorem Held.lt (h : HR ng ρ H w) {c : Nat} (hc : Held ρ H c) : c < w.heap.size := by
  obtain ⟨b, p, h1, h2, rfl⟩ := hc
  exact h.lt h1 h2

/-- a new block of memory, and what stands for it -/
theorem ext_alloc (h : HR ng ρ H w) (x : Obj) (o : AObj) (p : Pl) (hc : p.c = w.heap.size) (hw : w'.heap = w.heap.push x) (ht : w'.tape = w.tape) (hos : w'.os = w.os) (hout : w'.output = w.output)
    (ho : ObjAt (ρ.put H.next p) w' H.next o) : HR ng (ρ.put H.next p) (H.add o) w' ∧ Ext ρ H w (ρ.put H.next p) (H.add o) w' := by
  have hget : ∀ c, c < w.heap.size → w'.heap[c]? = w.heap[c]? := fun c hlt => by rw [hw, Array.getElem?_push_lt hlt]; simp [hlt]
  refine ⟨h.addObj (fun hh => by have := Held.lt h hh; omega) (fun c hh => hget c (Held.lt h hh)) ho, ?_⟩
  exact { le := Rho.le_put (h.fresh _ (Nat.le_refl _)), size := by rw [hw]; simp, keep := fun c hlt _ => hget c hlt,
          range := fun c hh => (Held.add hh).elim (fun e => .inl (by omega)) .inr,
          dom := fun b q hq => by
            by_cases e : b = H.next
            · exact .inr (by omega)
            · rw [Rho.put_ne _ _ e] at hq; exact .inl hq
          next := by rw [Heap.next_add]; omega, tape := ht, os := hos, output := hout }

theorem Pl.exactCells {ρ : Rho} {w : World} {c : Nat} {arr : List Value} {e : TypeId} {cs : List Value} (hw : w.heap[c]? = some (.cells ⟨arr⟩ e (0, 0))) (h : LR ρ arr cs) : CellsAt ρ w ⟨c, 0, arr.length, 0⟩ cs :=
  ⟨⟨arr⟩, e, (0, 0), hw, by simp, by simp [h.1], fun _ => h.1.symm, fun o _ => by simp, fun i v' hv => by
    obtain ⟨v, a, b⟩ := h.get hv
    exact ⟨v, by simpa using a, b⟩⟩
end Ex

/- A verified executor for closed Go calls, part of it: its lemmas carry no condition. -/
import Derived.WalkKit
import Derived.Test.YtacchpkmjgdebaaGreatExB
set_option linter.unusedVariables false
set_option linter.unusedSimpArgs false
namespace Ex
open Go

/-! ### Memory: writing cells -/
def withObj (w : World) (c : Nat) (o : Obj) : World := { w with heap := w.heap.setIfInBounds c o }

theorem withObj_heap (w : World) (c : Nat) (o : Obj) (j : Nat) (hc : c < w.heap.size) : (withObj w c o).heap[j]? = if j = c then some o else w.heap[j]? := by
  simp only [withObj, Array.getElem?_setIfInBounds]
  by_cases h : c = j
  · subst h; simp [hc]
  · simp [h, Ne.symm h]

theorem withObj_size (w : World) (c : Nat) (o : Obj) : (withObj w c o).heap.size = w.heap.size := by simp [withObj]
theorem withObj_twice (w : World) (c : Nat) (o o' : Obj) : withObj (withObj w c o) c o' = withObj w c o' := by simp [withObj]
theorem withObj_self {w : World} {c : Nat} {o : Obj} (h : w.heap[c]? = some o) : withObj w c o = w := by
  have hc := (Array.getElem?_eq_some_iff.1 h)
  obtain ⟨hlt, he⟩ := hc
  cases w with
  | mk heap tape drawn os output =>
    simp only [withObj]
    congr 1
    apply Array.ext'
    apply List.ext_getElem?
    intro j
    simp only [Array.getElem?_toList, Array.getElem?_setIfInBounds]
    by_cases hj : c = j
    · subst hj; simp only [hlt, ite_true, if_pos, Array.getElem?_eq_getElem hlt]; exact congrArg some he.symm
    · simp [hj]

theorem setCell_withObj {w : World} {c o : Nat} {cells : Array Value} {e : TypeId} {fr : Nat × Nat} (h : w.heap[c]? = some (.cells cells e fr)) (v : Value) :
    w.setCell ⟨c, o, none⟩ v = withObj w c (.cells (cells.setIfInBounds o v) e fr) := by
  obtain ⟨hlt, he⟩ := Array.getElem?_eq_some_iff.1 h
  simp only [World.setCell, withObj]
  congr 1
  apply Array.ext'
  apply List.ext_getElem?
  intro j
  simp only [Array.getElem?_toList, Array.getElem?_setIfInBounds, Array.getElem?_modify]
  by_cases hj : c = j
  · subst hj; simp [hlt, he]
  · simp [hj]

def splice (cells : Array Value) (o : Nat) : List Value → Array Value
  | [] => cells
  | v :: l => splice (cells.setIfInBounds o v) (o + 1) l

theorem splice_size : ∀ (l : List Value) (cells : Array Value) (o : Nat), (splice cells o l).size = cells.size
  | [], _, _ => rfl
  | v :: l, cells, o => by simp [splice, splice_size l]

theorem splice_get : ∀ (l : List Value) (cells : Array Value) (o j : Nat), o + l.length ≤ cells.size →
    (splice cells o l)[j]? = if o ≤ j ∧ j < o + l.length then l[j - o]? else cells[j]?
  | [], cells, o, j, _ => by
    simp only [splice, List.length_nil]
    rw [if_neg (by omega)]
  | v :: l, cells, o, j, h => by
    simp only [List.length_cons] at h
    simp only [splice]
    rw [splice_get l _ _ _ (by simp; omega)]
    simp only [List.length_cons]
    by_cases h1 : o + 1 ≤ j ∧ j < o + 1 + l.length
    · rw [if_pos h1, if_pos (by omega)]
      have : j - o = (j - (o + 1)) + 1 := by omega
      rw [this, List.getElem?_cons_succ]
    · rw [if_neg h1]
      by_cases h2 : j = o
      · subst h2
        rw [if_pos (by omega)]
        have : j < cells.size := by omega
        simp [this]
      · rw [if_neg (by omega), Array.getElem?_setIfInBounds_ne (Ne.symm h2)]

theorem oneCell_spec {v : Value} (h : oneCell v = true) : v.oneCell' = true := by cases v <;> simp_all [oneCell, Value.oneCell']

theorem run_store_cells {P : Program} {c : Nat} {e : TypeId} {fr : Nat × Nat} (o : Nat) : ∀ (vs : List Value) (i : Nat) (cells : Array Value) (w : World), w.heap[c]? = some (.cells cells e fr) →
    o + i + vs.length ≤ cells.size → (∀ j, j < cells.size → ¬ (fr.1 ≤ j ∧ j < fr.2)) → (∀ v ∈ vs, oneCell v = true) →
    (storeCells ⟨c, o, none⟩ vs i).run P w = .ok () (withObj w c (.cells (splice cells (o + i) vs) e fr))
  | [], i, cells, w, hc, _, _, _ => by
    simp only [storeCells, splice, withObj_self hc]; rfl
  | v :: l, i, cells, w, hc, hl, hf, h1 => by
    simp only [List.length_cons] at hl
    have hadd : (⟨c, o, none⟩ : Addr).add i = ⟨c, o + i, none⟩ := by unfold Addr.add; split <;> simp_all
    have hcell : w.cell? ⟨c, o + i, none⟩ = some (cells[o + i]'(by omega)) := by simp [World.cell?, hc]
    have hfz : w.frozen? ⟨c, o + i, none⟩ = false := by
      simp only [World.frozen?, hc]
      have := hf (o + i) (by omega)
      simpa using this
    have hst : (store ((⟨c, o, none⟩ : Addr).add i) v).run P w = .ok () (withObj w c (.cells (cells.setIfInBounds (o + i) v) e fr)) := by
      rw [hadd, run_store P w _ v _ (oneCell_spec (h1 v (by simp)))]
      simp [hcell, hfz, setCell_withObj hc]
    have hlt := (Array.getElem?_eq_some_iff.1 hc).1
    have ih := run_store_cells (P := P) (c := c) (e := e) (fr := fr) o l (i + 1) (cells.setIfInBounds (o + i) v) (withObj w c (.cells (cells.setIfInBounds (o + i) v) e fr))
      (by rw [withObj_heap _ _ _ _ hlt, if_pos rfl]) (by simp; omega) (by simpa using hf) (fun x hx => h1 x (by simp [hx]))
    simp only [storeCells, Sem.run_bind, hst, Result.andThen, ih, withObj_twice, splice]
    rw [show o + (i + 1) = o + i + 1 by omega]

/-! ### What lies where -/
def CellsAt (ρ : Rho) (w : World) (p : Pl) (cs : List Value) : Prop :=
  ∃ (cells : Array Value) (elem : TypeId) (fr : Nat × Nat), w.heap[p.c]? = some (.cells cells elem fr) ∧ cells.size = p.s + p.z ∧ cs.length ≤ p.z ∧ (p.k = 0 → cs.length = p.z) ∧
    (∀ o, o < cells.size ∨ p.k = 0 → ¬ (fr.1 ≤ o ∧ o < fr.2)) ∧ ∀ (i : Nat) v', cs[i]? = some v' → ∃ v, cells[p.s + i]? = some v ∧ VR ρ v v'

/-- slots -/
structure TR (ρ : Rho) (a : Array Value) (t : Tr Value) (nt : Nat) : Prop where
  size : a.size = nt
  rel : ∀ i, VR ρ (a.getD i undef) (t.get Undef i)
  has : ∀ i, i < nt → t.has i = true

inductive MR (ρ : Rho) : List MapEntry → Nat → List (Value × Value) → Prop
  | nil (i : Nat) : MR ρ [] i []
  | cons {e : MapEntry} {k v : Value} {es : List MapEntry} {l : List (Value × Value)} {i : Nat} (hk : VR ρ e.key k) (hv : VR ρ e.val v) (hb : e.born = i) (t : MR ρ es (i + 1) l) : MR ρ (e :: es) i ((k, v) :: l)
theorem MR.mono {ρ ρ' : Rho} (hle : ρ.le ρ') {es : List MapEntry} {i : Nat} {l : List (Value × Value)} (h : MR ρ es i l) : MR ρ' es i l := by
  induction h with
  | nil i => exact .nil i
  | cons hk hv hb _ ih => exact .cons (hk.mono hle) (hv.mono hle) hb ih

def ObjAt (ρ : Rho) (w : World) (b : Nat) : AObj → Prop
  | .none => True
  | .cells cs k => ∃ p, ρ b = some p ∧ p.k = k ∧ CellsAt ρ w p cs
  | .loop st pe fn tmps nt ps as bd df => ∃ l a dl, ρ b = some ⟨l, 0, 0, 0⟩ ∧ ρ df = some ⟨dl, 0, 0, 0⟩ ∧ TR ρ a tmps nt ∧
      w.heap[l]? = some (.loop { state := st, pending := pe, fn, tmps := a, params := ps, assign := as, body := bd, defers := dl })
  | .deferred o => ∃ d, ρ b = some ⟨d, 0, 0, 0⟩ ∧ w.heap[d]? = some (.deferred (if o then some [] else none))
  | .map es => ∃ l mes, ρ b = some ⟨l, 0, 0, 0⟩ ∧ w.heap[l]? = some (.map mes es.length) ∧ MR ρ mes.toList 0 es
  | .iter m since seen last => ∃ l m', ρ b = some ⟨l, 0, 0, 0⟩ ∧ w.heap[l]? = some (.mapIter m' since seen.toArray last) ∧ (m = none → m' = none) ∧ ∀ mb, m = some mb → ∃ c, m' = some c ∧ ρ mb = some ⟨c, 0, 0, 0⟩

structure HR (ng : Nat) (ρ : Rho) (H : Heap) (w : World) : Prop where
  obj : ∀ b, ObjAt ρ w b (H.get b)
  inj : ∀ b b' p p', H.get b ≠ .none → H.get b' ≠ .none → ρ b = some p → ρ b' = some p' → p.c = p'.c → b = b'
  fresh : ∀ b, H.next ≤ b → ρ b = none
  glob : ∀ g, g < ng → ∃ z, ρ g = some ⟨g, 0, z, 0⟩

/-- block c stands for something that is alive -/
def Held (ρ : Rho) (H : Heap) (c : Nat) : Prop := ∃ b p, H.get b ≠ .none ∧ ρ b = some p ∧ p.c = c

/-- from (ρ, H, w) to (ρ', H', w'): what had a place has it still; what isn't held is as it was; what is held is what was held, or new -/
structure Ext (ρ : Rho) (H : Heap) (w : World) (ρ' : Rho) (H' : Heap) (w' : World) : Prop where
  le : ρ.le ρ'
  size : w.heap.size ≤ w'.heap.size
  keep : ∀ c, c < w.heap.size → ¬ Held ρ H c → w'.heap[c]? = w.heap[c]?
  range : ∀ c, Held ρ' H' c → w.heap.size ≤ c ∨ Held ρ H c
  dom : ∀ b p, ρ' b = some p → ρ b = some p ∨ H.next ≤ b
  next : H.next ≤ H'.next
  tape : w'.tape = w.tape
  os : w'.os = w.os
  output : w'.output = w.output

theorem Ext.refl (ρ : Rho) (H : Heap) (w : World) : Ext ρ H w ρ H w :=
  ⟨ρ.le_refl, Nat.le_refl _, fun _ _ _ => rfl, fun _ h => .inr h, fun _ _ h => .inl h, Nat.le_refl _, rfl, rfl, rfl⟩

theorem Ext.trans {ρ ρ' ρ'' : Rho} {H H' H'' : Heap} {w w' w'' : World} (h : Ext ρ H w ρ' H' w') (h' : Ext ρ' H' w' ρ'' H'' w'') : Ext ρ H w ρ'' H'' w'' where
  le := Rho.le_trans h.le h'.le
  size := Nat.le_trans h.size h'.size
  keep c hc hn := by
    rw [h'.keep c (Nat.lt_of_lt_of_le hc h.size) (fun hh => (h.range c hh).elim (fun x => by omega) hn)]
    exact h.keep c hc hn
  range c hc := (h'.range c hc).elim (fun x => .inl (Nat.le_trans h.size x)) (h.range c)
  dom b p hp := (h'.dom b p hp).elim (h.dom b p) (fun x => .inr (Nat.le_trans h.next x))
  next := Nat.le_trans h.next h'.next
  tape := h'.tape.trans h.tape
  os := h'.os.trans h.os
  output := h'.output.trans h.output

theorem CellsAt.mono {ρ ρ' : Rho} {w w' : World} {p : Pl} {cs : List Value} (hle : ρ.le ρ') (hw : w'.heap[p.c]? = w.heap[p.c]?) (h : CellsAt ρ w p cs) : CellsAt ρ' w' p cs := by
  obtain ⟨cells, e, fr, h1, h2, h3, h4, h5, h6⟩ := h
  exact ⟨cells, e, fr, hw.trans h1, h2, h3, h4, h5, fun i v' hv => let ⟨v, a, b⟩ := h6 i v' hv; ⟨v, a, b.mono hle⟩⟩
theorem TR.mono {ρ ρ' : Rho} (hle : ρ.le ρ') {a : Array Value} {t : Tr Value} {nt : Nat} (h : TR ρ a t nt) : TR ρ' a t nt := ⟨h.size, fun i => (h.rel i).mono hle, h.has⟩
theorem ObjAt.mono {ρ ρ' : Rho} {w w' : World} {b : Nat} {o : AObj} (hle : ρ.le ρ') (hw : ∀ p, ρ b = some p → w'.heap[p.c]? = w.heap[p.c]?) (h : ObjAt ρ w b o) : ObjAt ρ' w' b o := by
  cases o with
  | none => trivial
  | cells cs k => obtain ⟨p, hp, hk, hc⟩ := h; exact ⟨p, hle _ _ hp, hk, hc.mono hle (hw p hp)⟩
  | loop st pe fn tmps nt ps as bd df => obtain ⟨l, a, dl, h1, h2, h3, h4⟩ := h; exact ⟨l, a, dl, hle _ _ h1, hle _ _ h2, h3.mono hle, (hw _ h1).trans h4⟩
  | deferred o => obtain ⟨d, h1, h2⟩ := h; exact ⟨d, hle _ _ h1, (hw _ h1).trans h2⟩
  | map es => obtain ⟨l, mes, h1, h2, h3⟩ := h; exact ⟨l, mes, hle _ _ h1, (hw _ h1).trans h2, h3.mono hle⟩
  | iter m since seen last =>
    obtain ⟨l, m', h1, h2, h0, h3⟩ := h
    exact ⟨l, m', hle _ _ h1, (hw _ h1).trans h2, h0, fun mb hm => let ⟨c, a, b⟩ := h3 mb hm; ⟨c, a, hle _ _ b⟩⟩

theorem ObjAt.place {ρ : Rho} {w : World} {b : Nat} {o : AObj} (h : ObjAt ρ w b o) (hn : o ≠ .none) : ∃ p, ρ b = some p ∧ p.c < w.heap.size := by
  cases o with
  | none => exact absurd rfl hn
  | cells cs k => obtain ⟨q, hq, _, cells, e, fr, h1, _⟩ := h; exact ⟨q, hq, (Array.getElem?_eq_some_iff.1 h1).1⟩
  | loop st pe fn tmps nt ps as bd df => obtain ⟨l, a, dl, h1, _, _, h4⟩ := h; exact ⟨_, h1, (Array.getElem?_eq_some_iff.1 h4).1⟩
  | deferred o => obtain ⟨d, h1, h2⟩ := h; exact ⟨_, h1, (Array.getElem?_eq_some_iff.1 h2).1⟩
  | map es => obtain ⟨l, mes, h1, h2, _⟩ := h; exact ⟨_, h1, (Array.getElem?_eq_some_iff.1 h2).1⟩
  | iter m since seen last => obtain ⟨l, m', h1, h2, _⟩ := h; exact ⟨_, h1, (Array.getElem?_eq_some_iff.1 h2).1⟩

/-- alive things lie in memory -/
theorem HR.lt {ng : Nat} {ρ : Rho} {H : Heap} {w : World} (h : HR ng ρ H w) {b : Nat} {p : Pl} (hb : H.get b ≠ .none) (hp : ρ b = some p) : p.c < w.heap.size := by
  obtain ⟨q, hq, hlt⟩ := (h.obj b).place hb
  rw [hp] at hq; cases hq; exact hlt
end Ex

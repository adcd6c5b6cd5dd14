/- A verified executor for closed Go calls, part of it: its lemmas carry no condition. -/
import Derived.Test.YtacchpkmjgdebaaGreatExV
set_option linter.unusedVariables false
set_option linter.unusedSimpArgs false
namespace Ex
open Go
variable {E : Env} {ρ ρ' : Rho} {H H' : Heap} {w w' : World} {ex : Ex}

theorem HR.grow {ng : Nat} (h : HR ng ρ H w) (hw : ∀ c, c < w.heap.size → w'.heap[c]? = w.heap[c]?) : HR ng ρ H w' where
  obj b := by
    by_cases hn : H.get b = .none
    · rw [hn]; trivial
    · exact (h.obj b).mono ρ.le_refl (fun q hq => hw _ (h.lt hn hq))
  inj := h.inj
  fresh := h.fresh
  glob := h.glob

/-- an empty heap -/
def bare (n : Nat) : Heap := .mk (Tr.full .none (depthOf n)) n
theorem bare_get (n b : Nat) : (bare n).get b = .none := by
  show Tr.get AObj.none (Tr.full AObj.none (depthOf n)) b = AObj.none
  exact Tr.get_full _ _ _
theorem bare_HR {ng n : Nat} (w : World) (hf : ∀ b, n ≤ b → ρ b = none) (hg : ∀ g, g < ng → ∃ z, ρ g = some ⟨g, 0, z, 0⟩) : HR ng ρ (bare n) w where
  obj b := by rw [bare_get]; trivial
  inj b _ _ _ h := absurd (bare_get n b) h
  fresh := hf
  glob := hg
theorem bare_held {n c : Nat} (h : Held ρ (bare n) c) : False := by
  obtain ⟨b, _, h1, _⟩ := h
  exact h1 (bare_get n b)
theorem bare_add_get (n : Nat) (o : AObj) : ((bare n).add o).get n = o := by
  show Tr.get .none ((Tr.full AObj.none (depthOf n)).set n o) n = o
  refine Tr.get_set_same _ _ _ _ (Tr.has_full _ _ _ ?_)
  have := Nat.lt_log2_self (n := n)
  unfold depthOf
  have e : 2 ^ (n.log2 + 2) = 2 * 2 ^ (n.log2 + 1) := by rw [Nat.pow_succ 2 (n.log2 + 1), Nat.mul_comm]
  rw [e]; omega

/-- the heap with room for more ids -/
theorem HR.wider {ng m : Nat} (h : HR ng ρ H w) (hle : ρ.le ρ') (hf : ∀ b, m ≤ b → ρ' b = none) : HR ng ρ' (bump H m) w where
  obj b := by
    rw [bump_get]
    exact (h.obj b).mono hle (fun _ _ => rfl)
  inj b b' p p' h1 h2 e1 e2 ec := by
    rw [bump_get] at h1 h2
    have old : ∀ b p, H.get b ≠ .none → ρ' b = some p → ρ b = some p := fun b p hb hp => by
      have : ∃ q, ρ b = some q := let ⟨q, hq, _⟩ := (h.obj b).place hb; ⟨q, hq⟩
      obtain ⟨q, hq⟩ := this
      rw [hle _ _ hq] at hp
      rw [hq, hp]
    exact h.inj b b' p p' h1 h2 (old _ _ h1 e1) (old _ _ h2 e2) ec
  fresh b hb := by rw [bump_next] at hb; exact hf b hb
  glob g hg := let ⟨z, hz⟩ := h.glob g hg; ⟨z, hle _ _ hz⟩

/-- a region, and its run in the text's own order -/
structure Drw (E : Env) (ex : Ex) (ops : Array Oper) (s : Nat → St) (nt : Nat) : Prop where
  good : Good E.tt ops ops.toList
  chain : Chain E ex ops ops.toList s
  oks : okOps E.ng nt ops.toList = true
  has : ∀ d, d < nt → (s 0).t.has d = true
  next : ∀ i, i < ops.size → (s i).H.next ≤ (s (i + 1)).H.next
  read : ∀ (i m : Nat) (o : Oper), ops.toList[i]? = some o → wantedA ops (s i).t o.guard = true → kindOf E.tt o.op = 1 → m ≤ ops.size → stageOk E.tt ops.toList (masks ops.toList []) ops.size i m = true → ∃ H', opA E ex (s m).H (s i).t o = .ok (s i).v H'
  act : ∀ (i : Nat) (o : Oper), ops.toList[i]? = some o → wantedA ops (s i).t o.guard = true → 2 ≤ kindOf E.tt o.op → belowL (s i).H.next (evs (s i).t o.op.operands.toList) = true

theorem Drw.mono {ops : Array Oper} {s : Nat → St} {nt : Nat} (h : Drw E ex ops s nt) {i : Nat} : ∀ {j : Nat}, i ≤ j → j ≤ ops.size → (s i).H.next ≤ (s j).H.next
  | 0, hij, _ => by rw [show i = 0 by omega]; exact Nat.le_refl _
  | j + 1, hij, hj => by
    rcases Nat.lt_or_ge j i with hlt | hge
    · rw [show i = j + 1 by omega]; exact Nat.le_refl _
    · exact Nat.le_trans (h.mono hge (by omega)) (h.next j (by omega))

def Pend (E : Env) (ops : Array Oper) (s : Nat → St) (L : Nat → Prop) (m j : Nat) : Prop :=
  m ≤ j ∧ L j ∧ ∃ o, ops.toList[j]? = some o ∧ kindOf E.tt o.op = 2 ∧ wantedA ops (s j).t o.guard = true

structure Core (E : Env) (ops : Array Oper) (s : Nat → St) (nt : Nat) (ρ0 : Rho) (w0 : World) (L : Nat → Prop) (m : Nat) (ρ : Rho) (a : Array Value) (w : World) : Prop where
  lt : ∀ j, L j → j < ops.size
  closed : Closed ops.toList L
  le : m ≤ ops.size
  hr : HR E.ng (cut ρ (s m).H.next) (s m).H w
  dom : ∀ b p, ρ b = some p → b < (s m).H.next ∨ ∃ j, Pend E ops s L m j ∧ b = (s j).H.next
  pend : ∀ j, Pend E ops s L m j → ∃ p cs, ρ (s j).H.next = some p ∧ p.k = 0 ∧ (s (j + 1)).H = newRowA (s j).H cs 0 ∧ CellsAt (cut ρ ((s j).H.next + 1)) w p cs ∧
    ¬ Held (cut ρ (s m).H.next) (s m).H p.c ∧ w0.heap.size ≤ p.c ∧ p.c < w.heap.size
  inj : ∀ j j' p p', Pend E ops s L m j → Pend E ops s L m j' → ρ (s j).H.next = some p → ρ (s j').H.next = some p' → p.c = p'.c → j = j'
  size : a.size = nt
  done : ∀ (j : Nat) (o : Oper) (d : Tmp), L j → ops.toList[j]? = some o → o.dst = some d → VR ρ (a.getD d undef) (s j).v
  old : ∀ d, (∀ (j : Nat) (o : Oper), L j → ops.toList[j]? = some o → o.dst ≠ some d) → VR ρ (a.getD d undef) ((s 0).t.get Undef d)
  ext : Ext ρ0 (s 0).H w0 (cut ρ (s m).H.next) (s m).H w

theorem okOps_mem {ng nt : Nat} : ∀ {l : List Oper}, okOps ng nt l = true → ∀ o ∈ l, okDst nt o.dst = true ∧ okXs ng o.op.operands.toList = true
  | [], _, _, h => by cases h
  | x :: l, h, o, ho => by
    simp only [okOps, Bool.and_eq_true] at h
    rcases List.mem_cons.1 ho with rfl | ho
    · exact ⟨h.1.1, h.1.2⟩
    · exact okOps_mem h.2 o ho

section
variable {ops : Array Oper} {s : Nat → St} {nt : Nat} {ρ0 : Rho} {w0 : World} {L : Nat → Prop} {m : Nat} {a : Array Value}

theorem Drw.dst_lt (hD : Drw E ex ops s nt) {i : Nat} {o : Oper} {d : Tmp} (hi : ops.toList[i]? = some o) (hd : o.dst = some d) : d < nt := by
  have := (okOps_mem hD.oks o (List.mem_of_getElem? hi)).1
  rw [hd] at this
  simpa [okDst, Nat.blt_eq] using this

/-- whoever is ready sees the slots as in the text's own order -/
theorem Core.slot (hD : Drw E ex ops s nt) (hC : Core E ops s nt ρ0 w0 L m ρ a w) {i : Nat} {o : Oper} (hi : ops.toList[i]? = some o) (hn : ¬ L i) (hdep : ∀ e ∈ o.after.toList, Region.binds .any e = true → L e.on) {d : Tmp} (hd : d ∈ looks ops o) :
    VR ρ (a.getD d undef) ((s i).t.get Undef d) := by
  have hlt : i < ops.toList.length := (List.getElem?_eq_some_iff.1 hi).1
  have hdep' : ∀ o', ops.toList[i]? = some o' → ∀ e ∈ o'.after.toList, Region.binds .any e = true → L e.on := fun o' ho' => by rw [hi] at ho'; cases ho'; exact hdep
  by_cases hw : ∃ (j : Nat) (o' : Oper), ops.toList[j]? = some o' ∧ o'.dst = some d
  · obtain ⟨j, o', hj, hd'⟩ := hw
    rcases Nat.lt_trichotomy j i with hji | hji | hji
    · have hL : L j := (hD.good.read j i o' o d hj hi hd' hd hji).mem hC.closed hdep'
      rw [chain_some hD.chain hD.good hD.has hj hd' (hD.dst_lt hj hd') i (by omega) hji]
      exact hC.done j o' d hL hj hd'
    · subst hji
      rw [hi] at hj; cases hj
      exact absurd hd (hD.good.self _ _ _ hi hd')
    · have hR := hD.good.anti i j o o' d hi hj hd' hd hji
      have uniq : ∀ (j' : Nat) (o2 : Oper), ops.toList[j']? = some o2 → o2.dst = some d → j' = j := fun j' o2 h2 hd2 => hD.good.dst j' j o2 o' d h2 hj hd2 hd'
      rw [chain_none hD.chain i (by omega) (fun j' o2 hlt2 h2 hd2 => by have := uniq j' o2 h2 hd2; omega)]
      refine hC.old d (fun j' o2 hL2 h2 hd2 => ?_)
      have := uniq j' o2 h2 hd2
      subst this
      exact hn (hC.closed.reach hR hL2)
  · rw [chain_none hD.chain i (by omega) (fun j' o2 _ h2 hd2 => hw ⟨j', o2, h2, hd2⟩)]
    exact hC.old d (fun j' o2 _ h2 hd2 => hw ⟨j', o2, h2, hd2⟩)

theorem Core.glob (hC : Core E ops s nt ρ0 w0 L m ρ a w) : ∀ g, g < E.ng → ∃ z, ρ g = some ⟨g, 0, z, 0⟩ := fun g hg =>
  let ⟨z, hz⟩ := hC.hr.glob g hg
  ⟨z, cut_le _ _ _ _ hz⟩

theorem Core.eval {fr : Frame} (hD : Drw E ex ops s nt) (hC : Core E ops s nt ρ0 w0 L m ρ fr.tmps w) {i : Nat} {o : Oper} (hi : ops.toList[i]? = some o) (hn : ¬ L i) (hdep : ∀ e ∈ o.after.toList, Region.binds .any e = true → L e.on) {x : Operand} (hx : x ∈ o.op.operands) :
    VR ρ (fr.eval x) (evA (s i).t x) := by
  have hok := okXs_mem (okOps_mem hD.oks o (List.mem_of_getElem? hi)).2 x (by simpa using hx)
  cases x with
  | tmp d => exact hC.slot hD hi hn hdep (looks_op hx)
  | const v => exact VR.of_free ρ v hok
  | global g =>
    obtain ⟨z, hz⟩ := hC.glob g (by simpa [okX, Nat.blt_eq] using hok)
    exact .ptr (o := 0) (p := ⟨g, 0, z, 0⟩) hz
  | func f => exact .func [] [] [] [] (.func f) rfl (by simp) rfl (by simp)

theorem wanted_eq' {a : Array Value} {t : Tr Value} {o : Oper} (h : ∀ d, d ∈ looks ops o → VR ρ (a.getD d undef) (t.get Undef d)) : Region.wanted o (yielded ops a) = wantedA ops t o.guard := by
  unfold Region.wanted
  cases hg : o.guard with
  | none => rfl
  | some x =>
    obtain ⟨j, b⟩ := x
    show (yielded ops a j == some b) = wantedAt t (guardOf ops j) b
    cases hgo : guardOf ops j with
    | none =>
      unfold yielded
      unfold guardOf at hgo
      cases hj : ops[j]? with
      | none => simp [wantedAt]
      | some p =>
        rw [hj] at hgo
        simp only at hgo
        simp [hgo, wantedAt]
    | some d =>
      have hr := h d (looks_guard hg hgo)
      unfold guardOf at hgo
      unfold yielded
      cases hj : ops[j]? with
      | none => rw [hj] at hgo; cases hgo
      | some p =>
        rw [hj] at hgo
        simp only at hgo
        simp only [Option.bind_some, hgo, wantedAt]
        rw [Array.getD_eq_getD_getElem?] at hr
        cases hv : a[d]? with
        | none =>
          rw [hv] at hr
          simp only [Option.getD_none] at hr
          generalize t.get Undef d = y at hr
          cases hr
          rfl
        | some v =>
          rw [hv] at hr
          simp only [Option.getD_some] at hr
          generalize t.get Undef d = y at hr
          cases hr <;> first
            | rfl
            | (rename_i c; cases c <;> cases b <;> rfl)

theorem putA_ne {a : Array Value} {dst : Option Tmp} {v : Value} {d : Tmp} (h : dst ≠ some d) : (putA a dst v).getD d undef = a.getD d undef := by
  cases dst with
  | none => rfl
  | some x =>
    have : x ≠ d := fun e => h (by rw [e])
    simp only [putA, Array.getD_eq_getD_getElem?, Array.getElem?_setIfInBounds_ne this]
theorem putA_eq {a : Array Value} {dst : Option Tmp} {v : Value} {d : Tmp} (h : dst = some d) (hd : d < a.size) : (putA a dst v).getD d undef = v := by
  subst h
  simp only [putA, Array.getD_eq_getD_getElem?]
  simp [hd]
theorem putA_size {a : Array Value} {dst : Option Tmp} {v : Value} : (putA a dst v).size = a.size := by
  cases dst <;> simp [putA]

/-- one more is listed -/
def more (L : Nat → Prop) (i : Nat) : Nat → Prop := fun j => L j ∨ j = i

theorem more_closed {l : List Oper} (hL : Closed l L) {i : Nat} {o : Oper} (hi : l[i]? = some o) (hdep : ∀ e ∈ o.after.toList, Region.binds .any e = true → L e.on) : Closed l (more L i) := by
  intro j o' hj ho' e he hb
  rcases hj with hj | rfl
  · exact .inl (hL j o' hj ho' e he hb)
  · rw [hi] at ho'; cases ho'; exact .inl (hdep e he hb)

theorem Core.done' (hD : Drw E ex ops s nt) (hC : Core E ops s nt ρ0 w0 L m ρ a w) {i : Nat} {o : Oper} (hi : ops.toList[i]? = some o) {v : Value} (hle : ρ.le ρ') (hv : VR ρ' v (s i).v) :
    ∀ (j : Nat) (o' : Oper) (d : Tmp), more L i j → ops.toList[j]? = some o' → o'.dst = some d → VR ρ' ((putA a o.dst v).getD d undef) (s j).v := by
  intro j o' d hj ho' hd
  by_cases e : j = i
  · subst e
    rw [hi] at ho'; cases ho'
    rw [putA_eq hd (by rw [hC.size]; exact hD.dst_lt hi hd)]
    exact hv
  · have hL : L j := hj.resolve_right e
    rw [putA_ne (fun e' => e (hD.good.dst j i o' o d ho' hi hd e'))]
    exact (hC.done j o' d hL ho' hd).mono hle
theorem Core.old' (hC : Core E ops s nt ρ0 w0 L m ρ a w) {i : Nat} {o : Oper} (hi : ops.toList[i]? = some o) {v : Value} (hle : ρ.le ρ') :
    ∀ d, (∀ (j : Nat) (o' : Oper), more L i j → ops.toList[j]? = some o' → o'.dst ≠ some d) → VR ρ' ((putA a o.dst v).getD d undef) ((s 0).t.get Undef d) := by
  intro d hd
  rw [putA_ne (hd i o (.inr rfl) hi)]
  exact (hC.old d (fun j o' hL => hd j o' (.inl hL))).mono hle

theorem Ext.grow {w1 : World} (h : Ext ρ H w ρ' H' w') (hs : w'.heap.size ≤ w1.heap.size) (hw : ∀ c, c < w'.heap.size → w1.heap[c]? = w'.heap[c]?) (ht : w1.tape = w'.tape) (ho : w1.os = w'.os) (hu : w1.output = w'.output) : Ext ρ H w ρ' H' w1 :=
  { le := h.le, size := Nat.le_trans h.size hs, keep := fun c hc hn => (hw c (Nat.lt_of_lt_of_le hc h.size)).trans (h.keep c hc hn), range := h.range, dom := h.dom, next := h.next, tape := ht.trans h.tape, os := ho.trans h.os, output := hu.trans h.output }

/-- one that makes nothing -/
theorem Core.quiet (hD : Drw E ex ops s nt) (hC : Core E ops s nt ρ0 w0 L m ρ a w) {i : Nat} {o : Oper} (hi : ops.toList[i]? = some o) (hdep : ∀ e ∈ o.after.toList, Region.binds .any e = true → L e.on) {v : Value}
    (hk : wantedA ops (s i).t o.guard = true → kindOf E.tt o.op ≠ 2) (hv : VR ρ v (s i).v) (hs : w.heap.size ≤ w'.heap.size) (hw : ∀ c, c < w.heap.size → w'.heap[c]? = w.heap[c]?) (ht : w'.tape = w.tape) (ho : w'.os = w.os) (hu : w'.output = w.output) :
    Core E ops s nt ρ0 w0 (more L i) m ρ (putA a o.dst v) w' := by
  have hp : ∀ j, Pend E ops s (more L i) m j → Pend E ops s L m j := by
    rintro j ⟨h1, h2, o', h3, h4, h5⟩
    rcases h2 with h2 | rfl
    · exact ⟨h1, h2, o', h3, h4, h5⟩
    · rw [hi] at h3; cases h3; exact absurd h4 (hk h5)
  have hq : ∀ j, Pend E ops s L m j → Pend E ops s (more L i) m j := fun j ⟨h1, h2, h3⟩ => ⟨h1, .inl h2, h3⟩
  refine ⟨?_, more_closed hC.closed hi hdep, hC.le, hC.hr.grow hw, ?_, ?_, ?_, ?_, hC.done' hD hi ρ.le_refl hv, hC.old' hi ρ.le_refl, hC.ext.grow hs hw ht ho hu⟩
  · rintro j (hj | rfl)
    · exact hC.lt j hj
    · simpa using (List.getElem?_eq_some_iff.1 hi).1
  · intro b p hb
    rcases hC.dom b p hb with h | ⟨j, h, e⟩
    · exact .inl h
    · exact .inr ⟨j, hq j h, e⟩
  · intro j hj
    obtain ⟨p, cs, h1, h2, h3, h4, h5, h6, h7⟩ := hC.pend j (hp j hj)
    exact ⟨p, cs, h1, h2, h3, h4.mono (Rho.le_refl _) (hw _ h7), h5, h6, Nat.lt_of_lt_of_le h7 hs⟩
  · intro j j' p p' h1 h2
    exact hC.inj j j' p p' (hp j h1) (hp j' h2)
  · rw [putA_size]; exact hC.size
end
end Ex

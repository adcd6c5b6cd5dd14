/- A verified executor for closed Go calls, part of it: its lemmas carry no condition. -/
import Derived.Test.YtfagoiecijpneaaGreatXC
set_option linter.unusedVariables false
set_option linter.unusedSimpArgs false
section
namespace Ex
open Go
variable {E : Env} {ρ ρ' : Rho} {H H' : Heap} {w w' : World} {ex : Ex}

/-! A long closed call in parts: what single calls of it come to, each in its own place. -/
noncomputable section
def entsEq : List (Value × Value) → List (Value × Value) → Bool
  | [], [] => true
  | a :: x, b :: y => veq a.1 b.1 && veq a.2 b.2 && entsEq x y
  | _, _ => false
theorem entsEq_eq : ∀ {x y : List (Value × Value)}, entsEq x y = true → x = y
  | [], [], _ => rfl
  | (a1, a2) :: x, (b1, b2) :: y, h => by
    simp only [entsEq, Bool.and_eq_true] at h
    rw [veq_eq h.1.1, veq_eq h.1.2, entsEq_eq h.2]
  | [], _ :: _, h => by simp [entsEq] at h
  | _ :: _, [], h => by simp [entsEq] at h
def aeq : AObj → AObj → Bool
  | .cells a k, .cells b m => Nat.beq k m && veqL a b
  | .map a, .map b => entsEq a b
  | _, _ => false
theorem aeq_eq {a b : AObj} (h : aeq a b = true) : a = b ∧ b ≠ .none := by
  unfold aeq at h
  split at h
  · simp only [Bool.and_eq_true] at h
    rw [Nat.eq_of_beq_eq_true h.1, veqL_eq h.2]
    exact ⟨rfl, fun e => by cases e⟩
  · rw [entsEq_eq h]
    exact ⟨rfl, fun e => by cases e⟩
  · cases h

def litSet (t : Tr AObj) : List (Nat × AObj) → Tr AObj
  | [] => t
  | x :: l => litSet (t.set x.1 x.2) l
/-- a heap written out: so many ids are given, these things are alive -/
def lit (d n : Nat) (L : List (Nat × AObj)) : Heap := .mk (litSet (Tr.full .none d) L) n
theorem litSet_get : ∀ (L : List (Nat × AObj)) (t : Tr AObj) (b : Nat), (litSet t L).get .none b = t.get .none b ∨ ∃ o, (b, o) ∈ L ∧ (litSet t L).get .none b = o
  | [], t, b => .inl rfl
  | x :: L, t, b => by
    obtain ⟨i, o⟩ := x
    rcases litSet_get L (t.set i o) b with h | ⟨o', h1, h2⟩
    · rcases Tr.get_set_or .none t i b o with h' | ⟨e, h'⟩
      · exact .inl (h.trans h')
      · subst e; exact .inr ⟨o, by simp, h.trans h'⟩
    · exact .inr ⟨o', by simp [h1], h2⟩
theorem lit_get (d n : Nat) (L : List (Nat × AObj)) (b : Nat) : (lit d n L).get b = .none ∨ ∃ o, (b, o) ∈ L ∧ (lit d n L).get b = o := by
  rcases litSet_get L (Tr.full .none d) b with h | h
  · exact .inl (h.trans (Tr.get_full _ _ _))
  · exact .inr h

def sameL (H : Heap) : List (Nat × AObj) → Bool
  | [] => true
  | x :: l => aeq (H.get x.1) x.2 && sameL H l
theorem sameL_mem : ∀ {L : List (Nat × AObj)} {b : Nat} {o : AObj}, sameL H L = true → (b, o) ∈ L → H.get b = o ∧ o ≠ .none
  | x :: l, b, o, h, hm => by
    simp only [sameL, Bool.and_eq_true] at h
    rcases List.mem_cons.1 hm with rfl | hm
    · exact aeq_eq h.1
    · exact sameL_mem h.2 hm
/-- does the heap hold what is written out? (It may hold more.) -/
def holds (H : Heap) (n : Nat) (L : List (Nat × AObj)) : Bool := Nat.beq H.next n && sameL H L
theorem holds_get {n d : Nat} {L : List (Nat × AObj)} (h : holds H n L = true) (b : Nat) : (lit d n L).get b = .none ∨ ((lit d n L).get b = H.get b ∧ H.get b ≠ .none) := by
  simp only [holds, Bool.and_eq_true] at h
  rcases lit_get d n L b with e | ⟨o, h1, h2⟩
  · exact .inl e
  · obtain ⟨h3, h4⟩ := sameL_mem h.2 h1
    exact .inr ⟨h2.trans h3.symm, by rw [h3]; exact h4⟩
theorem holds_held {n d c : Nat} {L : List (Nat × AObj)} (h : holds H n L = true) (hh : Held ρ (lit d n L) c) : Held ρ H c := by
  obtain ⟨b, p, h1, h2, h3⟩ := hh
  rcases holds_get (d := d) h b with e | ⟨_, e⟩
  · exact absurd e h1
  · exact ⟨b, p, e, h2, h3⟩
theorem HR.weaken {ng n d : Nat} {L : List (Nat × AObj)} (h : HR ng ρ H w) (hl : holds H n L = true) : HR ng ρ (lit d n L) w where
  obj b := by
    rcases holds_get (d := d) hl b with e | ⟨e, _⟩
    · rw [e]; trivial
    · rw [e]; exact h.obj b
  inj b b' p p' h1 h2 := by
    rcases holds_get (d := d) hl b with e | ⟨_, e⟩
    · exact absurd e h1
    · rcases holds_get (d := d) hl b' with e' | ⟨_, e'⟩
      · exact absurd e' h2
      · exact h.inj b b' p p' e e'
  fresh b hb := by
    simp only [holds, Bool.and_eq_true] at hl
    exact h.fresh b (by rw [Nat.eq_of_beq_eq_true hl.1]; exact hb)
  glob := h.glob
theorem Ext.weaken {n d : Nat} {L : List (Nat × AObj)} (hl : holds H n L = true) (h : Ext ρ (lit d n L) w ρ' H' w') : Ext ρ H w ρ' H' w' where
  le := h.le
  size := h.size
  keep c hc hn := h.keep c hc (fun hh => hn (holds_held hl hh))
  range c hc := (h.range c hc).imp id (holds_held hl)
  dom b p hp := by
    simp only [holds, Bool.and_eq_true] at hl
    rcases h.dom b p hp with e | e
    · exact .inl e
    · exact .inr (by rw [Nat.eq_of_beq_eq_true hl.1]; exact e)
  next := by
    simp only [holds, Bool.and_eq_true] at hl
    rw [Nat.eq_of_beq_eq_true hl.1]; exact h.next
  tape := h.tape
  os := h.os
  output := h.output
theorem Ext.weaken' {n d : Nat} {L : List (Nat × AObj)} (hl : holds H' n L = true) (h : Ext ρ H w ρ' H' w') : Ext ρ H w ρ' (lit d n L) w' where
  le := h.le
  size := h.size
  keep := h.keep
  range c hc := h.range c (holds_held hl hc)
  dom := h.dom
  next := by
    simp only [holds, Bool.and_eq_true] at hl
    have := h.next
    rw [Nat.eq_of_beq_eq_true hl.1] at this; exact this
  tape := h.tape
  os := h.os
  output := h.output

abbrev Mu (n : Nat) : Value := .int .u64 (.ofNat n)
abbrev Mp (b o : Nat) : Value := .pointer (some ⟨b, o, none⟩)
abbrev Ms (b o l c : Nat) : Value := .slice (some ⟨b, o, none⟩) l c
def Mb : List Nat → List Value
  | [] => []
  | n :: l => .int .u8 (.ofNat n) :: Mb l
/-- a call, and what comes of it -/
structure Memo where
  f : FuncId
  args : List Value
  n : Nat
  L : List (Nat × AObj)
  v : Value
  n' : Nat
  L' : List (Nat × AObj)
def outIs (r : Out) (v : Value) (n : Nat) (L : List (Nat × AObj)) : Bool := match r with
  | .ok u H => veq u v && holds H n L
  | .bad => false
/-- the call comes to what is written -/
def Memo.runs (E : Env) (m : Memo) (N d : Nat) : Bool := outIs (callA E (run E N) (lit d m.n m.L) m.f m.args) m.v m.n' m.L'
def Memo.fits (m : Memo) (H : Heap) (args : List Value) : Bool := holds H m.n m.L && veqL args m.args
def Memo.out (m : Memo) (d : Nat) (H : Heap) (args : List Value) (r : Option Out) : Option Out := match m.fits H args with
  | true => some (.ok m.v (lit d m.n' m.L'))
  | false => r
def pick (d : Nat) (H : Heap) (args : List Value) : List Memo → Out
  | [] => .bad
  | m :: l => match m.fits H args with
    | true => .ok m.v (lit d m.n' m.L')
    | false => pick d H args l
def ofF (f : FuncId) : List Memo → List Memo
  | [] => []
  | m :: l => match Nat.beq m.f f with
    | true => m :: ofF f l
    | false => ofF f l
def ovrM (d : Nat) (ms : List Memo) (f : FuncId) (o : Option (Heap → List Value → Out)) : Option (Heap → List Value → Out) := match ofF f ms with
  | [] => o
  | l => some fun H args => pick d H args l
/-- with these calls known -/
def Env.know (E : Env) (d : Nat) (ms : List Memo) : Env := { E with ovr := fun f => ovrM d ms f (E.ovr f) }

/-- the model's own run of a call, from all that the abstract one stands for -/
def CallSem (E : Env) (f : FuncId) (H : Heap) (args' : List Value) (v' : Value) (H' : Heap) : Prop :=
  ∀ ρ w args, HR E.ng ρ H w → LR ρ args args' → (callFunc f ⟨args⟩).run E.P w = .ok (.enter f ⟨args⟩) w ∧ Calls E.P f ⟨args⟩ w (Left E ρ H w v' H')

def bodied (o : Option Func) : Bool := match o with
  | some fn => fn.body.isSome
  | none => false
theorem of_bodied {o : Option Func} (h : bodied o = true) : ∃ fn c, o = some fn ∧ fn.body = some c := by
  cases o with
  | none => cases h
  | some fn =>
    cases hb : fn.body with
    | none => simp only [bodied, hb] at h; cases h
    | some c => exact ⟨fn, c, rfl, hb⟩
theorem Memo.sem (hG : EnvGood E) {m : Memo} {N d d' : Nat} (hb : bodied (E.ft.get none m.f) = true) (h : m.runs E N d = true) : CallSem E m.f (lit d m.n m.L) m.args m.v (lit d' m.n' m.L') := by
  intro ρ w args hr ha
  obtain ⟨fn, c, hfn, hbd⟩ := of_bodied hb
  have hpf := hG.ft m.f fn hfn
  refine ⟨?_, ?_⟩
  · have h1 : fn.name ≠ "runtime.NumGoroutine" := by simpa using hG.nog m.f fn hfn
    simp [callFunc, hpf, h1, hbd]
  · unfold Memo.runs outIs at h
    cases hc : callA E (run E N) (lit d m.n m.L) m.f m.args with
    | bad => rw [hc] at h; cases h
    | ok u H1 =>
      rw [hc] at h
      simp only [Bool.and_eq_true] at h
      have hu := veq_eq h.1
      subst hu
      refine (call_sound hG (run_sound hG N) ⟨fn, c, hfn, hbd⟩ hc hr ha).mono fun e w' ⟨ρ', v, he, hv, h1, h2⟩ => ⟨ρ', v, he, hv, h1.weaken h.2, h2.weaken' h.2⟩
theorem Memo.fits_sem {m : Memo} {d : Nat} {v' : Value} {H' : Heap} {args' : List Value} (h : CallSem E m.f (lit d m.n m.L) m.args v' H') (hf : m.fits H args' = true) : CallSem E m.f H args' v' H' := by
  intro ρ w args hr ha
  simp only [Memo.fits, Bool.and_eq_true] at hf
  have := veqL_eq hf.2
  subst this
  obtain ⟨h1, h2⟩ := h ρ w args (hr.weaken hf.1) ha
  exact ⟨h1, h2.mono fun e w' ⟨ρ', v, he, hv, k1, k2⟩ => ⟨ρ', v, he, hv, k1, k2.weaken hf.1⟩⟩

theorem closed_out (hG : EnvGood E) {n d k : Nat} {f : FuncId} {v' : Value} {L : List (Nat × AObj)} (hb : ∃ fn c, E.ft.get none f = some fn ∧ fn.body = some c) (hf : free v' = true) (h : outIs (callA E (run E n) (wide d E.ng) f []) v' k L = true) (w : World) :
    Calls E.P f #[] w fun e w' => e = .returned v' ∧ Fresh w w' := by
  unfold outIs at h
  cases hc : callA E (run E n) (wide d E.ng) f [] with
  | bad => rw [hc] at h; cases h
  | ok u H1 =>
    rw [hc] at h
    simp only [Bool.and_eq_true] at h
    rw [veq_eq h.1] at hc
    exact closed_sound hG hb hf hc w
theorem ofF_mem {f : FuncId} : ∀ {ms : List Memo} {m : Memo}, m ∈ ofF f ms → m ∈ ms ∧ m.f = f
  | x :: l, m, h => by
    simp only [ofF] at h
    cases hb : Nat.beq x.f f with
    | true =>
      rw [hb] at h
      rcases List.mem_cons.1 h with rfl | h
      · exact ⟨by simp, Nat.eq_of_beq_eq_true hb⟩
      · exact ⟨by simp [(ofF_mem h).1], (ofF_mem h).2⟩
    | false =>
      rw [hb] at h
      exact ⟨by simp [(ofF_mem h).1], (ofF_mem h).2⟩
theorem pick_sem {d : Nat} {v' : Value} {args' : List Value} : ∀ {l : List Memo}, pick d H args' l = .ok v' H' → ∃ m ∈ l, m.fits H args' = true ∧ v' = m.v ∧ H' = lit d m.n' m.L'
  | m :: l, h => by
    simp only [pick] at h
    cases hf : m.fits H args' with
    | true => rw [hf] at h; cases h; exact ⟨m, by simp, hf, rfl, rfl⟩
    | false =>
      rw [hf] at h
      obtain ⟨m', a, b⟩ := pick_sem h
      exact ⟨m', by simp [a], b⟩
theorem know_good (hG : EnvGood E) {d : Nat} {ms : List Memo} (h : ∀ m ∈ ms, CallSem E m.f (lit d m.n m.L) m.args m.v (lit d m.n' m.L')) : EnvGood (E.know d ms) where
  tt := hG.tt
  ft := hG.ft
  nog := hG.nog
  cmp := hG.cmp
  add := hG.add
  ovr f g hg args args' ρ H w v' H' hr ha hc := by
    have hg : ovrM d ms f (E.ovr f) = some g := hg
    unfold ovrM at hg
    split at hg
    · exact hG.ovr f g hg args args' ρ H w v' H' hr ha hc
    · cases hg
      obtain ⟨m, hm, hf, rfl, rfl⟩ := pick_sem hc
      obtain ⟨hm2, e⟩ := ofF_mem hm
      subst e
      obtain ⟨h1, h2⟩ := Memo.fits_sem (h m hm2) hf ρ w args hr ha
      refine ⟨h1, fun cs => ?_⟩
      obtain ⟨e, w', fr, ⟨ρ', v, rfl, hv, k1, k2⟩, s1, s2, s3⟩ := h2 cs
      exact ⟨ρ', v, w', fr, s1, s2, s3, hv, k1, k2⟩
end
end Ex
end
section
namespace Ex
open Go
variable {E : Env} {ρ ρ' : Rho} {H H' : Heap} {w w' : World} {ex : Ex}

/-! Ranges over maps of several entries: every order. -/
def memN (x : Nat) : List Nat → Bool
  | [] => false
  | y :: l => Nat.beq x y || memN x l
def leftFrom : Nat → Nat → List Nat → List Nat
  | 0, _, _ => []
  | n + 1, i, seen => match memN i seen with
    | true => leftFrom n (i + 1) seen
    | false => i :: leftFrom n (i + 1) seen
theorem memN_iff {x : Nat} : ∀ {l : List Nat}, memN x l = true ↔ x ∈ l
  | [] => by simp [memN]
  | y :: l => by simp [memN, memN_iff (l := l)]
theorem mem_left {j : Nat} {seen : List Nat} : ∀ {n i : Nat}, j ∈ leftFrom n i seen ↔ (i ≤ j ∧ j < i + n) ∧ j ∉ seen
  | 0, i => by simp [leftFrom]; omega
  | n + 1, i => by
    unfold leftFrom
    cases h : memN i seen with
    | true =>
      have h' := memN_iff.1 h
      simp only [mem_left (n := n) (i := i + 1)]
      constructor
      · rintro ⟨h1, h2⟩; exact ⟨by omega, h2⟩
      · rintro ⟨h1, h2⟩
        refine ⟨?_, h2⟩
        rcases Nat.lt_or_ge i j with h3 | h3
        · omega
        · have : j = i := by omega
          subst this; exact absurd h' h2
    | false =>
      have h' : i ∉ seen := fun e => by rw [memN_iff.2 e] at h; cases h
      simp only [List.mem_cons, mem_left (n := n) (i := i + 1)]
      constructor
      · rintro (rfl | ⟨h1, h2⟩)
        · exact ⟨by omega, h'⟩
        · exact ⟨by omega, h2⟩
      · rintro ⟨h1, h2⟩
        rcases Nat.lt_or_ge i j with h3 | h3
        · exact .inr ⟨by omega, h2⟩
        · exact .inl (by omega)

theorem run_setIter {P : Program} {l s n : Nat} {m : Option Nat} {seen : Array Nat} (h : w.heap[l]? = some (.mapIter m s seen n)) (o : Obj) : (setObj l o).run P w = .ok () (withObj w l o) := by simp [setObj, Sem.run, h]; rfl
/-- the model's own step of a range over a map -/
theorem run_next_map {P : Program} {l c since n : Nat} {ty : TypeId} {mes : Array MapEntry} {seen : Array Nat} (hh : w.heap[l]? = some (.mapIter (some c) since seen n)) (hm : w.heap[c]? = some (.map mes n))
    (hborn : ∀ e ∈ mes, e.born < since ∧ e.born < n) :
    ((∀ e ∈ mes, seen.contains e.born = true) ∧ (Instr.next (.pointer (some ⟨l, 0, none⟩)) false ty).run P w = .ok (.tuple #[.bool false]) w) ∨
    ∃ e w1, e ∈ mes ∧ seen.contains e.born = false ∧ w1.heap = w.heap ∧ w1.tape = w.tape ∧ w1.os = w.os ∧ w1.output = w.output ∧
      (Instr.next (.pointer (some ⟨l, 0, none⟩)) false ty).run P w = .ok (.tuple #[.bool true, e.key, e.val]) (withObj w1 l (.mapIter (some c) since (seen.push e.born) n)) := by
  have hguard : (!seen.isEmpty && !mes.isEmpty && mes.all (fun e => decide (e.born ≥ n))) = false := by
    by_cases he : mes.size = 0
    · have : mes = #[] := Array.eq_empty_of_size_eq_zero he
      simp [this]
    · have : mes.all (fun e => decide (e.born ≥ n)) = false := by
        have h0 : 0 < mes.size := by omega
        rw [Bool.eq_false_iff]
        intro hall
        rw [Array.all_eq_true] at hall
        have h1 := hall 0 h0
        have h2 := (hborn _ (Array.getElem_mem h0)).2
        simp only [decide_eq_true_eq] at h1
        omega
      simp [this]
  obtain ⟨left, hleft⟩ : ∃ left, left = mes.filter fun e => !seen.contains e.born := ⟨_, rfl⟩
  have hold : left.filter (fun e => decide (e.born < since)) = left := by
    rw [Array.filter_eq_self]
    intro e he
    rw [hleft, Array.mem_filter] at he
    simpa using (hborn e he.1).1
  have hnew : left.filter (fun e => decide (e.born ≥ since)) = #[] := by
    rw [Array.filter_eq_empty_iff]
    intro e he
    rw [hleft, Array.mem_filter] at he
    have := (hborn e he.1).1
    simp; omega
  by_cases hl0 : left.size = 0
  · have hl : left = #[] := Array.eq_empty_of_size_eq_zero hl0
    left
    refine ⟨fun e he => ?_, ?_⟩
    · cases hc : seen.contains e.born with
      | true => rfl
      | false =>
        have : e ∈ left := by rw [hleft, Array.mem_filter]; exact ⟨he, by rw [hc]; rfl⟩
        rw [hl] at this; simp at this
    · simp only [Instr.next, Sem.run_bind, run_getIter hh, run_getMap hm, Result.andThen, hguard, Bool.false_eq_true, if_false, ← hleft, hold, hnew, Sem.run_pure]
      simp [hl, choose, Sem.run, Question.forced]
  · right
    have hc : (if left.isEmpty then #[none] else #[]) ++ (left ++ #[]).map some = left.map some := by
      have : left.isEmpty = false := by rw [Array.isEmpty_eq_false_iff]; intro e; rw [e] at hl0; exact hl0 rfl
      simp [this]
    obtain ⟨i, w1, hi, hw1, hw2, hw3, hw4, hch⟩ : ∃ i w1, i < left.size ∧ w1.heap = w.heap ∧ w1.tape = w.tape ∧ w1.os = w.os ∧ w1.output = w.output ∧ (choose (.mapNext left.size)).run P w = .ok i w1 := by
      by_cases h1 : left.size ≤ 1
      · exact ⟨0, w, by omega, rfl, rfl, rfl, rfl, by simp [choose, Sem.run, Question.forced, h1]⟩
      · refine ⟨(Question.mapNext left.size).cut (w.tape w.drawn (.mapNext left.size)), { w with drawn := w.drawn + 1 }, Nat.mod_lt _ (by omega), rfl, rfl, rfl, rfl, ?_⟩
        have hf : (Question.mapNext left.size).forced = false := by simp [Question.forced]; omega
        simp [choose, Sem.run, hf]
    have he : left[i] ∈ mes ∧ seen.contains left[i].born = false := by
      have h1 : ∀ e, e ∈ left → e ∈ mes ∧ seen.contains e.born = false := fun e he => by
        rw [hleft, Array.mem_filter] at he
        exact ⟨he.1, by simpa only [Bool.not_eq_true'] using he.2⟩
      exact h1 _ (Array.getElem_mem hi)
    refine ⟨left[i], w1, he.1, he.2, hw1, hw2, hw3, hw4, ?_⟩
    have hh1 : w1.heap[l]? = some (.mapIter (some c) since seen n) := by rw [hw1]; exact hh
    simp only [Instr.next, Sem.run_bind, run_getIter hh, run_getMap hm, Result.andThen, hguard, Bool.false_eq_true, if_false, ← hleft, hold, hnew, Sem.run_pure, hc, Array.size_map, hch]
    have hget : (left.map some)[i]? = some (some left[i]) := by simp [hi]
    simp only [hget, Sem.run_bind, run_setIter hh1, Result.andThen, Sem.run_pure]
theorem HR.same (h : HR E.ng ρ H w) {w1 : World} (hw : w1.heap = w.heap) (ht : w1.tape = w.tape) (ho : w1.os = w.os) (hu : w1.output = w.output) : HR E.ng ρ H w1 ∧ Ext ρ H w ρ H w1 :=
  ⟨⟨fun b => (h.obj b).mono ρ.le_refl (fun p _ => by rw [hw]), h.inj, h.fresh, h.glob⟩,
    { le := ρ.le_refl, size := by rw [hw]; exact Nat.le_refl _, keep := fun c _ _ => by rw [hw], range := fun c hh => .inr hh, dom := fun _ _ hq => .inl hq, next := Nat.le_refl _, tape := ht, os := ho, output := hu }⟩
noncomputable section
/-- where a call that ranges over a map of several entries is to end, whatever the order -/
structure Tgt where
  v : Value
  n : Nat
  d : Nat
  L : List (Nat × AObj)
def tout (T : Tgt) : Out := .ok T.v (lit T.d T.n T.L)
def hits (T : Tgt) (r : Out) : Bool := outIs r T.v T.n T.L
def goPick (E : Env) (ex : Ex) (c : Cx) (d : List Nat) (k : List AItem) (ops : Array Oper) (o : Oper) (rest : List Oper) (t : Tr Value) (H : Heap) (b m n : Nat) (seen : List Nat) (es : List (Value × Value)) (j : Nat) : Out := match nth es j with
  | some kv => afterOps ex c d k (runOps E ex ops rest (putTmp t o.dst (.tuple ⟨[.bool true, kv.1, kv.2]⟩)) (H.set b (.iter (some m) n (seen ++ [j]) n)))
  | none => .bad
def allHit (T : Tgt) (f : Nat → Out) : List Nat → Bool
  | [] => true
  | j :: l => hits T (f j) && allHit T f l
def manyL (T : Tgt) (f : Nat → Out) (over : Out) (l : List Nat) : Out := match l with
  | [] => over
  | j :: l => match l with
    | [] => f j
    | i :: l => match allHit T f (j :: i :: l) with
      | true => tout T
      | false => .bad
def manyA (T : Tgt) (E : Env) (ex : Ex) (c : Cx) (d : List Nat) (k : List AItem) (ops : Array Oper) (o : Oper) (rest : List Oper) (t : Tr Value) (H : Heap) (b m n : Nat) (seen : List Nat) (es : List (Value × Value)) : Out :=
  manyL T (goPick E ex c d k ops o rest t H b m n seen es) (afterOps ex c d k (runOps E ex ops rest (putTmp t o.dst over) H)) (leftFrom n 0 seen)
structure It where
  b : Nat
  m : Nat
  n : Nat
  seen : List Nat
  es : List (Value × Value)
def itMap (b m since last : Nat) (seen : List Nat) (o : AObj) : Option It := match o with
  | .map es => match Nat.beq since es.length && Nat.beq last es.length && Nat.blt 1 es.length with
    | true => some ⟨b, m, es.length, seen, es⟩
    | false => none
  | _ => none
def itObj (H : Heap) (b : Nat) (o : AObj) : Option It := match o with
  | .iter (some m) since seen last => itMap b m since last seen (H.get m)
  | _ => none
def itOf (H : Heap) (v : Value) : Option It := match v with
  | .pointer (some ⟨b, 0, _⟩) => itObj H b (H.get b)
  | _ => none
def nextOf (o : Oper) : Option Operand := match o.op with
  | .next x false => match o.guard with
    | none => some x
    | some _ => none
  | _ => none
def headNext (ops : List Oper) : Option (Oper × List Oper × Operand) := match ops with
  | o :: rest => match nextOf o with
    | some x => some (o, rest, x)
    | none => none
  | [] => none
def regB (T : Tgt) (E : Env) (ex : Ex) (c : Cx) (d : List Nat) (k : List AItem) (t : Tr Value) (H : Heap) (ops : Array Oper) (els : Out) : Out := match headNext ops.toList with
  | some q => match itOf H (evA t q.2.2) with
    | some i => match okOps E.ng c.nt ops.toList with
      | true => manyA T E ex c d k ops q.1 q.2.1 t H i.b i.m i.n i.seen i.es
      | false => .bad
    | none => els
  | none => els
def codeB (T : Tgt) (E : Env) (ex : Ex) (c : Cx) (d : List Nat) (k : List AItem) (t : Tr Value) (H : Heap) (cd : Code) (els : Out) : Out := match cd with
  | .region _ ops draw => match draw with
    | false => regB T E ex c d k t H ops els
    | true => els
  | _ => els
def stepB (T : Tgt) (E : Env) (ex : Ex) (c : Cx) (d : List Nat) (todo : List AItem) (t : Tr Value) (H : Heap) : Out := match todo with
  | .code cd :: k => codeB T E ex c d k t H cd (Ex.step E ex c d todo t H)
  | _ => Ex.step E ex c d todo t H
def runB (T : Tgt) (E : Env) : Nat → Ex
  | 0 => fun _ _ _ _ _ => .bad
  | n + 1 => stepB T E (runB T E n)

theorem Fin.hit {T : Tgt} {fr : Frame} {cs : List Frame} {r : Out} (hh : hits T r = true) (hf : ∀ v' H', r = .ok v' H' → Fin E ρ H w fr cs v' H') : Fin E ρ H w fr cs T.v (lit T.d T.n T.L) := by
  unfold hits outIs at hh
  cases r with
  | bad => cases hh
  | ok u H1 =>
    simp only [Bool.and_eq_true] at hh
    have hu := veq_eq hh.1
    subst hu
    obtain ⟨ρ', v, w', a, b, c, d⟩ := hf _ _ rfl
    exact ⟨ρ', v, w', a, b, c.weaken hh.2, d.weaken' hh.2⟩
theorem allHit_mem {T : Tgt} {f : Nat → Out} : ∀ {l : List Nat}, allHit T f l = true → ∀ j ∈ l, hits T (f j) = true
  | [], _, j, hj => by cases hj
  | i :: l, h, j, hj => by
    simp only [allHit, Bool.and_eq_true] at h
    rcases List.mem_cons.1 hj with rfl | hj
    · exact h.1
    · exact allHit_mem h.2 j hj
theorem itOf_inv {v : Value} {i : It} (h : itOf H v = some i) : ∃ s, v = .pointer (some ⟨i.b, 0, s⟩) ∧ H.get i.b = .iter (some i.m) i.n i.seen i.n ∧ H.get i.m = .map i.es ∧ i.n = i.es.length := by
  unfold itOf at h
  split at h
  · rename_i b s
    unfold itObj at h
    split at h
    · rename_i m since seen last hb
      unfold itMap at h
      split at h
      · rename_i es hm
        split at h
        · rename_i hc
          simp only [Bool.and_eq_true] at hc
          have h1 := Nat.eq_of_beq_eq_true hc.1.1
          have h2 := Nat.eq_of_beq_eq_true hc.1.2
          cases h
          refine ⟨s, rfl, ?_, hm, rfl⟩
          rw [hb, h1, h2]
        · cases h
      · cases h
    · cases h
  · cases h
/-- what is left of a region, its first operation done -/
theorem region_rest (hG : EnvGood E) (hex : SoundEx E ex) {c : Cx} {d : List Nat} {k : List AItem} {t : Tr Value} {fr : Frame} {cs : List Frame} {id : Nat} {ops : Array Oper} {o : Oper} {rest : List Oper} {kk : List Item} {v v1 v2 : Value} {H1 H2 : Heap} {w1 : World}
    (hops : ops.toList = o :: rest) (hok : okOps E.ng c.nt ops.toList = true) (hfr : FrR ρ c d (.code (.region id ops false) :: k) t fr) (hk : IR ρ k kk)
    (hs : Steps E.P (lone fr cs w) (lone { fr with tmps := putA fr.tmps o.dst v, todo := .inRegion ops (List.range' 1 rest.length) :: kk } cs w1)) (hv : VR ρ v v1) (h1 : HR E.ng ρ H1 w1) (he : Ext ρ H w ρ H1 w1)
    (hc : afterOps ex c d k (runOps E ex ops rest (putTmp t o.dst v1) H1) = .ok v2 H2) : Fin E ρ H w fr cs v2 H2 := by
  rw [hops] at hok
  simp only [okOps, Bool.and_eq_true] at hok
  obtain ⟨⟨hd, hxs⟩, hok⟩ := hok
  cases hr : runOps E ex ops rest (putTmp t o.dst v1) H1 with
  | bad => rw [hr] at hc; cases hc
  | ok t2 H3 =>
    rw [hr] at hc
    have hdrop : ops.toList.drop 1 = rest := by rw [hops]; rfl
    obtain ⟨ρ1, a1, w2, g1, g2, g3, g4⟩ := runOps_go (k' := kk) hG hex rest 1 _ t2 H1 H3 hdrop hok hr ρ { fr with tmps := putA fr.tmps o.dst v, todo := .inRegion ops (List.range' 1 rest.length) :: kk } w1 cs rfl hfr.mode (put_TR hfr.tmps hd hv) h1
    refine Fin.head (fr1 := { fr with tmps := a1, todo := kk }) (Steps.trans hs g1) rfl rfl (he.trans g4) (hex _ _ _ _ _ _ _ hc ρ1 _ w2 cs ?_ g3)
    have := hfr.mono g4.le
    exact ⟨hfr.fn, hfr.mode, hfr.kind, g2, hk.mono g4.le, this.defers, this.round⟩
theorem MR.born_lt {mes : List MapEntry} : ∀ {i : Nat} {es : List (Value × Value)}, MR ρ mes i es → ∀ (e : MapEntry), e ∈ mes → ∃ j, e.born = i + j ∧ j < es.length ∧ mes[j]? = some e
  | _, _, .nil i, e, he => by cases he
  | _, _, .cons (es := l) hk hv hb tl, e, he => by
    rcases List.mem_cons.1 he with rfl | he
    · exact ⟨0, by simpa using hb, by simp, rfl⟩
    · obtain ⟨j, h1, h2, h3⟩ := MR.born_lt tl e he
      exact ⟨j + 1, by omega, by simp; omega, by simpa using h3⟩
theorem MR.at {mes : List MapEntry} : ∀ {i : Nat} {es : List (Value × Value)}, MR ρ mes i es → ∀ j, j < es.length → ∃ e, e ∈ mes ∧ e.born = i + j
  | _, _, .nil i, j, hj => by simp at hj
  | _, _, .cons (e := e) hk hv hb tl, 0, hj => ⟨e, List.mem_cons_self .., by simpa using hb⟩
  | _, _, .cons hk hv hb tl, j + 1, hj => by
    obtain ⟨e, h1, h2⟩ := MR.at tl j (by simpa using hj)
    exact ⟨e, List.mem_cons_of_mem _ h1, by omega⟩
theorem nextOf_inv {o : Oper} {x : Operand} (h : nextOf o = some x) : o.op = .next x false ∧ o.guard = none := by
  unfold nextOf at h
  split at h
  · rename_i y hy
    split at h
    · rename_i hg
      cases h
      exact ⟨hy, hg⟩
    · cases h
  · cases h
set_option maxHeartbeats 1000000 in
theorem many_go (hG : EnvGood E) (hex : SoundEx E ex) {T : Tgt} {c : Cx} {d : List Nat} {k : List AItem} {t : Tr Value} {fr : Frame} {cs : List Frame} {id : Nat} {ops : Array Oper} {o : Oper} {rest : List Oper} {kk : List Item} {x : Operand} {it : It} {v' : Value}
    (hops : ops.toList = o :: rest) (hnx : nextOf o = some x) (hit : itOf H (evA t x) = some it) (hok : okOps E.ng c.nt ops.toList = true) (hfr : FrR ρ c d (.code (.region id ops false) :: k) t fr) (hft : fr.todo = .code (.region id ops false) :: kk) (hk : IR ρ k kk) (h : HR E.ng ρ H w)
    (hc : manyA T E ex c d k ops o rest t H it.b it.m it.n it.seen it.es = .ok v' H') : Fin E ρ H w fr cs v' H' := by
  have hm := hfr.mode
  obtain ⟨hop, hgd⟩ := nextOf_inv hnx
  have hok0 := hok
  rw [hops] at hok0
  simp only [okOps, Bool.and_eq_true] at hok0
  obtain ⟨⟨hdst, hxs⟩, _⟩ := hok0
  have hev : VR ρ (fr.eval x) (evA t x) := eval_rel h.glob hfr.tmps (okXs_mem hxs x (by rw [hop]; simp [Op.operands]))
  obtain ⟨s, hvx, hib, him, hin⟩ := itOf_inv hit
  rw [hvx] at hev
  obtain ⟨l, m', hfx, hp, hh, _, hmm⟩ := iter_inv h hev hib
  obtain ⟨cm, rfl, hpc⟩ := hmm it.m rfl
  obtain ⟨mes, hmes, hMR⟩ := map_inv h hpc him
  rw [← hin] at hmes
  have hlt := (Array.getElem?_eq_some_iff.1 hh).1
  have hborn : ∀ e ∈ mes, e.born < it.n ∧ e.born < it.n := fun e he => by
    obtain ⟨j, h1, h2, _⟩ := hMR.born_lt e (by simpa using he)
    omega
  have hi0 : ops[0]? = some o := by
    have : ops.toList[0]? = some o := by rw [hops]; rfl
    simpa using this
  have hs0 : Go.step E.P (lone fr cs w) = .next (lone { fr with todo := .inRegion ops (List.range ops.size) :: kk } cs w) := step_lone_go (by simp [stepG, stepG.exec, hm, hft])
  have hrange : List.range ops.size = 0 :: List.range' 1 rest.length := by
    have : ops.size = rest.length + 1 := by
      have := congrArg List.length hops
      simpa using this
    rw [List.range_eq_range', this]; rfl
  have hwant : Region.wanted o (yielded ops fr.tmps) = true := by
    rw [wanted_eq hfr.tmps o]; rw [hgd]; rfl
  -- one step of the operation
  have hstep : ∀ (v : Value) (w1 : World), (Instr.next (.pointer (some ⟨l, 0, none⟩)) false o.type).run E.P w = .ok v w1 → Steps E.P (lone fr cs w) (lone { fr with tmps := putA fr.tmps o.dst v, todo := .inRegion ops (List.range' 1 rest.length) :: kk } cs w1) := fun v w1 hr => by
    have hft1 : ({ fr with todo := .inRegion ops (List.range ops.size) :: kk } : Frame).todo = .inRegion ops (0 :: List.range' 1 rest.length) :: kk := by rw [hrange]
    have hdef : ∀ c, o.op ≠ .defer c := fun c e => by rw [hop] at e; cases e
    have h2 := step_oper (P := E.P) (w := w) (cs := cs) (fr := { fr with todo := .inRegion ops (List.range ops.size) :: kk }) hm hft1 hi0 hwant hdef
    have hex' : (execOp fr.eval o).run E.P w = .ok (.value v) w1 := by
      have : execOp fr.eval o = (do pure (Next.value (← Instr.next (fr.eval x) false o.type))) := by
        cases o with
        | mk dst op type pos after guard => simp only at hop; subst hop; rfl
      rw [this, hfx]
      exact run_v hr
    have happ : App E.P { fr with todo := .inRegion ops (List.range ops.size) :: kk } cs (execOp fr.eval o) w v w1 := App.value hex'
    have hst := happ.steps h2
    rw [finish_region hft1 hi0] at hst
    exact Steps.head hs0 hst
  rcases run_next_map (P := E.P) (ty := o.type) hh hmes hborn with ⟨hall, hrun⟩ | ⟨e, w1, hemes, hnot, hw1, hw2, hw3, hw4, hrun⟩
  · -- all are seen
    have hleft : leftFrom it.n 0 it.seen = [] := by
      cases hl : leftFrom it.n 0 it.seen with
      | nil => rfl
      | cons j r =>
        have hj : j ∈ leftFrom it.n 0 it.seen := by rw [hl]; exact List.mem_cons_self ..
        rw [mem_left] at hj
        obtain ⟨e, he, hb⟩ := hMR.at j (by omega)
        have := hall e (by simpa using he)
        rw [hb, Nat.zero_add] at this
        exact absurd (by simpa using this) hj.2
    unfold manyA at hc
    rw [hleft] at hc
    exact region_rest hG hex hops hok hfr hk (hstep _ _ hrun) over_rel h (Ext.refl _ _ _) hc
  · -- one that isn't
    obtain ⟨j, hj1, hj2, hj3⟩ := hMR.born_lt e (by simpa using hemes)
    rw [Nat.zero_add] at hj1
    have hjs : j ∈ leftFrom it.n 0 it.seen := by
      rw [mem_left]
      refine ⟨by omega, fun hmem => ?_⟩
      have : it.seen.toArray.contains e.born = true := by rw [hj1]; simpa using hmem
      rw [this] at hnot; cases hnot
    obtain ⟨kv, hkv⟩ : ∃ kv, it.es[j]? = some kv := ⟨_, List.getElem?_eq_getElem hj2⟩
    obtain ⟨hkr, hvr⟩ := hMR.get j e kv hj3 hkv
    obtain ⟨hs1, hs2⟩ := h.same hw1 hw2 hw3 hw4
    have hpush : (it.seen.toArray.push e.born) = (it.seen ++ [j]).toArray := by rw [hj1]; simp
    rw [hpush] at hrun
    obtain ⟨g1, g2⟩ := put_obj hs1 (x := .mapIter (some cm) it.n (it.seen ++ [j]).toArray it.n) (o := .iter (some it.m) it.n (it.seen ++ [j]) it.n) hib (by simp) hp (by rw [hw1]; exact hlt) (fun w' hw => ⟨l, some cm, hp, hw, fun hm => (by cases hm), fun mb hm => by cases hm; exact ⟨cm, rfl, hpc⟩⟩)
    have hgo : ∀ v2 H2, goPick E ex c d k ops o rest t H it.b it.m it.n it.seen it.es j = .ok v2 H2 → Fin E ρ H w fr cs v2 H2 := fun v2 H2 hg => by
      unfold goPick at hg
      rw [nth_eq, hkv] at hg
      exact region_rest hG hex hops hok hfr hk (hstep _ _ hrun) (.tuple [_, _, _] [_, kv.1, kv.2] rfl (LR.cons (.bool true) (LR.cons hkr (LR.cons hvr (LR.nil ρ)))).2) g1 (hs2.trans g2) hg
    unfold manyA manyL at hc
    cases hl : leftFrom it.n 0 it.seen with
    | nil => rw [hl] at hjs; cases hjs
    | cons a r =>
      rw [hl] at hc hjs
      cases r with
      | nil =>
        simp only [List.mem_singleton] at hjs
        subst hjs
        exact hgo _ _ hc
      | cons b r =>
        simp only at hc
        cases ha : allHit T (goPick E ex c d k ops o rest t H it.b it.m it.n it.seen it.es) (a :: b :: r) with
        | false => rw [ha] at hc; cases hc
        | true =>
          rw [ha] at hc
          cases hc
          exact Fin.hit (allHit_mem ha j hjs) hgo
theorem stepB_go (hG : EnvGood E) (hex : SoundEx E ex) (hdraw : DrawOk E ex) {T : Tgt} : SoundEx E (stepB T E ex) := by
  intro c d todo t H v' H' hc ρ fr w cs hfr h
  have hplain := step_go hG hex hdraw c d todo t H v' H'
  cases todo with
  | nil => exact hplain hc ρ fr w cs hfr h
  | cons it k =>
    cases it <;> try exact hplain hc ρ fr w cs hfr h
    rename_i cd
    cases cd <;> try exact hplain hc ρ fr w cs hfr h
    rename_i id ops draw
    cases draw with
    | true => exact hplain hc ρ fr w cs hfr h
    | false =>
      have hc : regB T E ex c d k t H ops (Ex.step E ex c d (.code (.region id ops false) :: k) t H) = .ok v' H' := hc
      unfold regB at hc
      cases hq : headNext ops.toList with
      | none => rw [hq] at hc; exact hplain hc ρ fr w cs hfr h
      | some q =>
        rw [hq] at hc
        simp only at hc
        cases hi : itOf H (evA t q.2.2) with
        | none => rw [hi] at hc; exact hplain hc ρ fr w cs hfr h
        | some i =>
          rw [hi] at hc
          simp only at hc
          cases hok : okOps E.ng c.nt ops.toList with
          | false => rw [hok] at hc; cases hc
          | true =>
            rw [hok] at hc
            simp only at hc
            have htd := hfr.todo
            generalize hft : fr.todo = ft at htd
            cases htd with
            | code _ hk =>
              unfold headNext at hq
              split at hq
              · rename_i o rest hops
                split at hq
                · rename_i x hx
                  cases hq
                  exact many_go hG hex hops hx hi hok hfr hft hk h hc
                · cases hq
              · cases hq
theorem runB_sound (hG : EnvGood E) (T : Tgt) : ∀ n, SoundEx E (runB T E n)
  | 0 => fun _ _ _ _ _ _ _ h => by cases h
  | n + 1 => stepB_go hG (runB_sound hG T n) (draw_ok hG (runB_sound hG T n))
/-- a call that ranges over maps of several entries comes to what is written, whatever the orders -/
def Memo.runsB (E : Env) (m : Memo) (N d : Nat) : Bool := outIs (callA E (runB ⟨m.v, m.n', d, m.L'⟩ E N) (lit d m.n m.L) m.f m.args) m.v m.n' m.L'
theorem Memo.semB (hG : EnvGood E) {m : Memo} {N d d' : Nat} (hb : bodied (E.ft.get none m.f) = true) (h : m.runsB E N d = true) : CallSem E m.f (lit d m.n m.L) m.args m.v (lit d' m.n' m.L') := by
  intro ρ w args hr ha
  obtain ⟨fn, c, hfn, hbd⟩ := of_bodied hb
  have hpf := hG.ft m.f fn hfn
  refine ⟨?_, ?_⟩
  · have h1 : fn.name ≠ "runtime.NumGoroutine" := by simpa using hG.nog m.f fn hfn
    simp [callFunc, hpf, h1, hbd]
  · unfold Memo.runsB outIs at h
    cases hc : callA E (runB ⟨m.v, m.n', d, m.L'⟩ E N) (lit d m.n m.L) m.f m.args with
    | bad => rw [hc] at h; cases h
    | ok u H1 =>
      rw [hc] at h
      simp only [Bool.and_eq_true] at h
      have hu := veq_eq h.1
      subst hu
      refine (call_sound hG (runB_sound hG _ N) ⟨fn, c, hfn, hbd⟩ hc hr ha).mono fun e w' ⟨ρ', v, he, hv, h1, h2⟩ => ⟨ρ', v, he, hv, h1.weaken h.2, h2.weaken' h.2⟩
end
end Ex
end
section
namespace Ex
open Go
variable {E : Env} {ρ ρ' : Rho} {H H' : Heap} {w w' : World} {ex : Ex}

/-! An append to a row whose room isn't known: both ways. -/
/-- in place -/
theorem extend_sound (h : HR E.ng ρ H w) {b o k n size : Nat} {p : Pl} {cs new' new : List Value} (hp : ρ b = some p) (hb : H.get b = .cells cs k) (hk : k ≠ 0) (hend : o + n * size = cs.length)
    (hn : LR ρ new new') (h1 : ∀ v ∈ new, oneCell v = true) (hfit : o + n * size + new.length ≤ p.z) :
    ∃ w', (storeCells ⟨p.c, p.s + o + n * size, none⟩ new).run E.P w = .ok () w' ∧ HR E.ng ρ (H.set b (.cells (cs ++ new') k)) w' ∧ Ext ρ H w ρ (H.set b (.cells (cs ++ new') k)) w' := by
  obtain ⟨hpk, hc⟩ := h.cells hp hb
  have halive : H.get b ≠ .none := by rw [hb]; simp
  obtain ⟨cells, e, fr, c1, c2, c3, c4, c5, c6⟩ := hc
  have hfit' : p.s + o + n * size + 0 + new.length ≤ cells.size := by rw [c2]; omega
  have hrun := run_store_cells (P := E.P) (p.s + o + n * size) new 0 cells w c1 hfit' (fun o ho => c5 o (.inl ho)) h1
  have hlt := (Array.getElem?_eq_some_iff.1 c1).1
  have hother : ∀ c, c ≠ p.c → (withObj w p.c (.cells (splice cells (p.s + o + n * size + 0) new) e fr)).heap[c]? = w.heap[c]? := fun c hne => by
    rw [withObj_heap _ _ _ _ hlt, if_neg hne]
  have hobj : ObjAt ρ (withObj w p.c (.cells (splice cells (p.s + o + n * size + 0) new) e fr)) b (.cells (cs ++ new') k) := by
    refine ⟨p, hp, hpk, _, e, fr, by rw [withObj_heap _ _ _ _ hlt, if_pos rfl], by rw [splice_size, c2], ?_, fun h0 => absurd (hpk ▸ h0) hk, by rw [splice_size]; exact fun o ho => c5 o ho, fun i v' hv => ?_⟩
    · simp only [List.length_append, ← hn.1]; omega
    · rw [splice_get _ _ _ _ hfit']
      by_cases hi : i < cs.length
      · rw [List.getElem?_append_left hi] at hv
        rw [if_neg (by omega)]
        exact c6 _ v' hv
      · rw [List.getElem?_append_right (by omega)] at hv
        obtain ⟨v, a, b'⟩ := hn.get hv
        have hi2 := (List.getElem?_eq_some_iff.1 a).1
        rw [if_pos (by omega)]
        exact ⟨v, by rw [show p.s + i - (p.s + o + n * size + 0) = i - cs.length by omega]; exact a, b'⟩
  refine ⟨_, hrun, h.setObj halive hp hother hobj, ?_⟩
  exact { le := ρ.le_refl, size := by rw [withObj_size]; exact Nat.le_refl _, keep := fun c _ hn => hother c (fun e => hn ⟨b, p, halive, hp, e.symm⟩), range := fun c hh => .inr (Held.set halive hh),
          dom := fun _ _ hq => .inl hq, next := by rw [Heap.next_set]; exact Nat.le_refl _, tape := rfl, os := rfl, output := rfl }
theorem Ext.wide {m : Nat} (h : Ext ρ H w ρ' H' w') (hm : H.next ≤ m) : Ext ρ H w ρ' (bump H' m) w' where
  le := h.le
  size := h.size
  keep := h.keep
  range c hh := h.range c (by
    obtain ⟨b, p, h1, h2⟩ := hh
    rw [bump_get] at h1
    exact ⟨b, p, h1, h2⟩)
  dom := h.dom
  next := by rw [bump_next]; exact hm
  tape := h.tape
  os := h.os
  output := h.output
noncomputable section
structure Fork where
  va : Value
  Ha : Heap
  vb : Value
  Hb : Heap
def forkRow (H : Heap) (b o len cap size n : Nat) (new cs : List Value) (k : Nat) (old : Option (List Value)) : Option Fork := match old with
  | none => none
  | some old => match k with
    | 0 => none
    | j + 1 => match Nat.beq k size && Nat.beq (o + len * size) cs.length && Nat.blt 0 cap && Nat.blt cap (len + n) && Nat.ble (len + n) 1048576 with
      | true => some ⟨.slice (some ⟨b, o, none⟩) (len + n) (len + n), bump (H.set b (.cells (cs ++ new) k)) (Nat.succ H.next), .slice (some ⟨H.next, 0, none⟩) (len + n) (len + n), newRowA H (old ++ new) size⟩
      | false => none
def forkObj (H : Heap) (b o len cap size n : Nat) (new : List Value) (obj : AObj) : Option Fork := match obj with
  | .cells cs k => forkRow H b o len cap size n new cs k (takeL (len * size) (dropL o cs))
  | _ => none
def forkTo (H : Heap) (size n : Nat) (s : Value) (new : List Value) : Option Fork := match s with
  | .slice (some ⟨b, o, _⟩) len cap => forkObj H b o len cap size n new (H.get b)
  | _ => none
def forkSrc (H : Heap) (size n : Nat) (s : Value) (new : Option (List Value)) : Option Fork := match new with
  | some new => match Nat.beq new.length (n * size) && allOne new with
    | true => forkTo H size n s new
    | false => none
  | none => none
def forkLen (H : Heap) (size : Nat) (s x : Value) (n : Option Nat) : Option Fork := match n with
  | some n => forkSrc H size n s (srcCells H size n x)
  | none => none
def forkV (T : Ts) (H : Heap) (t : TypeId) (s x : Value) : Option Fork := match appSize T t with
  | some size => forkLen H size s x (lenA x)
  | none => none
set_option maxHeartbeats 1000000 in
theorem fork_sound (hE : EnvOk E) (h : HR E.ng ρ H w) {t u ty : TypeId} {s s' x x' : Value} {f : Fork} (hd : isInt (E.tt.und u) = some false) (hs : VR ρ s s') (hx : VR ρ x x') (ha : forkV E.tt H t s' x' = some f) :
    (∃ v w', (Builtin.append_ #[t, u] ty #[s, x]).run E.P w = .ok v w' ∧ VR ρ v f.va ∧ HR E.ng ρ f.Ha w' ∧ Ext ρ H w ρ f.Ha w') ∨
    ∃ ρ' v w', (Builtin.append_ #[t, u] ty #[s, x]).run E.P w = .ok v w' ∧ VR ρ' v f.vb ∧ HR E.ng ρ' f.Hb w' ∧ Ext ρ H w ρ' f.Hb w' := by
  obtain ⟨d, hu, hdn⟩ := isInt_inv hE hd
  unfold forkV at ha
  cases hsz : appSize E.tt t with
  | none => rw [hsz] at ha; cases ha
  | some size =>
    rw [hsz] at ha
    obtain ⟨e, i, z, ht, hi, hisz, hz, hzs, hb1, hb0, hpos⟩ := appSize_inv hE hsz
    simp only [forkLen] at ha
    cases hl : lenA x' with
    | none => rw [hl] at ha; cases ha
    | some n =>
      rw [hl] at ha
      simp only [forkSrc] at ha
      cases hsrc : srcCells H size n x' with
      | none => rw [hsrc] at ha; cases ha
      | some new' =>
        rw [hsrc] at ha
        simp only at ha
        cases hq : (Nat.beq new'.length (n * size) && allOne new') with
        | false => rw [hq] at ha; cases ha
        | true =>
          rw [hq] at ha
          simp only [Bool.and_eq_true] at hq
          have hnl : new'.length = n * size := Nat.eq_of_beq_eq_true hq.1
          obtain ⟨new, hnr, hnrun⟩ := src_sound h hx hl hsrc
          have hnew1 : ∀ v ∈ new, oneCell v = true := allOne_rel hnr hq.2
          have hnlen : new.length = n * size := by rw [hnr.1, hnl]
          have hlen := lenA_sound hx hl E.P
          simp only at ha
          cases s' with
          | slice a len cap =>
            cases a with
            | none => cases ha
            | some a =>
              obtain ⟨b, o, sp⟩ := a
              have ha : forkObj H b o len cap size n new' (H.get b) = some f := ha
              obtain ⟨p, hp, hcase⟩ := slice_inv hs
              cases hob : H.get b <;> rw [hob] at ha <;> simp only [forkObj] at ha <;> try (cases ha; done)
              rename_i cs k
              obtain ⟨hpk, hcells⟩ := h.cells hp hob
              cases hold : takeL (len * size) (dropL o cs) with
              | none => rw [hold] at ha; cases ha
              | some old' =>
                rw [hold] at ha
                simp only [forkRow] at ha
                have hread : readCells H b o (len * size) = some old' := by simp only [readCells, hob]; exact hold
                obtain ⟨old, ho1, ho2, ho3⟩ := read_cells h hp hread
                rw [dropL_eq] at hold
                obtain ⟨hol, hoe⟩ := takeL_some hold
                cases k with
                | zero => cases ha
                | succ k =>
                  simp only at ha
                  cases hq2 : (Nat.beq (k + 1) size && Nat.beq (o + len * size) cs.length && Nat.blt 0 cap && Nat.blt cap (len + n) && Nat.ble (len + n) 1048576) with
                  | false => rw [hq2] at ha; cases ha
                  | true =>
                    rw [hq2] at ha
                    simp only [Bool.and_eq_true, Nat.blt_eq] at hq2
                    obtain ⟨⟨⟨⟨q1, q2⟩, q3⟩, hfar⟩, hsm⟩ := hq2
                    have q1 := Nat.eq_of_beq_eq_true q1
                    have q2 := Nat.eq_of_beq_eq_true q2
                    have hsm := Nat.le_of_ble_eq_true hsm
                    simp only at ha
                    cases ha
                    rcases hcase with ⟨c, hse, hc, h0, hk⟩ | ⟨a, c, rfl, rfl, rfl, hk⟩
                    · rcases Nat.lt_or_ge c (len + n) with hcl | hcl
                      · right
                        subst hse
                        have hfo : (Builtin.firstCells i.size len (.slice (some ⟨p.c, p.s + o, none⟩) len c)).run E.P w.drew = .ok ⟨old⟩ w.drew := by
                          have hrun := run_loadCells_list (P := E.P) w.drew ⟨p.c, p.s + o, none⟩ old (fun j v hv => by
                            rw [addr_add]; exact ho3 j v hv)
                          rw [ho2] at hrun
                          rw [hisz]; exact hrun
                        have hr := run_append_far (w := w) (ty := ty) (base := some ⟨p.c, p.s + o, none⟩) (sLen := len) (sCap := c) (old := old) (new := new) ht hu hdn hi hz hlen hfo (by rw [hisz]; exact hnrun w.drew rfl) hcl hsm hb1 hb0
                        exact freshRes h hzs hpos (grownCap_ge _ _ _ _) (by rw [List.length_append, ho2, hnlen, ← Nat.add_mul]) ho1 hnr hr
                      · left
                        subst hse
                        have hkk : p.k ≠ 0 := by rw [hpk]; omega
                        have hroom := hk hkk
                        have hfit : o + len * size + new.length ≤ p.z := by
                          rw [hnlen, hpk, q1] at *
                          have e1 : len * size + n * size = (len + n) * size := by rw [Nat.add_mul]
                          have e2 : size * (len + n) ≤ size * c := Nat.mul_le_mul_left _ hcl
                          have e3 : size * (len + n) = (len + n) * size := Nat.mul_comm _ _
                          omega
                        obtain ⟨w', m1, m3, m4⟩ := extend_sound h hp hob (by omega) q2 hnr hnew1 hfit
                        refine ⟨.slice (some ⟨p.c, p.s + o, none⟩) (len + n) c, w', ?_, ?_, m3.wider ρ.le_refl (fun b hb => h.fresh b (by omega)), m4.wide (Nat.le_succ _)⟩
                        · refine run_append_near ht hu hdn hi hlen (by rw [hisz]; exact hnrun w rfl) hcl (fun a e => ?_) (fun e => by cases e)
                          cases e
                          rw [addr_add, hisz]
                          exact m1
                        · exact VR.slice hp hcl (fun h0 => absurd h0 hkk) hk
                    · omega
          | _ => cases ha
def forkArgs (E : Env) (H : Heap) (ts : List TypeId) (vs : List Value) : Option Fork := match vs with
  | [s, x] => match ts with
    | [t, u] => match isInt (E.tt.und u) with
      | some false => forkV E.tt H t s x
      | _ => none
    | _ => none
  | _ => none
def isApp (o : Oper) : Bool := match o.op with
  | .call c => match c.callee with
    | .builtin .append => true
    | _ => false
  | _ => false
def forkOp (E : Env) (H : Heap) (t : Tr Value) (o : Oper) : Option Fork := match o.op with
  | .call c => match c.callee with
    | .builtin .append => forkArgs E H c.argTypes.toList (evs t c.args.toList)
    | _ => none
  | _ => none
def plainOp (o : Oper) : Bool := match o.op with
  | .call c => match c.callee with
    | .builtin _ => true
    | _ => false
  | _ => true
structure Fk where
  pre : List Oper
  o : Oper
  rest : List Oper
  t : Tr Value
  H : Heap
  f : Fork
def Fk.add (o : Oper) (q : Option Fk) : Option Fk := match q with
  | some q => some { q with pre := o :: q.pre }
  | none => none
def splitF (E : Env) (ex : Ex) (all : Array Oper) : List Oper → Tr Value → Heap → Option Fk
  | [], _, _ => none
  | o :: l, t, H => match wantedA all t o.guard with
    | false => Fk.add o (splitF E ex all l (putTmp t o.dst Undef) H)
    | true => match forkOp E H t o with
      | some f => some ⟨[], o, l, t, H, f⟩
      | none => match plainOp o with
        | false => none
        | true => match opA E ex H t o with
          | .ok v H1 => Fk.add o (splitF E ex all l (putTmp t o.dst v) H1)
          | .bad => none
def hasApp : List Oper → Bool
  | [] => false
  | o :: l => isApp o || hasApp l
def goRest (E : Env) (ex : Ex) (c : Cx) (d : List Nat) (k : List AItem) (ops : Array Oper) (q : Fk) (v : Value) (H : Heap) : Out :=
  afterOps ex c d k (runOps E ex ops q.rest (putTmp q.t q.o.dst v) H)
def regF (T : Tgt) (E : Env) (ex : Ex) (c : Cx) (d : List Nat) (k : List AItem) (ops : Array Oper) (els : Out) (q : Option Fk) : Out := match q with
  | some q => match okOps E.ng c.nt ops.toList with
    | true => match hits T (goRest E ex c d k ops q q.f.va q.f.Ha) && hits T (goRest E ex c d k ops q q.f.vb q.f.Hb) with
      | true => tout T
      | false => .bad
    | false => .bad
  | none => els
def regC (fn : FuncId) (T : Tgt) (E : Env) (ex : Ex) (c : Cx) (d : List Nat) (k : List AItem) (t : Tr Value) (H : Heap) (ops : Array Oper) (els : Out) : Out := match Nat.beq c.fn fn && hasApp ops.toList with
  | true => regF T E ex c d k ops els (splitF E ex ops ops.toList t H)
  | false => els
def codeC (fn : FuncId) (T : Tgt) (E : Env) (ex : Ex) (c : Cx) (d : List Nat) (k : List AItem) (t : Tr Value) (H : Heap) (cd : Code) (els : Out) : Out := match cd with
  | .region _ ops draw => match draw with
    | false => regC fn T E ex c d k t H ops els
    | true => els
  | _ => els
def stepC (fn : FuncId) (T : Tgt) (E : Env) (ex : Ex) (c : Cx) (d : List Nat) (todo : List AItem) (t : Tr Value) (H : Heap) : Out := match todo with
  | .code cd :: k => codeC fn T E ex c d k t H cd (stepB T E ex c d todo t H)
  | _ => stepB T E ex c d todo t H
def runC (fn : FuncId) (T : Tgt) (E : Env) : Nat → Ex
  | 0 => fun _ _ _ _ _ => .bad
  | n + 1 => stepC fn T E (runC fn T E n)

theorem add_inv {o : Oper} {q : Option Fk} {r : Fk} (h : Fk.add o q = some r) : ∃ s, q = some s ∧ r = { s with pre := o :: s.pre } := by
  cases q with
  | none => cases h
  | some s => cases h; exact ⟨s, rfl, rfl⟩
theorem splitF_inv {all : Array Oper} : ∀ {l : List Oper} {t : Tr Value} {H : Heap} {q : Fk}, splitF E ex all l t H = some q → l = q.pre ++ q.o :: q.rest ∧ runOps E ex all q.pre t H = .ok q.t q.H ∧ wantedA all q.t q.o.guard = true ∧ forkOp E q.H q.t q.o = some q.f
  | [], t, H, q, h => by cases h
  | o :: l, t, H, q, h => by
    simp only [splitF] at h
    cases hw : wantedA all t o.guard with
    | false =>
      rw [hw] at h
      obtain ⟨s, h1, rfl⟩ := add_inv h
      obtain ⟨a, b, c, d⟩ := splitF_inv h1
      refine ⟨by rw [a]; rfl, ?_, c, d⟩
      show @Bool.rec (fun _ => OutT) (runOps E ex all s.pre (putTmp t o.dst Undef) H) _ (wantedA all t o.guard) = _
      rw [hw]; exact b
    | true =>
      rw [hw] at h
      simp only at h
      cases hf : forkOp E H t o with
      | some f => rw [hf] at h; cases h; exact ⟨rfl, rfl, hw, hf⟩
      | none =>
        rw [hf] at h
        simp only at h
        cases hp : plainOp o with
        | false => rw [hp] at h; cases h
        | true =>
          rw [hp] at h
          simp only at h
          cases ho : opA E ex H t o with
          | bad => rw [ho] at h; cases h
          | ok v H1 =>
            rw [ho] at h
            obtain ⟨s, h1, rfl⟩ := add_inv h
            obtain ⟨a, b, c, d⟩ := splitF_inv h1
            refine ⟨by rw [a]; rfl, ?_, c, d⟩
            show @Bool.rec (fun _ => OutT) _ (@Out.rec (fun _ => OutT) .bad (fun v H => runOps E ex all s.pre (putTmp t o.dst v) H) (opA E ex H t o)) (wantedA all t o.guard) = _
            rw [hw, ho]; exact b
/-- a region's first operations -/
theorem runPre_go (hG : EnvGood E) (hex : SoundEx E ex) {ops : Array Oper} {k' : List Item} {nt : Nat} {r : List Oper} : ∀ (l : List Oper) (i : Nat) (t t' : Tr Value) (H H' : Heap), ops.toList.drop i = l ++ r → okOps E.ng nt (l ++ r) = true → runOps E ex ops l t H = .ok t' H' →
    ∀ (ρ : Rho) (fr : Frame) (w : World) (cs : List Frame), fr.todo = .inRegion ops (List.range' i (l ++ r).length) :: k' → fr.mode = .run → TR ρ fr.tmps t nt → HR E.ng ρ H w →
    ∃ ρ' a' w', Steps E.P (lone fr cs w) (lone { fr with tmps := a', todo := .inRegion ops (List.range' (i + l.length) r.length) :: k' } cs w') ∧ TR ρ' a' t' nt ∧ HR E.ng ρ' H' w' ∧ Ext ρ H w ρ' H' w' ∧ ops.toList.drop (i + l.length) = r ∧ okOps E.ng nt r = true
  | [], i, t, t', H, H', hl, hok, hr, ρ, fr, w, cs, ht, hm, htr, h => by
    have hr : OutT.ok t H = .ok t' H' := hr
    cases hr
    refine ⟨ρ, fr.tmps, w, ?_, htr, h, Ext.refl _ _ _, by simpa using hl, hok⟩
    have : fr = { fr with tmps := fr.tmps, todo := .inRegion ops (List.range' (i + ([] : List Oper).length) r.length) :: k' } := by
      cases fr
      simp only at ht
      simp [ht]
    rw [← this]
    exact Steps.refl _ _
  | o :: l, i, t, t', H, H', hl, hok, hr, ρ, fr, w, cs, ht, hm, htr, h => by
    have hi : ops[i]? = some o := by
      have : ops.toList[i]? = some o := by
        have := congrArg (·[0]?) hl
        simpa [List.getElem?_drop] using this
      simpa using this
    have hl' : ops.toList.drop (i + 1) = l ++ r := by
      have := congrArg List.tail hl
      simpa [List.tail_drop] using this
    simp only [List.cons_append, okOps, Bool.and_eq_true] at hok
    obtain ⟨⟨hd, hxs⟩, hok⟩ := hok
    have htodo : fr.todo = .inRegion ops (i :: List.range' (i + 1) (l ++ r).length) :: k' := by rw [ht]; rfl
    have hr : @Bool.rec (fun _ => OutT) (runOps E ex ops l (putTmp t o.dst Undef) H) (@Out.rec (fun _ => OutT) .bad (fun v H => runOps E ex ops l (putTmp t o.dst v) H) (opA E ex H t o)) (wantedA ops t o.guard) = .ok t' H' := hr
    have hwe := wanted_eq (ops := ops) htr o
    have hlen : i + (o :: l).length = i + 1 + l.length := by simp only [List.length_cons]; omega
    rw [hlen]
    cases hw : wantedA ops t o.guard with
    | false =>
      rw [hw] at hr hwe
      have hs := step_skipped (P := E.P) (w := w) (cs := cs) hm htodo hi hwe
      rw [finish_region htodo hi] at hs
      obtain ⟨ρ', a', w', g1, g2, g3, g4, g5⟩ := runPre_go hG hex l (i + 1) _ t' H H' hl' hok hr ρ { fr with tmps := putA fr.tmps o.dst undef, todo := .inRegion ops (List.range' (i + 1) (l ++ r).length) :: k' } w cs rfl hm (put_TR htr hd .undef) h
      exact ⟨ρ', a', w', Steps.head hs g1, g2, g3, g4, g5⟩
    | true =>
      rw [hw] at hr hwe
      cases hop : opA E ex H t o with
      | bad => rw [hop] at hr; cases hr
      | ok v H1 =>
        rw [hop] at hr
        have hr : runOps E ex ops l (putTmp t o.dst v) H1 = .ok t' H' := hr
        have hplain : Plain fr := fun d r s kk e => by rw [htodo] at e; cases e
        obtain ⟨ρ1, v1, w1, g1, g2, g3, g4⟩ := op_go hG hex h (ev := fr.eval) (fr := fr) (cs := cs) (fun x hx => eval_rel h.glob htr (okXs_mem hxs x (by simpa using hx))) hplain hop
        have hs := g1.steps (step_oper hm htodo hi hwe (opA_no_defer hop))
        rw [finish_region htodo hi] at hs
        obtain ⟨ρ', a', w', k1, k2, k3, k4, k5⟩ := runPre_go hG hex l (i + 1) _ t' H1 H' hl' hok hr ρ1 { fr with tmps := putA fr.tmps o.dst v1, todo := .inRegion ops (List.range' (i + 1) (l ++ r).length) :: k' } w1 cs rfl hm (put_TR (htr.mono g4.le) hd g2) g3
        exact ⟨ρ', a', w', Steps.trans hs k1, k2, k3, g4.trans k4, k5⟩
set_option maxHeartbeats 1000000 in
theorem forkC_go (hG : EnvGood E) (hex : SoundEx E ex) {T : Tgt} {c : Cx} {d : List Nat} {k : List AItem} {t : Tr Value} {fr : Frame} {cs : List Frame} {id : Nat} {ops : Array Oper} {kk : List Item} {q : Fk}
    (hq : splitF E ex ops ops.toList t H = some q) (hok : okOps E.ng c.nt ops.toList = true) (hfr : FrR ρ c d (.code (.region id ops false) :: k) t fr) (hft : fr.todo = .code (.region id ops false) :: kk) (hk : IR ρ k kk) (h : HR E.ng ρ H w)
    (ha : hits T (goRest E ex c d k ops q q.f.va q.f.Ha) = true) (hb : hits T (goRest E ex c d k ops q q.f.vb q.f.Hb) = true) : Fin E ρ H w fr cs T.v (lit T.d T.n T.L) := by
  have hm := hfr.mode
  obtain ⟨hops, hpre, hwant, hfork⟩ := splitF_inv hq
  have hs0 : Go.step E.P (lone fr cs w) = .next (lone { fr with todo := .inRegion ops (List.range ops.size) :: kk } cs w) := step_lone_go (by simp [stepG, stepG.exec, hm, hft])
  have hrange : List.range ops.size = List.range' 0 (q.pre ++ q.o :: q.rest).length := by
    rw [← hops, List.range_eq_range']; simp
  rw [hrange] at hs0
  have hok' := hok
  rw [hops] at hok'
  obtain ⟨ρ1, a1, w1, g1, g2, g3, g4, g5, g6⟩ := runPre_go (k' := kk) hG hex (r := q.o :: q.rest) q.pre 0 t q.t H q.H (by rw [List.drop_zero, ← hops]) hok' hpre ρ { fr with todo := .inRegion ops (List.range' 0 (q.pre ++ q.o :: q.rest).length) :: kk } w cs rfl hm hfr.tmps h
  rw [Nat.zero_add] at g1 g5
  obtain ⟨fr1, hfr1⟩ : ∃ fr1 : Frame, fr1 = { fr with tmps := a1, todo := .inRegion ops (List.range' q.pre.length (q.o :: q.rest).length) :: kk } := ⟨_, rfl⟩
  have hi0 : ops[q.pre.length]? = some q.o := by
    have : ops.toList[q.pre.length]? = some q.o := by rw [hops]; simp
    simpa using this
  have hdrop : ops.toList.drop (q.pre.length + 1) = q.rest := by
    have := congrArg List.tail g5
    simpa [List.tail_drop] using this
  simp only [okOps, Bool.and_eq_true] at g6
  obtain ⟨⟨hdst, hxs⟩, hokr⟩ := g6
  have hft1 : fr1.todo = .inRegion ops (q.pre.length :: List.range' (q.pre.length + 1) q.rest.length) :: kk := by rw [hfr1]; rfl
  have hm1 : fr1.mode = .run := by rw [hfr1]; exact hm
  have htr1 : TR ρ1 fr1.tmps q.t c.nt := by rw [hfr1]; exact g2
  have h1g := g3
  have hwant1 : Region.wanted q.o (yielded ops fr1.tmps) = true := by rw [wanted_eq htr1 q.o]; exact hwant
  -- the operation
  obtain ⟨cl, hop, hcal⟩ : ∃ cl, q.o.op = .call cl ∧ cl.callee = .builtin .append := by
    unfold forkOp at hfork
    split at hfork
    · rename_i cl hop
      split at hfork
      · rename_i hcal; exact ⟨cl, hop, hcal⟩
      · cases hfork
    · cases hfork
  have hfa : forkArgs E q.H cl.argTypes.toList (evs q.t cl.args.toList) = some q.f := by
    unfold forkOp at hfork
    rw [hop] at hfork
    simp only [hcal] at hfork
    exact hfork
  obtain ⟨xs, xx, ty, u, hargs, htys, hint, hfv⟩ : ∃ xs xx ty u, evs q.t cl.args.toList = [xs, xx] ∧ cl.argTypes.toList = [ty, u] ∧ isInt (E.tt.und u) = some false ∧ forkV E.tt q.H ty xs xx = some q.f := by
    unfold forkArgs at hfa
    split at hfa
    · rename_i s x hv
      split at hfa
      · rename_i a b ht
        split at hfa
        · rename_i hi
          exact ⟨s, x, a, b, hv, ht, hi, hfa⟩
        · cases hfa
      · cases hfa
    · cases hfa
  have hE := hG.toEnvOk
  have hevs := evs_rel (ev := fr1.eval) (l := cl.args.toList) (fun x hx => eval_rel h1g.glob htr1 (okXs_mem hxs x (by rw [hop]; simp only [Op.operands, Call.operands, hcal]; simpa using hx)))
  rw [hargs] at hevs
  obtain ⟨sv, l1, e1, hsv, hl1⟩ := hevs.cons_inv
  obtain ⟨xv, l2, e2, hxv, hl2⟩ := hl1.cons_inv
  have hnil := hl2.nil_inv
  subst hnil
  subst e2
  have hat : cl.argTypes = #[ty, u] := by apply Array.ext'; rw [htys]
  have hav : cl.args.map fr1.eval = #[sv, xv] := by apply Array.ext'; simpa using e1
  have hexe : execOp fr1.eval q.o = (do pure (Next.value (← Builtin.append_ #[ty, u] q.o.type #[sv, xv]))) := by
    cases hqo : q.o with
    | mk dst op type pos after guard =>
      rw [hqo] at hop
      simp only at hop
      subst hop
      obtain ⟨callee, args, argTypes⟩ := cl
      simp only at hcal hat hav
      subst hcal; subst hat
      show (do pure (Next.value (← Builtin.append_ #[ty, u] type (args.map fr1.eval)))) = _
      rw [hav]
  have hdef : ∀ c, q.o.op ≠ .defer c := fun c e => by rw [hop] at e; cases e
  have hstep : ∀ (v : Value) (w2 : World), (Builtin.append_ #[ty, u] q.o.type #[sv, xv]).run E.P w1 = .ok v w2 → Steps E.P (lone fr cs w) (lone { fr with tmps := putA a1 q.o.dst v, todo := .inRegion ops (List.range' (q.pre.length + 1) q.rest.length) :: kk } cs w2) := fun v w2 hr => by
    have h2 := step_oper (P := E.P) (w := w1) (cs := cs) (fr := fr1) hm1 hft1 hi0 hwant1 hdef
    have happ : App E.P fr1 cs (execOp fr1.eval q.o) w1 v w2 := App.value (by rw [hexe]; exact run_v hr)
    have hst := happ.steps h2
    rw [finish_region hft1 hi0] at hst
    have g1' : Steps E.P (lone { fr with todo := .inRegion ops (List.range' 0 (q.pre ++ q.o :: q.rest).length) :: kk } cs w) (lone fr1 cs w1) := by rw [hfr1]; exact g1
    have := Steps.head hs0 (Steps.trans g1' hst)
    rw [hfr1] at this
    exact this
  have hend : ∀ (ρ2 : Rho) (v vv : Value) (H2 : Heap) (w2 : World), Steps E.P (lone fr cs w) (lone { fr with tmps := putA a1 q.o.dst v, todo := .inRegion ops (List.range' (q.pre.length + 1) q.rest.length) :: kk } cs w2) → VR ρ2 v vv → HR E.ng ρ2 H2 w2 → Ext ρ1 q.H w1 ρ2 H2 w2 → ∀ v3 H3, goRest E ex c d k ops q vv H2 = .ok v3 H3 → Fin E ρ H w fr cs v3 H3 := fun ρ2 v vv H2 w2 hst hv h2 he v3 H3 hg => by
    unfold goRest at hg
    cases hr : runOps E ex ops q.rest (putTmp q.t q.o.dst vv) H2 with
    | bad => rw [hr] at hg; cases hg
    | ok t3 H4 =>
      rw [hr] at hg
      have htr2 : TR ρ2 (putA a1 q.o.dst v) (putTmp q.t q.o.dst vv) c.nt := put_TR (g2.mono he.le) hdst hv
      obtain ⟨ρ3, a3, w3, k1, k2, k3, k4⟩ := runOps_go (k' := kk) hG hex q.rest (q.pre.length + 1) _ t3 H2 H4 hdrop hokr hr ρ2 { fr with tmps := putA a1 q.o.dst v, todo := .inRegion ops (List.range' (q.pre.length + 1) q.rest.length) :: kk } w2 cs rfl hm htr2 h2
      have hall := g4.trans (he.trans k4)
      refine Fin.head (fr1 := { fr with tmps := a3, todo := kk }) (Steps.trans hst k1) rfl rfl hall (hex _ _ _ _ _ _ _ hg ρ3 _ w3 cs ?_ k3)
      have := hfr.mono hall.le
      exact ⟨hfr.fn, hfr.mode, hfr.kind, k2, hk.mono hall.le, this.defers, this.round⟩
  rcases fork_sound hE h1g (ty := q.o.type) hint hsv hxv hfv with ⟨v, w2, r1, r2, r3, r4⟩ | ⟨ρ2, v, w2, r1, r2, r3, r4⟩
  · exact Fin.hit ha (hend ρ1 v _ _ w2 (hstep v w2 r1) r2 r3 r4)
  · exact Fin.hit hb (hend ρ2 v _ _ w2 (hstep v w2 r1) r2 r3 r4)
theorem stepC_go (hG : EnvGood E) (hex : SoundEx E ex) (hdraw : DrawOk E ex) {fn : FuncId} {T : Tgt} : SoundEx E (stepC fn T E ex) := by
  intro c d todo t H v' H' hc ρ fr w cs hfr h
  have hplain := stepB_go (T := T) hG hex hdraw c d todo t H v' H'
  cases todo with
  | nil => exact hplain hc ρ fr w cs hfr h
  | cons it k =>
    cases it <;> try exact hplain hc ρ fr w cs hfr h
    rename_i cd
    cases cd <;> try exact hplain hc ρ fr w cs hfr h
    rename_i id ops draw
    cases draw with
    | true => exact hplain hc ρ fr w cs hfr h
    | false =>
      have hc : regC fn T E ex c d k t H ops (stepB T E ex c d (.code (.region id ops false) :: k) t H) = .ok v' H' := hc
      unfold regC at hc
      cases hb : (Nat.beq c.fn fn && hasApp ops.toList) with
      | false => rw [hb] at hc; exact hplain hc ρ fr w cs hfr h
      | true =>
        rw [hb] at hc
        simp only at hc
        cases hq : splitF E ex ops ops.toList t H with
        | none => rw [hq] at hc; exact hplain hc ρ fr w cs hfr h
        | some q =>
          rw [hq] at hc
          simp only [regF] at hc
          cases hok : okOps E.ng c.nt ops.toList with
          | false => rw [hok] at hc; cases hc
          | true =>
            rw [hok] at hc
            simp only at hc
            cases hh : (hits T (goRest E ex c d k ops q q.f.va q.f.Ha) && hits T (goRest E ex c d k ops q q.f.vb q.f.Hb)) with
            | false => rw [hh] at hc; cases hc
            | true =>
              rw [hh] at hc
              cases hc
              simp only [Bool.and_eq_true] at hh
              have htd := hfr.todo
              generalize hft : fr.todo = ft at htd
              cases htd with
              | code _ hk => exact forkC_go hG hex hq hok hfr hft hk h hh.1 hh.2
theorem runC_sound (hG : EnvGood E) (fn : FuncId) (T : Tgt) : ∀ n, SoundEx E (runC fn T E n)
  | 0 => fun _ _ _ _ _ _ _ h => by cases h
  | n + 1 => stepC_go hG (runC_sound hG fn T n) (draw_ok hG (runC_sound hG fn T n))
/-- a closed call in which appends are taken both ways -/
theorem closed_outC (hG : EnvGood E) {n d k : Nat} {f : FuncId} {v' : Value} {L : List (Nat × AObj)} (hb : ∃ fn c, E.ft.get none f = some fn ∧ fn.body = some c) (hf : free v' = true) (h : outIs (callA E (runC f ⟨v', k, d, L⟩ E n) (wide d E.ng) f []) v' k L = true) (w : World) :
    Calls E.P f #[] w fun e w' => e = .returned v' ∧ Fresh w w' := by
  unfold outIs at h
  cases hc : callA E (runC f ⟨v', k, d, L⟩ E n) (wide d E.ng) f [] with
  | bad => rw [hc] at h; cases h
  | ok u H1 =>
    rw [hc] at h
    simp only [Bool.and_eq_true] at h
    rw [veq_eq h.1] at hc
    let ρ0 : Rho := fun g => if g < E.ng then some ⟨g, 0, 0, 0⟩ else none
    have h0 : HR E.ng ρ0 (wide d E.ng) w := wide_HR w (fun b hb => if_neg (by omega)) (fun g hg => ⟨0, if_pos hg⟩)
    refine (call_sound hG (runC_sound hG f _ n) hb hc h0 (LR.nil ρ0)).mono fun e w' ⟨ρ', v, he, hv, _, hx⟩ => ?_
    rw [free_eq hv hf] at he
    exact ⟨he, hx.os, hx.output, hx.tape, hx.size, fun c hc => hx.keep c hc wide_held⟩
end
end Ex
end
section
namespace Ex
open Go
variable {E : Env} {ρ ρ' : Rho} {H H' : Heap} {w w' : World} {ex : Ex}

/-! A call of no arguments that reaches nothing old: known wherever it stands. -/
noncomputable section
def freeOut (b : Bool) (H : Heap) (args : List Value) : Out := match args with
  | [] => .ok (.bool b) H
  | _ :: _ => .bad
/-- with this call known, whatever lies there -/
def Env.free (E : Env) (f : FuncId) (b : Bool) : Env := { E with ovr := fun g => match Nat.beq f g with | true => some (freeOut b) | false => E.ovr g }
theorem Fresh.left {b : Bool} (h : HR E.ng ρ H w) (hf : Fresh w w') : VR ρ (.bool b) (.bool b) ∧ HR E.ng ρ H w' ∧ Ext ρ H w ρ H w' :=
  ⟨.bool b, h.grow hf.2.2.2.2, ⟨ρ.le_refl, hf.2.2.2.1, fun c hc _ => hf.2.2.2.2 c hc, fun _ h => .inr h, fun _ _ h => .inl h, Nat.le_refl _, hf.2.2.1, hf.1, hf.2.1⟩⟩
theorem free_good (hG : EnvGood E) {f : FuncId} {b : Bool} (hb : bodied (E.ft.get none f) = true) (h : ∀ w, Calls E.P f #[] w fun e w' => e = .returned (.bool b) ∧ Fresh w w') : EnvGood (E.free f b) where
  tt := hG.tt
  ft := hG.ft
  nog := hG.nog
  cmp := hG.cmp
  add := hG.add
  ovr g a hg args args' ρ H w v' H' hr ha hc := by
    have hg : (match Nat.beq f g with | true => some (freeOut b) | false => E.ovr g) = some a := hg
    cases hb' : Nat.beq f g with
    | false => rw [hb'] at hg; exact hG.ovr g a hg args args' ρ H w v' H' hr ha hc
    | true =>
      rw [hb'] at hg
      cases hg
      have e := Nat.eq_of_beq_eq_true hb'
      subst e
      cases args' with
      | cons x l => cases hc
      | nil =>
        have : args = [] := List.eq_nil_of_length_eq_zero ha.1
        subst this
        cases hc
        obtain ⟨fn, c, hfn, hbd⟩ := of_bodied hb
        have hpf := hG.ft f fn hfn
        refine ⟨?_, fun cs => ?_⟩
        · have h1 : fn.name ≠ "runtime.NumGoroutine" := by simpa using hG.nog f fn hfn
          show (callFunc f #[]).run E.P w = .ok (.enter f #[]) w
          simp [callFunc, hpf, h1, hbd]
        · obtain ⟨e, w', fr, ⟨rfl, hfr⟩, s1, s2, s3⟩ := h w cs
          exact ⟨ρ, .bool b, w', fr, s1, s2, s3, Fresh.left hr hfr⟩
/-- the same, for calls that range over maps of several entries -/
theorem closed_outB (hG : EnvGood E) {n d k : Nat} {f : FuncId} {v' : Value} {L : List (Nat × AObj)} (hb : ∃ fn c, E.ft.get none f = some fn ∧ fn.body = some c) (hf : free v' = true) (h : outIs (callA E (runB ⟨v', k, d, L⟩ E n) (wide d E.ng) f []) v' k L = true) (w : World) :
    Calls E.P f #[] w fun e w' => e = .returned v' ∧ Fresh w w' := by
  unfold outIs at h
  cases hc : callA E (runB ⟨v', k, d, L⟩ E n) (wide d E.ng) f [] with
  | bad => rw [hc] at h; cases h
  | ok u H1 =>
    rw [hc] at h
    simp only [Bool.and_eq_true] at h
    rw [veq_eq h.1] at hc
    let ρ0 : Rho := fun g => if g < E.ng then some ⟨g, 0, 0, 0⟩ else none
    have h0 : HR E.ng ρ0 (wide d E.ng) w := wide_HR w (fun b hb => if_neg (by omega)) (fun g hg => ⟨0, if_pos hg⟩)
    refine (call_sound hG (runB_sound hG _ n) hb hc h0 (LR.nil ρ0)).mono fun e w' ⟨ρ', v, he, hv, _, hx⟩ => ?_
    rw [free_eq hv hf] at he
    exact ⟨he, hx.os, hx.output, hx.tape, hx.size, fun c hc => hx.keep c hc wide_held⟩
end
end Ex
end
section
namespace Ex
open Go
variable {E : Env} {ρ ρ' : Rho} {H H' H1 : Heap} {w w' : World} {ex : Ex}

/-! Known calls that leave alone what they don't name. -/
noncomputable section
def killL (H : Heap) : List (Nat × AObj) → Heap
  | [] => H
  | x :: l => killL (H.set x.1 .none) l
def putAll (H : Heap) : List (Nat × AObj) → Heap
  | [] => H
  | x :: l => putAll (H.set x.1 x.2) l
/-- what the call leaves behind, all else as it was -/
def Memo.over (m : Memo) (H : Heap) : Heap := bump (putAll (killL H m.L) m.L') m.n'
theorem set_none (H : Heap) (b : Nat) : (H.set b .none).get b = .none := by
  by_cases h : H.get b = .none
  · cases H with
    | mk t n =>
      rcases Tr.get_set_or .none t b b .none with e | ⟨_, e⟩
      · exact e.trans h
      · exact e
  · exact Heap.get_set_same H _ h
theorem kill_get : ∀ (L : List (Nat × AObj)) (H : Heap) (b : Nat), (killL H L).get b = .none ∨ ((killL H L).get b = H.get b ∧ ∀ o, (b, o) ∉ L)
  | [], H, b => .inr ⟨rfl, fun _ => by simp⟩
  | x :: l, H, b => by
    rcases kill_get l (H.set x.1 .none) b with e | ⟨e, hm⟩
    · exact .inl e
    · by_cases hx : b = x.1
      · subst hx
        exact .inl (e.trans (set_none H _))
      · refine .inr ⟨e.trans (Heap.get_set_ne H _ hx), fun o ho => ?_⟩
        rcases List.mem_cons.1 ho with h | h
        · exact hx (congrArg Prod.fst h)
        · exact hm o h
theorem put_get : ∀ (L : List (Nat × AObj)) (H : Heap) (b : Nat), (putAll H L).get b = H.get b ∨ ∃ o, (b, o) ∈ L ∧ (putAll H L).get b = o
  | [], H, b => .inl rfl
  | x :: l, H, b => by
    obtain ⟨i, o⟩ := x
    rcases put_get l (H.set i o) b with e | ⟨o', h1, h2⟩
    · cases H with
      | mk t n =>
        rcases Tr.get_set_or .none t i b o with e' | ⟨e0, e'⟩
        · exact .inl (e.trans e')
        · subst e0
          exact .inr ⟨o, by simp, e.trans e'⟩
    · exact .inr ⟨o', by simp [h1], h2⟩
theorem Memo.over_get (m : Memo) (H : Heap) (b : Nat) : (m.over H).get b = .none ∨ (∃ o, (b, o) ∈ m.L' ∧ (m.over H).get b = o) ∨ ((m.over H).get b = H.get b ∧ ∀ o, (b, o) ∉ m.L) := by
  have e0 : (m.over H).get b = (putAll (killL H m.L) m.L').get b := bump_get _ _ _
  rw [e0]
  rcases put_get m.L' (killL H m.L) b with e | h
  · rcases kill_get m.L H b with e' | ⟨e', hm⟩
    · exact .inl (e.trans e')
    · exact .inr (.inr ⟨e.trans e', hm⟩)
  · exact .inr (.inl h)
theorem Memo.over_next (m : Memo) (H : Heap) : (m.over H).next = m.n' := bump_next _ _
/-- a call, from what it names, and all else -/
def CallSemF (E : Env) (m : Memo) : Prop := ∃ d H1, holds H1 m.n' m.L' = true ∧ CallSem E m.f (lit d m.n m.L) m.args m.v H1
theorem Memo.frame {m : Memo} {d : Nat} (hf : holds H m.n m.L = true) (hl : holds H1 m.n' m.L' = true) (hr : HR E.ng ρ H w) (h1 : HR E.ng ρ' H1 w') (h2 : Ext ρ (lit d m.n m.L) w ρ' H1 w') :
    HR E.ng ρ' (m.over H) w' ∧ Ext ρ H w ρ' (m.over H) w' := by
  have hln : H1.next = m.n' := by
    simp only [holds, Bool.and_eq_true] at hl
    exact Nat.eq_of_beq_eq_true hl.1
  have hfn : H.next = m.n := by
    simp only [holds, Bool.and_eq_true] at hf
    exact Nat.eq_of_beq_eq_true hf.1
  have hL' : ∀ {b o}, (b, o) ∈ m.L' → H1.get b = o ∧ o ≠ .none := fun hm => by
    simp only [holds, Bool.and_eq_true] at hl
    exact sameL_mem hl.2 hm
  -- what is no part of the call keeps its place
  have apart : ∀ b p, H.get b ≠ .none → (∀ o, (b, o) ∉ m.L) → ρ b = some p → ¬ Held ρ (lit d m.n m.L) p.c := fun b p hb hm hp ⟨b2, p2, k1, k2, k3⟩ => by
    rcases holds_get (d := d) hf b2 with e | ⟨e, e'⟩
    · exact k1 e
    · have : b2 = b := hr.inj b2 b p2 p e' hb k2 hp k3
      subst this
      rcases lit_get d m.n m.L b2 with e3 | ⟨o, h, _⟩
      · exact k1 e3
      · exact hm o h
  have place : ∀ b, H.get b ≠ .none → ∃ p, ρ b = some p ∧ p.c < w.heap.size := fun b hb => (hr.obj b).place hb
  have same : ∀ b p, H.get b ≠ .none → (∀ o, (b, o) ∉ m.L) → ρ b = some p → w'.heap[p.c]? = w.heap[p.c]? := fun b p hb hm hp =>
    h2.keep p.c (hr.lt hb hp) (apart b p hb hm hp)
  have mixed : ∀ b b' p p', H1.get b ≠ .none → ρ' b = some p → H.get b' ≠ .none → (∀ o, (b', o) ∉ m.L) → ρ' b' = some p' → p.c ≠ p'.c := fun b b' p p' k1 k2 k3 k4 k5 e => by
    obtain ⟨q, hq, hlt⟩ := place b' k3
    have := h2.le _ _ hq
    rw [k5] at this
    cases this
    rcases h2.range p.c ⟨b, p, k1, k2, rfl⟩ with hge | hh
    · omega
    · rw [e] at hh
      exact apart b' p' k3 k4 hq hh
  refine ⟨⟨fun b => ?_, fun b b' p p' k1 k2 e1 e2 ec => ?_, fun b hb => ?_, h1.glob⟩, ?_⟩
  · rcases m.over_get H b with e | ⟨o, hm, e⟩ | ⟨e, hm⟩
    · rw [e]; trivial
    · rw [e, ← (hL' hm).1]; exact h1.obj b
    · rw [e]
      by_cases hn : H.get b = .none
      · rw [hn]; trivial
      · exact (hr.obj b).mono h2.le (fun p hp => same b p hn hm hp)
  · rcases m.over_get H b with e | ⟨o, hm, e⟩ | ⟨e, hm⟩
    · exact absurd e k1
    · rcases m.over_get H b' with e' | ⟨o', hm', e'⟩ | ⟨e', hm'⟩
      · exact absurd e' k2
      · refine h1.inj b b' p p' ?_ ?_ e1 e2 ec
        · rw [(hL' hm).1]; exact (hL' hm).2
        · rw [(hL' hm').1]; exact (hL' hm').2
      · refine absurd ec (mixed b b' p p' ?_ e1 ?_ hm' e2)
        · rw [(hL' hm).1]; exact (hL' hm).2
        · rw [← e']; exact k2
    · rcases m.over_get H b' with e' | ⟨o', hm', e'⟩ | ⟨e', hm'⟩
      · exact absurd e' k2
      · refine absurd ec.symm (mixed b' b p' p ?_ e2 ?_ hm e1)
        · rw [(hL' hm').1]; exact (hL' hm').2
        · rw [← e]; exact k1
      · rw [e] at k1
        rw [e'] at k2
        obtain ⟨q, hq, _⟩ := place b k1
        obtain ⟨q', hq', _⟩ := place b' k2
        have := h2.le _ _ hq
        rw [e1] at this
        cases this
        have := h2.le _ _ hq'
        rw [e2] at this
        cases this
        exact hr.inj b b' _ _ k1 k2 hq hq' ec
  · rw [m.over_next] at hb
    exact h1.fresh b (by rw [hln]; exact hb)
  · refine ⟨h2.le, h2.size, fun c hc hn => h2.keep c hc (fun hh => hn (holds_held hf hh)), fun c hc => ?_, fun b p hp => ?_, ?_, h2.tape, h2.os, h2.output⟩
    · obtain ⟨b, p, k1, k2, k3⟩ := hc
      rcases m.over_get H b with e | ⟨o, hm, e⟩ | ⟨e, hm⟩
      · exact absurd e k1
      · rcases h2.range c ⟨b, p, by rw [(hL' hm).1]; exact (hL' hm).2, k2, k3⟩ with h | h
        · exact .inl h
        · exact .inr (holds_held hf h)
      · rw [e] at k1
        obtain ⟨q, hq, _⟩ := place b k1
        have := h2.le _ _ hq
        rw [k2] at this
        cases this
        exact .inr ⟨b, _, k1, hq, k3⟩
    · rcases h2.dom b p hp with e | e
      · exact .inl e
      · exact .inr (by rw [hfn]; exact e)
    · rw [m.over_next, hfn, ← hln]
      exact h2.next
theorem Memo.semF {m : Memo} {N d : Nat} (hG : EnvGood E) (hb : bodied (E.ft.get none m.f) = true) (h : m.runs E N d = true) : CallSemF E m := by
  unfold Memo.runs outIs at h
  cases hc : callA E (run E N) (lit d m.n m.L) m.f m.args with
  | bad => rw [hc] at h; cases h
  | ok u H1 =>
    rw [hc] at h
    simp only [Bool.and_eq_true] at h
    refine ⟨d, H1, h.2, fun ρ w args hr ha => ?_⟩
    obtain ⟨fn, c, hfn, hbd⟩ := of_bodied hb
    have hpf := hG.ft m.f fn hfn
    refine ⟨?_, ?_⟩
    · have h1 : fn.name ≠ "runtime.NumGoroutine" := by simpa using hG.nog m.f fn hfn
      simp [callFunc, hpf, h1, hbd]
    · rw [veq_eq h.1] at hc
      exact call_sound hG (run_sound hG N) ⟨fn, c, hfn, hbd⟩ hc hr ha
theorem Memo.semFB {m : Memo} {N d : Nat} (hG : EnvGood E) (hb : bodied (E.ft.get none m.f) = true) (h : m.runsB E N d = true) : CallSemF E m := by
  unfold Memo.runsB outIs at h
  cases hc : callA E (runB ⟨m.v, m.n', d, m.L'⟩ E N) (lit d m.n m.L) m.f m.args with
  | bad => rw [hc] at h; cases h
  | ok u H1 =>
    rw [hc] at h
    simp only [Bool.and_eq_true] at h
    refine ⟨d, H1, h.2, fun ρ w args hr ha => ?_⟩
    obtain ⟨fn, c, hfn, hbd⟩ := of_bodied hb
    have hpf := hG.ft m.f fn hfn
    refine ⟨?_, ?_⟩
    · have h1 : fn.name ≠ "runtime.NumGoroutine" := by simpa using hG.nog m.f fn hfn
      simp [callFunc, hpf, h1, hbd]
    · rw [veq_eq h.1] at hc
      exact call_sound hG (runB_sound hG _ N) ⟨fn, c, hfn, hbd⟩ hc hr ha
def pickF (H : Heap) (args : List Value) : List Memo → Out
  | [] => .bad
  | m :: l => match m.fits H args with
    | true => .ok m.v (m.over H)
    | false => pickF H args l
def ovrF (ms : List Memo) (f : FuncId) (o : Option (Heap → List Value → Out)) : Option (Heap → List Value → Out) := match ofF f ms with
  | [] => o
  | l => some fun H args => pickF H args l
/-- with these calls known, whatever else lies there -/
def Env.knowF (E : Env) (ms : List Memo) : Env := { E with ovr := fun f => ovrF ms f (E.ovr f) }
theorem pickF_sem {v' : Value} {args' : List Value} : ∀ {l : List Memo}, pickF H args' l = .ok v' H' → ∃ m ∈ l, m.fits H args' = true ∧ v' = m.v ∧ H' = m.over H
  | m :: l, h => by
    simp only [pickF] at h
    cases hf : m.fits H args' with
    | true => rw [hf] at h; cases h; exact ⟨m, by simp, hf, rfl, rfl⟩
    | false =>
      rw [hf] at h
      obtain ⟨m', a, b⟩ := pickF_sem h
      exact ⟨m', by simp [a], b⟩
theorem knowF_good (hG : EnvGood E) {ms : List Memo} (h : ∀ m ∈ ms, CallSemF E m) : EnvGood (E.knowF ms) where
  tt := hG.tt
  ft := hG.ft
  nog := hG.nog
  cmp := hG.cmp
  add := hG.add
  ovr f g hg args args' ρ H w v' H' hr ha hc := by
    have hg : ovrF ms f (E.ovr f) = some g := hg
    unfold ovrF at hg
    split at hg
    · exact hG.ovr f g hg args args' ρ H w v' H' hr ha hc
    · cases hg
      obtain ⟨m, hm, hf, rfl, rfl⟩ := pickF_sem hc
      obtain ⟨hm2, e⟩ := ofF_mem hm
      subst e
      obtain ⟨d, H1, hl, hs⟩ := h m hm2
      simp only [Memo.fits, Bool.and_eq_true] at hf
      have := veqL_eq hf.2
      subst this
      obtain ⟨h1, h2⟩ := hs ρ w args (hr.weaken hf.1) ha
      refine ⟨h1, fun cs => ?_⟩
      obtain ⟨e, w', fr, ⟨ρ', v, rfl, hv, k1, k2⟩, s1, s2, s3⟩ := h2 cs
      have := Memo.frame hf.1 hl hr k1 k2
      exact ⟨ρ', v, w', fr, s1, s2, s3, hv, this.1, this.2⟩
end
end Ex
end

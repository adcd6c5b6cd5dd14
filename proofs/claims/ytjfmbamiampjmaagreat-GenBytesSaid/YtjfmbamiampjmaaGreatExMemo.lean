/- A part of the proof of the statement of this seat: no condition. -/
import Derived.Test.YtjfmbamiampjmaaGreatXC
set_option linter.unusedVariables false
set_option linter.unusedSimpArgs false
namespace Ex
open Go
variable {E : Env} {ρ ρ' : Rho} {H H' : Heap} {w w' : World} {ex : Ex}

/-! A long closed call in parts: what single calls of it come to, each in its own place. -/
noncomputable section
def entsEq : List (Value × Value) → List (Value × Value) → Bool
  | [], [] => true
  | a :: x, b :: y => veq a.1 b.1 && veq a.2 b.2 && entsEq x y
  | _, _ => false
theorem entsEq_eq : ∀ {x y : List (Value × Value)}, entsEq x y = true → x = y
  | [], [], _ => rfl
  | (a1, a2) :: x, (b1, b2) :: y, h => by
    simp only [entsEq, Bool.and_eq_true] at h
    rw [veq_eq h.1.1, veq_eq h.1.2, entsEq_eq h.2]
  | [], _ :: _, h => by simp [entsEq] at h
  | _ :: _, [], h => by simp [entsEq] at h
def aeq : AObj → AObj → Bool
  | .cells a k, .cells b m => Nat.beq k m && veqL a b
  | .map a, .map b => entsEq a b
  | _, _ => false
theorem aeq_eq {a b : AObj} (h : aeq a b = true) : a = b ∧ b ≠ .none := by
  unfold aeq at h
  split at h
  · simp only [Bool.and_eq_true] at h
    rw [Nat.eq_of_beq_eq_true h.1, veqL_eq h.2]
    exact ⟨rfl, fun e => by cases e⟩
  · rw [entsEq_eq h]
    exact ⟨rfl, fun e => by cases e⟩
  · cases h

def litSet (t : Tr AObj) : List (Nat × AObj) → Tr AObj
  | [] => t
  | x :: l => litSet (t.set x.1 x.2) l
/-- a heap written out: so many ids are given, these things are alive -/
def lit (d n : Nat) (L : List (Nat × AObj)) : Heap := .mk (litSet (Tr.full .none d) L) n
theorem litSet_get : ∀ (L : List (Nat × AObj)) (t : Tr AObj) (b : Nat), (litSet t L).get .none b = t.get .none b ∨ ∃ o, (b, o) ∈ L ∧ (litSet t L).get .none b = o
  | [], t, b => .inl rfl
  | x :: L, t, b => by
    obtain ⟨i, o⟩ := x
    rcases litSet_get L (t.set i o) b with h | ⟨o', h1, h2⟩
    · rcases Tr.get_set_or .none t i b o with h' | ⟨e, h'⟩
      · exact .inl (h.trans h')
      · subst e; exact .inr ⟨o, by simp, h.trans h'⟩
    · exact .inr ⟨o', by simp [h1], h2⟩
theorem lit_get (d n : Nat) (L : List (Nat × AObj)) (b : Nat) : (lit d n L).get b = .none ∨ ∃ o, (b, o) ∈ L ∧ (lit d n L).get b = o := by
  rcases litSet_get L (Tr.full .none d) b with h | h
  · exact .inl (h.trans (Tr.get_full _ _ _))
  · exact .inr h

def sameL (H : Heap) : List (Nat × AObj) → Bool
  | [] => true
  | x :: l => aeq (H.get x.1) x.2 && sameL H l
theorem sameL_mem : ∀ {L : List (Nat × AObj)} {b : Nat} {o : AObj}, sameL H L = true → (b, o) ∈ L → H.get b = o ∧ o ≠ .none
  | x :: l, b, o, h, hm => by
    simp only [sameL, Bool.and_eq_true] at h
    rcases List.mem_cons.1 hm with rfl | hm
    · exact aeq_eq h.1
    · exact sameL_mem h.2 hm
/-- does the heap hold what is written out? (It may hold more.) -/
def holds (H : Heap) (n : Nat) (L : List (Nat × AObj)) : Bool := Nat.beq H.next n && sameL H L
theorem holds_get {n d : Nat} {L : List (Nat × AObj)} (h : holds H n L = true) (b : Nat) : (lit d n L).get b = .none ∨ ((lit d n L).get b = H.get b ∧ H.get b ≠ .none) := by
  simp only [holds, Bool.and_eq_true] at h
  rcases lit_get d n L b with e | ⟨o, h1, h2⟩
  · exact .inl e
  · obtain ⟨h3, h4⟩ := sameL_mem h.2 h1
    exact .inr ⟨h2.trans h3.symm, by rw [h3]; exact h4⟩
theorem holds_held {n d c : Nat} {L : List (Nat × AObj)} (h : holds H n L = true) (hh : Held ρ (lit d n L) c) : Held ρ H c := by
  obtain ⟨b, p, h1, h2, h3⟩ := hh
  rcases holds_get (d := d) h b with e | ⟨_, e⟩
  · exact absurd e h1
  · exact ⟨b, p, e, h2, h3⟩
theorem HR.weaken {ng n d : Nat} {L : List (Nat × AObj)} (h : HR ng ρ H w) (hl : holds H n L = true) : HR ng ρ (lit d n L) w where
  obj b := by
    rcases holds_get (d := d) hl b with e | ⟨e, _⟩
    · rw [e]; trivial
    · rw [e]; exact h.obj b
  inj b b' p p' h1 h2 := by
    rcases holds_get (d := d) hl b with e | ⟨_, e⟩
    · exact absurd e h1
    · rcases holds_get (d := d) hl b' with e' | ⟨_, e'⟩
      · exact absurd e' h2
      · exact h.inj b b' p p' e e'
  fresh b hb := by
    simp only [holds, Bool.and_eq_true] at hl
    exact h.fresh b (by rw [Nat.eq_of_beq_eq_true hl.1]; exact hb)
  glob := h.glob
theorem Ext.weaken {n d : Nat} {L : List (Nat × AObj)} (hl : holds H n L = true) (h : Ext ρ (lit d n L) w ρ' H' w') : Ext ρ H w ρ' H' w' where
  le := h.le
  size := h.size
  keep c hc hn := h.keep c hc (fun hh => hn (holds_held hl hh))
  range c hc := (h.range c hc).imp id (holds_held hl)
  dom b p hp := by
    simp only [holds, Bool.and_eq_true] at hl
    rcases h.dom b p hp with e | e
    · exact .inl e
    · exact .inr (by rw [Nat.eq_of_beq_eq_true hl.1]; exact e)
  next := by
    simp only [holds, Bool.and_eq_true] at hl
    rw [Nat.eq_of_beq_eq_true hl.1]; exact h.next
  tape := h.tape
  os := h.os
  output := h.output
theorem Ext.weaken' {n d : Nat} {L : List (Nat × AObj)} (hl : holds H' n L = true) (h : Ext ρ H w ρ' H' w') : Ext ρ H w ρ' (lit d n L) w' where
  le := h.le
  size := h.size
  keep := h.keep
  range c hc := h.range c (holds_held hl hc)
  dom := h.dom
  next := by
    simp only [holds, Bool.and_eq_true] at hl
    have := h.next
    rw [Nat.eq_of_beq_eq_true hl.1] at this; exact this
  tape := h.tape
  os := h.os
  output := h.output

abbrev Mu (n : Nat) : Value := .int .u64 (.ofNat n)
abbrev Mp (b o : Nat) : Value := .pointer (some ⟨b, o, none⟩)
abbrev Ms (b o l c : Nat) : Value := .slice (some ⟨b, o, none⟩) l c
def Mb : List Nat → List Value
  | [] => []
  | n :: l => .int .u8 (.ofNat n) :: Mb l
/-- a call, and what comes of it -/
structure Memo where
  f : FuncId
  args : List Value
  n : Nat
  L : List (Nat × AObj)
  v : Value
  n' : Nat
  L' : List (Nat × AObj)
def outIs (r : Out) (v : Value) (n : Nat) (L : List (Nat × AObj)) : Bool := match r with
  | .ok u H => veq u v && holds H n L
  | .bad => false
/-- the call comes to what is written -/
def Memo.runs (E : Env) (m : Memo) (N d : Nat) : Bool := outIs (callA E (run E N) (lit d m.n m.L) m.f m.args) m.v m.n' m.L'
def Memo.fits (m : Memo) (H : Heap) (args : List Value) : Bool := holds H m.n m.L && veqL args m.args
def Memo.out (m : Memo) (d : Nat) (H : Heap) (args : List Value) (r : Option Out) : Option Out := match m.fits H args with
  | true => some (.ok m.v (lit d m.n' m.L'))
  | false => r
def pick (d : Nat) (H : Heap) (args : List Value) : List Memo → Out
  | [] => .bad
  | m :: l => match m.fits H args with
    | true => .ok m.v (lit d m.n' m.L')
    | false => pick d H args l
def ofF (f : FuncId) : List Memo → List Memo
  | [] => []
  | m :: l => match Nat.beq m.f f with
    | true => m :: ofF f l
    | false => ofF f l
def ovrM (d : Nat) (ms : List Memo) (f : FuncId) (o : Option (Heap → List Value → Out)) : Option (Heap → List Value → Out) := match ofF f ms with
  | [] => o
  | l => some fun H args => pick d H args l
/-- with these calls known -/
def Env.know (E : Env) (d : Nat) (ms : List Memo) : Env := { E with ovr := fun f => ovrM d ms f (E.ovr f) }

/-- the model's own run of a call, from all that the abstract one stands for -/
def CallSem (E : Env) (f : FuncId) (H : Heap) (args' : List Value) (v' : Value) (H' : Heap) : Prop :=
  ∀ ρ w args, HR E.ng ρ H w → LR ρ args args' → (callFunc f ⟨args⟩).run E.P w = .ok (.enter f ⟨args⟩) w ∧ Calls E.P f ⟨args⟩ w (Left E ρ H w v' H')

def bodied (o : Option Func) : Bool := match o with
  | some fn => fn.body.isSome
  | none => false
theorem of_bodied {o : Option Func} (h : bodied o = true) : ∃ fn c, o = some fn ∧ fn.body = some c := by
  cases o with
  | none => cases h
  | some fn =>
    cases hb : fn.body with
    | none => simp only [bodied, hb] at h; cases h
    | some c => exact ⟨fn, c, rfl, hb⟩
theorem Memo.sem (hG : EnvGood E) {m : Memo} {N d d' : Nat} (hb : bodied (E.ft.get none m.f) = true) (h : m.runs E N d = true) : CallSem E m.f (lit d m.n m.L) m.args m.v (lit d' m.n' m.L') := by
  intro ρ w args hr ha
  obtain ⟨fn, c, hfn, hbd⟩ := of_bodied hb
  have hpf := hG.ft m.f fn hfn
  refine ⟨?_, ?_⟩
  · have h1 : fn.name ≠ "runtime.NumGoroutine" := by simpa using hG.nog m.f fn hfn
    simp [callFunc, hpf, h1, hbd]
  · unfold Memo.runs outIs at h
    cases hc : callA E (run E N) (lit d m.n m.L) m.f m.args with
    | bad => rw [hc] at h; cases h
    | ok u H1 =>
      rw [hc] at h
      simp only [Bool.and_eq_true] at h
      have hu := veq_eq h.1
      subst hu
      refine (call_sound hG (run_sound hG N) ⟨fn, c, hfn, hbd⟩ hc hr ha).mono fun e w' ⟨ρ', v, he, hv, h1, h2⟩ => ⟨ρ', v, he, hv, h1.weaken h.2, h2.weaken' h.2⟩
theorem Memo.fits_sem {m : Memo} {d : Nat} {v' : Value} {H' : Heap} {args' : List Value} (h : CallSem E m.f (lit d m.n m.L) m.args v' H') (hf : m.fits H args' = true) : CallSem E m.f H args' v' H' := by
  intro ρ w args hr ha
  simp only [Memo.fits, Bool.and_eq_true] at hf
  have := veqL_eq hf.2
  subst this
  obtain ⟨h1, h2⟩ := h ρ w args (hr.weaken hf.1) ha
  exact ⟨h1, h2.mono fun e w' ⟨ρ', v, he, hv, k1, k2⟩ => ⟨ρ', v, he, hv, k1, k2.weaken hf.1⟩⟩

theorem closed_out (hG : EnvGood E) {n d k : Nat} {f : FuncId} {v' : Value} {L : List (Nat × AObj)} (hb : ∃ fn c, E.ft.get none f = some fn ∧ fn.body = some c) (hf : free v' = true) (h : outIs (callA E (run E n) (wide d E.ng) f []) v' k L = true) (w : World) :
    Calls E.P f #[] w fun e w' => e = .returned v' ∧ Fresh w w' := by
  unfold outIs at h
  cases hc : callA E (run E n) (wide d E.ng) f [] with
  | bad => rw [hc] at h; cases h
  | ok u H1 =>
    rw [hc] at h
    simp only [Bool.and_eq_true] at h
    rw [veq_eq h.1] at hc
    exact closed_sound hG hb hf hc w
theorem ofF_mem {f : FuncId} : ∀ {ms : List Memo} {m : Memo}, m ∈ ofF f ms → m ∈ ms ∧ m.f = f
  | x :: l, m, h => by
    simp only [ofF] at h
    cases hb : Nat.beq x.f f with
    | true =>
      rw [hb] at h
      rcases List.mem_cons.1 h with rfl | h
      · exact ⟨by simp, Nat.eq_of_beq_eq_true hb⟩
      · exact ⟨by simp [(ofF_mem h).1], (ofF_mem h).2⟩
    | false =>
      rw [hb] at h
      exact ⟨by simp [(ofF_mem h).1], (ofF_mem h).2⟩
theorem pick_sem {d : Nat} {v' : Value} {args' : List Value} : ∀ {l : List Memo}, pick d H args' l = .ok v' H' → ∃ m ∈ l, m.fits H args' = true ∧ v' = m.v ∧ H' = lit d m.n' m.L'
  | m :: l, h => by
    simp only [pick] at h
    cases hf : m.fits H args' with
    | true => rw [hf] at h; cases h; exact ⟨m, by simp, hf, rfl, rfl⟩
    | false =>
      rw [hf] at h
      obtain ⟨m', a, b⟩ := pick_sem h
      exact ⟨m', by simp [a], b⟩
theorem know_good (hG : EnvGood E) {d : Nat} {ms : List Memo} (h : ∀ m ∈ ms, CallSem E m.f (lit d m.n m.L) m.args m.v (lit d m.n' m.L')) : EnvGood (E.know d ms) where
  tt := hG.tt
  ft := hG.ft
  nog := hG.nog
  cmp := hG.cmp
  add := hG.add
  ovr f g hg args args' ρ H w v' H' hr ha hc := by
    have hg : ovrM d ms f (E.ovr f) = some g := hg
    unfold ovrM at hg
    split at hg
    · exact hG.ovr f g hg args args' ρ H w v' H' hr ha hc
    · cases hg
      obtain ⟨m, hm, hf, rfl, rfl⟩ := pick_sem hc
      obtain ⟨hm2, e⟩ := ofF_mem hm
      subst e
      obtain ⟨h1, h2⟩ := Memo.fits_sem (h m hm2) hf ρ w args hr ha
      refine ⟨h1, fun cs => ?_⟩
      obtain ⟨e, w', fr, ⟨ρ', v, rfl, hv, k1, k2⟩, s1, s2, s3⟩ := h2 cs
      exact ⟨ρ', v, w', fr, s1, s2, s3, hv, k1, k2⟩
end
end Ex

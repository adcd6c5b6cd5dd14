/- A verified executor for closed Go calls, part of it: its lemmas carry no condition. -/
import Derived.Test.YtacchpkmjgdebaaGreatExU
set_option linter.unusedVariables false
set_option linter.unusedSimpArgs false
namespace Ex
open Go
variable {E : Env} {ρ ρ' : Rho} {H H' : Heap} {w w' : World} {ex : Ex}

/-! which operations are ahead of which -/
inductive Reach (l : List Oper) : Nat → Nat → Prop
  | direct {j : Nat} {o : Oper} {e : Edge} (hj : l[j]? = some o) (he : e ∈ o.after.toList) (hb : Region.binds .any e = true) : Reach l j e.on
  | trans {j i : Nat} {o : Oper} {e : Edge} (hj : l[j]? = some o) (he : e ∈ o.after.toList) (hb : Region.binds .any e = true) (h : Reach l e.on i) : Reach l j i

theorem edgeMask_reach {l : List Oper} {acc : List Nat} (hacc : ∀ (j m : Nat), acc[j]? = some m → ∀ i, m.testBit i = true → Reach l j i) {j : Nat} {o : Oper} (hj : l[j]? = some o) :
    ∀ (es : List Edge), (∀ e ∈ es, e ∈ o.after.toList) → ∀ i, (edgeMask acc es).testBit i = true → Reach l j i
  | [], _, i, h => by simp [edgeMask] at h
  | e :: es, hes, i, h => by
    simp only [edgeMask] at h
    have ih := edgeMask_reach hacc hj es (fun e he => hes e (by simp [he])) i
    cases hb : Region.binds .any e with
    | false => rw [hb] at h; exact ih h
    | true =>
      rw [hb] at h
      have h : (((2 ^ e.on ||| (match nth acc e.on with | some m => m | none => 0)) ||| edgeMask acc es : Nat)).testBit i = true := h
      rw [Nat.testBit_or, Nat.testBit_or] at h
      simp only [Bool.or_eq_true] at h
      rcases h with (h | h) | h
      · rw [Nat.testBit_two_pow] at h
        have : e.on = i := by simpa using h
        subst this
        exact .direct hj (hes e (by simp)) hb
      · rw [nth_eq] at h
        cases hm : acc[e.on]? with
        | none => rw [hm] at h; simp at h
        | some m => rw [hm] at h; exact .trans hj (hes e (by simp)) hb (hacc _ m hm i h)
      · exact ih h

theorem masks_reach {l : List Oper} : ∀ (rest : List Oper) (acc : List Nat), l.drop acc.length = rest → (∀ (j m : Nat), acc[j]? = some m → ∀ i, m.testBit i = true → Reach l j i) →
    ∀ (j m : Nat), (masks rest acc)[j]? = some m → ∀ i, m.testBit i = true → Reach l j i
  | [], acc, _, hacc => hacc
  | o :: rest, acc, hd, hacc => by
    have hj : l[acc.length]? = some o := by
      have := congrArg (·[0]?) hd
      simpa [List.getElem?_drop] using this
    have hd' : l.drop (acc ++ [edgeMask acc o.after.toList]).length = rest := by
      have := congrArg List.tail hd
      simpa [List.tail_drop] using this
    refine masks_reach rest _ hd' (fun j m hm i hi => ?_)
    rcases Nat.lt_or_ge j acc.length with hlt | hge
    · rw [List.getElem?_append_left hlt] at hm; exact hacc j m hm i hi
    · rw [List.getElem?_append_right hge] at hm
      have hj0 : j = acc.length := by
        have := (List.getElem?_eq_some_iff.1 hm).1
        simp at this; omega
      subst hj0
      simp at hm
      subst hm
      exact edgeMask_reach hacc hj _ (fun e he => he) i hi

theorem ahead_reach {l : List Oper} {i j : Nat} (h : ahead (masks l []) i j = true) : Reach l j i := by
  unfold ahead at h
  rw [nth_eq] at h
  cases hm : (masks l [])[j]? with
  | none => rw [hm] at h; cases h
  | some m => rw [hm] at h; exact masks_reach l [] (by simp) (fun j m hm => by simp at hm) j m hm i h

/-- what has been listed holds all that is ahead of it -/
def Closed (l : List Oper) (S : Nat → Prop) : Prop := ∀ j o, S j → l[j]? = some o → ∀ e ∈ o.after.toList, Region.binds .any e = true → S e.on
theorem Reach.mem {l : List Oper} {S : Nat → Prop} (hS : Closed l S) {j i : Nat} (h : Reach l j i) (hj : ∀ o, l[j]? = some o → ∀ e ∈ o.after.toList, Region.binds .any e = true → S e.on) : S i := by
  induction h with
  | direct hjo he hb => exact hj _ hjo _ he hb
  | trans hjo he hb _ ih => exact ih (fun o ho e he' hb' => hS _ o (hj _ hjo _ he hb) ho e he' hb')
theorem Closed.reach {l : List Oper} {S : Nat → Prop} (hS : Closed l S) {j i : Nat} (h : Reach l j i) (hj : S j) : S i := h.mem hS (fun o ho e he hb => hS j o hj ho e he hb)

/-! the run in the text's own order -/
structure Chain (E : Env) (ex : Ex) (all : Array Oper) (l : List Oper) (s : Nat → St) : Prop where
  skip : ∀ i o, l[i]? = some o → wantedA all (s i).t o.guard = false → (s i).v = Undef ∧ (s (i + 1)).t = putTmp (s i).t o.dst Undef ∧ (s (i + 1)).H = (s i).H
  op : ∀ i o, l[i]? = some o → wantedA all (s i).t o.guard = true → opA E ex (s i).H (s i).t o = .ok (s i).v (s (i + 1)).H ∧ (s (i + 1)).t = putTmp (s i).t o.dst (s i).v

def stOf (tr : List St) (i : Nat) : St := (tr[i]?).getD ⟨.nil, .mk .nil 0, Undef⟩

theorem trace_chain {all : Array Oper} : ∀ (l : List Oper) (t : Tr Value) (H : Heap) (tr : List St), traceOps E ex all l t H = .ok tr →
    tr.length = l.length + 1 ∧ (stOf tr 0).t = t ∧ (stOf tr 0).H = H ∧ Chain E ex all l (stOf tr)
  | [], t, H, tr, h => by
    have h : OutL.ok [⟨t, H, Undef⟩] = .ok tr := h
    cases h
    exact ⟨rfl, rfl, rfl, ⟨fun i o hi => by simp at hi, fun i o hi => by simp at hi⟩⟩
  | o :: l, t, H, tr, h => by
    have h : @Bool.rec (fun _ => OutL) (consL ⟨t, H, Undef⟩ (traceOps E ex all l (putTmp t o.dst Undef) H))
      (@Out.rec (fun _ => OutL) .bad (fun v H' => consL ⟨t, H, v⟩ (traceOps E ex all l (putTmp t o.dst v) H')) (opA E ex H t o)) (wantedA all t o.guard) = .ok tr := h
    have cons : ∀ (x : St) (t1 : Tr Value) (H1 : Heap), consL x (traceOps E ex all l t1 H1) = .ok tr → ∃ tr1, tr = x :: tr1 ∧ traceOps E ex all l t1 H1 = .ok tr1 := by
      intro x t1 H1 hc
      cases hr : traceOps E ex all l t1 H1 with
      | bad => rw [hr] at hc; cases hc
      | ok tr1 => rw [hr] at hc; cases hc; exact ⟨tr1, rfl, rfl⟩
    have shift : ∀ (x : St) (tr1 : List St) i, stOf (x :: tr1) (i + 1) = stOf tr1 i := fun x tr1 i => by simp [stOf]
    cases hw : wantedA all t o.guard with
    | false =>
      rw [hw] at h
      obtain ⟨tr1, rfl, h1⟩ := cons _ _ _ h
      obtain ⟨g1, g2, g3, g4⟩ := trace_chain l _ _ tr1 h1
      refine ⟨by simp [g1], rfl, rfl, ⟨fun i o' hi hw' => ?_, fun i o' hi hw' => ?_⟩⟩
      · cases i with
        | zero => simp at hi; subst hi; rw [shift]; exact ⟨rfl, g2, g3⟩
        | succ i => rw [shift] at hw'; rw [shift, shift]; exact g4.skip i o' (by simpa using hi) hw'
      · cases i with
        | zero => simp at hi; subst hi; have : wantedA all t o.guard = true := hw'; rw [hw] at this; cases this
        | succ i => rw [shift] at hw'; rw [shift, shift]; exact g4.op i o' (by simpa using hi) hw'
    | true =>
      rw [hw] at h
      cases hop : opA E ex H t o with
      | bad => rw [hop] at h; cases h
      | ok v H1 =>
        rw [hop] at h
        obtain ⟨tr1, rfl, h1⟩ := cons _ _ _ h
        obtain ⟨g1, g2, g3, g4⟩ := trace_chain l _ _ tr1 h1
        refine ⟨by simp [g1], rfl, rfl, ⟨fun i o' hi hw' => ?_, fun i o' hi hw' => ?_⟩⟩
        · cases i with
          | zero => simp at hi; subst hi; have : wantedA all t o.guard = false := hw'; rw [hw] at this; cases this
          | succ i => rw [shift] at hw'; rw [shift, shift]; exact g4.skip i o' (by simpa using hi) hw'
        · cases i with
          | zero => simp at hi; subst hi; rw [shift]; refine ⟨?_, g2⟩; rw [g3]; exact hop
          | succ i => rw [shift] at hw'; rw [shift, shift]; exact g4.op i o' (by simpa using hi) hw'

/-- what the static look says -/
theorem binds_any {e : Edge} (md : Region.Mode) (h : Region.binds .any e = true) : Region.binds md e = true := by
  unfold Region.binds at h ⊢
  cases hg : e.ground <;> rw [hg] at h <;> first | rfl | (exact absurd (show false = true from h) (by decide))
theorem depsIn_spec {md : Region.Mode} {mask : Nat} : ∀ {es : List Edge}, depsIn md mask es = true → ∀ e ∈ es, Region.binds md e = true → mask.testBit e.on = true
  | [], _, _, he, _ => by cases he
  | x :: es, h, e, he, hb => by
    simp only [depsIn, Bool.and_eq_true, Bool.or_eq_true, Bool.not_eq_true'] at h
    rcases List.mem_cons.1 he with rfl | he
    · exact h.1.resolve_left (by rw [hb]; decide)
    · exact depsIn_spec h.2 e he hb
theorem pass_mem {md : Region.Mode} {l : List Oper} {S : Nat → Prop} (hS : ∀ (i : Nat) (o : Oper), l[i]? = some o → (∀ e ∈ o.after.toList, Region.binds md e = true → S e.on) → S i) : ∀ (r : List Oper) (i mask : Nat), l.drop i = r → (∀ j, mask.testBit j = true → S j) → ∀ j, (pass md r i mask).testBit j = true → S j
  | [], _, _, _, hm => hm
  | o :: r, i, mask, hd, hm => by
    have hi : l[i]? = some o := by
      have := congrArg (·[0]?) hd
      simpa [List.getElem?_drop] using this
    have hd' : l.drop (i + 1) = r := by
      have := congrArg List.tail hd
      simpa [List.tail_drop] using this
    simp only [pass]
    split
    · rename_i hdeps
      refine pass_mem hS r (i + 1) _ hd' (fun j hj => ?_)
      have hj : (mask ||| 2 ^ i : Nat).testBit j = true := hj
      rw [Nat.testBit_or, Nat.testBit_two_pow] at hj
      simp only [Bool.or_eq_true, decide_eq_true_eq] at hj
      rcases hj with hj | rfl
      · exact hm j hj
      · exact hS i o hi (fun e he hb => hm _ (depsIn_spec hdeps e he hb))
    · exact pass_mem hS r (i + 1) mask hd' hm
theorem top_of {md : Region.Mode} {l : List Oper} (h : topOk md l l.length = true) {S : Nat → Prop} (hS : ∀ (i : Nat) (o : Oper), l[i]? = some o → (∀ e ∈ o.after.toList, Region.binds md e = true → S e.on) → S i) : ∀ i, i < l.length → S i := by
  intro i hi
  have he := Nat.eq_of_beq_eq_true h
  have h1 := pass_mem hS l 0 0 (by simp) (fun j hj => by simp at hj)
  have h2 := pass_mem hS l 0 _ (by simp) h1
  have h3 := pass_mem hS l 0 _ (by simp) h2
  refine h3 i ?_
  rw [he, Nat.testBit_two_pow_sub_one]
  simpa using hi

structure Good (T : Ts) (all : Array Oper) (l : List Oper) : Prop where
  dst : ∀ (i j : Nat) (a b : Oper) (d : Tmp), l[i]? = some a → l[j]? = some b → a.dst = some d → b.dst = some d → i = j
  self : ∀ (i : Nat) (a : Oper) (d : Tmp), l[i]? = some a → a.dst = some d → d ∉ looks all a
  top : ∀ (md : Region.Mode) (S : Nat → Prop), (∀ (i : Nat) (o : Oper), l[i]? = some o → (∀ e ∈ o.after.toList, Region.binds md e = true → S e.on) → S i) → ∀ i, i < l.length → S i
  read : ∀ (i j : Nat) (a b : Oper) (d : Tmp), l[i]? = some a → l[j]? = some b → a.dst = some d → d ∈ looks all b → i < j → Reach l j i
  anti : ∀ (i j : Nat) (a b : Oper) (d : Tmp), l[i]? = some a → l[j]? = some b → b.dst = some d → d ∈ looks all a → i < j → Reach l j i
  act : ∀ (i j : Nat) (a b : Oper), l[i]? = some a → l[j]? = some b → kindOf T b.op = 3 → 2 ≤ kindOf T a.op → i < j → Reach l j i

theorem hasT_mem {d : Tmp} {l : List Tmp} : hasT (some d) l = true ↔ d ∈ l := by
  simp only [hasT, List.any_eq_true]
  constructor
  · rintro ⟨x, hx, he⟩; have := Nat.eq_of_beq_eq_true he; subst this; exact hx
  · intro h; exact ⟨d, h, by simp⟩

theorem good_of {T : Ts} {all : Array Oper} (h : okDraw T all (masks all.toList []) = true) : Good T all all.toList := by
  unfold okDraw at h
  simp only [Bool.and_eq_true] at h
  obtain ⟨⟨⟨hp, hl⟩, ht⟩, hgc⟩ := h
  have pair : ∀ i j a b, all.toList[i]? = some a → all.toList[j]? = some b → i < j → pairOk T all (masks all.toList []) i j a b = true := by
    intro i j a b ha hb hij
    have hi := (List.getElem?_eq_some_iff.1 ha).1
    have hj := (List.getElem?_eq_some_iff.1 hb).1
    unfold pairsOk at hp
    have h1 := List.all_eq_true.1 hp i (List.mem_range.2 hi)
    have h2 := List.all_eq_true.1 h1 j (List.mem_range.2 hj)
    rw [nth_eq, nth_eq, ha, hb] at h2
    have hlt : Nat.blt i j = true := by simpa [Nat.blt_eq] using hij
    rw [hlt] at h2
    simpa using h2
  have lone : ∀ (i : Nat) (a : Oper), all.toList[i]? = some a → ((hasT a.dst (looks all a)).not) = true := by
    intro i a ha
    have hi := (List.getElem?_eq_some_iff.1 ha).1
    unfold lonesOk at hl
    have h1 := List.all_eq_true.1 hl i (List.mem_range.2 hi)
    rw [nth_eq, ha] at h1
    exact h1
  have parts : ∀ i j a b, all.toList[i]? = some a → all.toList[j]? = some b → i < j → (sameDst a.dst b.dst = false) ∧ ((hasT a.dst (looks all b) || hasT b.dst (looks all a) || (Nat.beq (kindOf T b.op) 3 && Nat.ble 2 (kindOf T a.op))) = true → Reach all.toList j i) := by
    intro i j a b ha hb hij
    have := pair i j a b ha hb hij
    unfold pairOk at this
    simp only [Bool.and_eq_true, Bool.or_eq_true, Bool.not_eq_true'] at this
    refine ⟨this.1, fun hc => ?_⟩
    rcases this.2 with h | h
    · simp only [Bool.or_eq_false_iff] at h
      simp only [Bool.or_eq_true] at hc
      rcases hc with (hc | hc) | hc
      · rw [h.1.1] at hc; cases hc
      · rw [h.1.2] at hc; cases hc
      · rw [h.2] at hc; cases hc
    · exact ahead_reach h
  refine ⟨?_, ?_, ?_, ?_, ?_, ?_⟩
  · intro i j a b d ha hb hda hdb
    rcases Nat.lt_trichotomy i j with hlt | heq | hgt
    · have := (parts i j a b ha hb hlt).1
      rw [hda, hdb] at this
      simp [sameDst] at this
    · exact heq
    · have := (parts j i b a hb ha hgt).1
      rw [hda, hdb] at this
      simp [sameDst] at this
  · intro i a d ha hd hm
    have := lone i a ha
    simp only [Bool.not_eq_true'] at this
    rw [hd] at this
    rw [hasT_mem.2 hm] at this
    cases this
  · intro md S hS
    cases md with
    | text => exact top_of ht hS
    | gc => exact top_of hgc hS
    | any => exact top_of hgc (fun i o hi h => hS i o hi (fun e he hb => h e he (binds_any _ hb)))
  · intro i j a b d ha hb hd hm hij
    refine (parts i j a b ha hb hij).2 ?_
    rw [hd, hasT_mem.2 hm]; rfl
  · intro i j a b d ha hb hd hm hij
    refine (parts i j a b ha hb hij).2 ?_
    rw [hd, hasT_mem.2 hm]; simp
  · intro i j a b ha hb hk3 hk2 hij
    refine (parts i j a b ha hb hij).2 ?_
    have h1 : Nat.beq (kindOf T b.op) 3 = true := by rw [hk3]; rfl
    have h2 : Nat.ble 2 (kindOf T a.op) = true := Nat.ble_eq_true_of_le hk2
    rw [h1, h2]; simp

/-! the slots along the chain -/
theorem looks_op {all : Array Oper} {o : Oper} {d : Tmp} (h : Operand.tmp d ∈ o.op.operands) : d ∈ looks all o := by
  have h1 : d ∈ tmpOf o.op.operands.toList := mem_tmpOf (by simpa using h)
  unfold looks
  split
  · split
    · exact List.mem_cons_of_mem _ h1
    · exact h1
  · exact h1
theorem looks_guard {all : Array Oper} {o : Oper} {g : Nat} {b : Bool} {d : Tmp} (h : o.guard = some (g, b)) (hd : guardOf all g = some d) : d ∈ looks all o := by
  unfold looks
  rw [h]
  simp only [hd]
  exact List.mem_cons_self

theorem Chain.tstep {all : Array Oper} {l : List Oper} {s : Nat → St} (h : Chain E ex all l s) {i : Nat} {o : Oper} (hi : l[i]? = some o) : (s (i + 1)).t = putTmp (s i).t o.dst (s i).v := by
  cases hw : wantedA all (s i).t o.guard with
  | false => obtain ⟨a, b, _⟩ := h.skip i o hi hw; rw [b, a]
  | true => exact (h.op i o hi hw).2

theorem putTmp_ne {t : Tr Value} {dst : Option Tmp} {v : Value} {d : Tmp} (h : dst ≠ some d) : (putTmp t dst v).get Undef d = t.get Undef d := by
  cases dst with
  | none => rfl
  | some x => exact Tr.get_set_other _ _ _ _ _ (fun e => h (by rw [e]))
theorem putTmp_has {t : Tr Value} {dst : Option Tmp} {v : Value} {d : Tmp} : (putTmp t dst v).has d = t.has d := by
  cases dst with
  | none => rfl
  | some x => exact Tr.has_set _ _ _ _

theorem chain_has {all : Array Oper} {l : List Oper} {s : Nat → St} (h : Chain E ex all l s) (d : Tmp) : ∀ i, i ≤ l.length → (s i).t.has d = (s 0).t.has d
  | 0, _ => rfl
  | i + 1, hi => by
    obtain ⟨o, ho⟩ : ∃ o, l[i]? = some o := ⟨_, List.getElem?_eq_getElem (by omega)⟩
    rw [h.tstep ho, putTmp_has]
    exact chain_has h d i (by omega)
theorem chain_none {all : Array Oper} {l : List Oper} {s : Nat → St} (h : Chain E ex all l s) {d : Tmp} : ∀ i, i ≤ l.length → (∀ j o, j < i → l[j]? = some o → o.dst ≠ some d) → (s i).t.get Undef d = (s 0).t.get Undef d
  | 0, _, _ => rfl
  | i + 1, hi, hn => by
    obtain ⟨o, ho⟩ : ∃ o, l[i]? = some o := ⟨_, List.getElem?_eq_getElem (by omega)⟩
    rw [h.tstep ho, putTmp_ne (hn i o (by omega) ho)]
    exact chain_none h i (by omega) (fun j o hj => hn j o (by omega))
theorem chain_some {T : Ts} {all : Array Oper} {l : List Oper} {s : Nat → St} (h : Chain E ex all l s) (hg : Good T all l) {nt : Nat} (hh : ∀ d, d < nt → (s 0).t.has d = true) {j : Nat} {o : Oper} {d : Tmp} (hj : l[j]? = some o) (hd : o.dst = some d) (hdn : d < nt) :
    ∀ i, i ≤ l.length → j < i → (s i).t.get Undef d = (s j).v
  | 0, _, hji => by omega
  | i + 1, hi, hji => by
    obtain ⟨o', ho'⟩ : ∃ o, l[i]? = some o := ⟨_, List.getElem?_eq_getElem (by omega)⟩
    rw [h.tstep ho']
    by_cases e : i = j
    · subst e
      rw [hj] at ho'; cases ho'
      rw [hd]
      exact Tr.get_set_same _ _ _ _ (by rw [chain_has h d i (by omega)]; exact hh d hdn)
    · rw [putTmp_ne (fun e' => e (hg.dst i j o' o d ho' hj e' hd))]
      exact chain_some h hg hh hj hd hdn i (by omega) (by omega)
end Ex

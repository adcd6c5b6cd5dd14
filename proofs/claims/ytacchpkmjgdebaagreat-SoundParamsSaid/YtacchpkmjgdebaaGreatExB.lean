/- A verified executor for closed Go calls, part of it: its lemmas carry no condition. -/
import Derived.Test.YtacchpkmjgdebaaGreatExA
set_option linter.unusedVariables false
set_option linter.unusedSimpArgs false
namespace Ex
open Go
namespace Tr
variable {α : Type}
theorem get_nil (d : α) (n : Nat) : get d .nil n = d := rfl
theorem get_zero (d v : α) (l r : Tr α) : get d (.node v l r) 0 = v := rfl
theorem get_succ (d v : α) (l r : Tr α) (m : Nat) : get d (.node v l r) (m + 1) = match Nat.beq (m % 2) 0 with | true => get d l (m / 2) | false => get d r (m / 2) := by
  show @Bool.rec (fun _ => α) (get d r (Nat.div m 2)) (get d l (Nat.div m 2)) (Nat.beq (Nat.mod m 2) 0) = _
  show _ = (match Nat.beq (Nat.mod m 2) 0 with | true => get d l (Nat.div m 2) | false => get d r (Nat.div m 2))
  cases Nat.beq (Nat.mod m 2) 0 <;> rfl
theorem set_nil (n : Nat) (x : α) : set .nil n x = .nil := rfl
theorem set_zero (v x : α) (l r : Tr α) : set (.node v l r) 0 x = .node x l r := rfl
theorem set_succ (v x : α) (l r : Tr α) (m : Nat) : set (.node v l r) (m + 1) x = match Nat.beq (m % 2) 0 with | true => Tr.node v (set l (m / 2) x) r | false => Tr.node v l (set r (m / 2) x) := by
  show @Bool.rec (fun _ => Tr α) (.node v l (set r (Nat.div m 2) x)) (.node v (set l (Nat.div m 2) x) r) (Nat.beq (Nat.mod m 2) 0) = _
  show _ = (match Nat.beq (Nat.mod m 2) 0 with | true => Tr.node v (set l (Nat.div m 2) x) r | false => Tr.node v l (set r (Nat.div m 2) x))
  cases Nat.beq (Nat.mod m 2) 0 <;> rfl
theorem full_zero (d : α) : full d 0 = .nil := rfl
theorem full_succ (d : α) (n : Nat) : full d (n + 1) = .node d (full d n) (full d n) := rfl

def has : Tr α → Nat → Bool
  | .nil, _ => false
  | .node _ l r, n => match n with
    | 0 => true
    | m + 1 => match Nat.beq (m % 2) 0 with
      | true => l.has (m / 2)
      | false => r.has (m / 2)

theorem half_ne {m n : Nat} (h : m ≠ n) (hp : Nat.beq (m % 2) 0 = Nat.beq (n % 2) 0) : m / 2 ≠ n / 2 := by
  intro e
  apply h
  have h1 : m % 2 = n % 2 := by
    rcases Nat.mod_two_eq_zero_or_one m with a | a <;> rcases Nat.mod_two_eq_zero_or_one n with b | b <;> simp [a, b] at hp ⊢
  omega

theorem get_set_other (d : α) : ∀ (t : Tr α) (n m : Nat) (x : α), m ≠ n → get d (set t n x) m = get d t m
  | .nil, _, _, _, _ => rfl
  | .node v l r, 0, 0, x, h => absurd rfl h
  | .node v l r, 0, m + 1, x, h => by rw [set_zero, get_succ, get_succ]
  | .node v l r, n + 1, 0, x, h => by
    rw [set_succ]
    cases Nat.beq (n % 2) 0 <;> rfl
  | .node v l r, n + 1, m + 1, x, h => by
    rw [set_succ]
    cases hn : Nat.beq (n % 2) 0 <;> cases hm : Nat.beq (m % 2) 0 <;> simp only [get_succ, hm]
    · exact get_set_other d r _ _ x (half_ne (by omega) (by rw [hm, hn]))
    · exact get_set_other d l _ _ x (half_ne (by omega) (by rw [hm, hn]))

theorem get_set_same (d : α) : ∀ (t : Tr α) (n : Nat) (x : α), has t n = true → get d (set t n x) n = x
  | .nil, _, _, h => by simp [has] at h
  | .node v l r, 0, x, _ => rfl
  | .node v l r, n + 1, x, h => by
    simp only [has] at h
    rw [set_succ]
    cases hn : Nat.beq (n % 2) 0 <;> simp only [hn] at h <;> simp only [get_succ, hn]
    · exact get_set_same d r _ x h
    · exact get_set_same d l _ x h

theorem has_set : ∀ (t : Tr α) (n m : Nat) (x : α), has (set t n x) m = has t m
  | .nil, _, _, _ => rfl
  | .node v l r, 0, 0, x => rfl
  | .node v l r, 0, m + 1, x => rfl
  | .node v l r, n + 1, 0, x => by
    rw [set_succ]
    cases Nat.beq (n % 2) 0 <;> rfl
  | .node v l r, n + 1, m + 1, x => by
    rw [set_succ]
    cases hn : Nat.beq (n % 2) 0 <;> cases hm : Nat.beq (m % 2) 0 <;> simp only [has, hm]
    · exact has_set r _ _ x
    · exact has_set l _ _ x

theorem has_full (v : α) : ∀ (d n : Nat), n + 1 < 2 ^ d → has (full v d) n = true
  | 0, n, h => by simp at h
  | d + 1, 0, _ => rfl
  | d + 1, n + 1, h => by
    rw [Nat.pow_succ] at h
    have hx : n / 2 + 1 < 2 ^ d := by omega
    simp only [full_succ, has]
    cases Nat.beq (n % 2) 0 <;> simp only [has_full v d _ hx]

theorem get_full (v : α) : ∀ (d n : Nat), get v (full v d) n = v
  | 0, _ => rfl
  | d + 1, 0 => rfl
  | d + 1, n + 1 => by
    rw [full_succ, get_succ]
    cases Nat.beq (n % 2) 0 <;> simp only [get_full v d _]

theorem evens_odds : ∀ (l : List α) (i : Nat), (evens l)[i]? = l[2 * i]? ∧ (odds l)[i]? = l[2 * i + 1]?
  | [], i => by simp [evens, odds]
  | [x], i => by
    cases i with
    | zero => simp [evens, odds]
    | succ i => simp [evens, odds, show 2 * (i + 1) = 2 * i + 1 + 1 by omega]
  | x :: y :: l, i => by
    cases i with
    | zero => simp [evens, odds]
    | succ i =>
      have := evens_odds l i
      simp only [evens, odds, List.getElem?_cons_succ, show 2 * (i + 1) = 2 * i + 1 + 1 by omega]
      exact this

theorem get_ofList : ∀ (n : Nat) (l : List α) (i : Nat) (x : α), get none (ofList n l) i = some x → l[i]? = some x
  | 0, l, i, x, h => by cases h
  | n + 1, [], i, x, h => by cases h
  | n + 1, y :: l, 0, x, h => h
  | n + 1, y :: l, i + 1, x, h => by
    have h : get none (.node (some y) (ofList n (evens l)) (ofList n (odds l))) (i + 1) = some x := h
    rw [get_succ] at h
    rw [List.getElem?_cons_succ]
    cases hb : Nat.beq (i % 2) 0 <;> rw [hb] at h
    · have := get_ofList n _ _ _ h
      rw [(evens_odds l _).2] at this
      have hi : i % 2 ≠ 0 := fun e => by rw [e] at hb; cases hb
      rwa [show 2 * (i / 2) + 1 = i by omega] at this
    · have := get_ofList n _ _ _ h
      rw [(evens_odds l _).1] at this
      have hi : i % 2 = 0 := Nat.eq_of_beq_eq_true hb
      rwa [show 2 * (i / 2) = i by omega] at this

/-- The slot is what was put there, or it is as it was. -/
theorem get_set_or (d : α) (t : Tr α) (n m : Nat) (x : α) : get d (set t n x) m = get d t m ∨ (m = n ∧ get d (set t n x) m = x) := by
  by_cases h : m = n
  · subst h
    cases hh : has t m with
    | true => exact .inr ⟨rfl, get_set_same d t m x hh⟩
    | false =>
      refine .inl ?_
      induction t generalizing m with
      | nil => rfl
      | node v l r ihl ihr =>
        cases m with
        | zero => simp [has] at hh
        | succ m =>
          simp only [has] at hh
          rw [set_succ]
          cases hm : Nat.beq (m % 2) 0 <;> simp only [hm] at hh <;> simp only [get_succ, hm]
          · exact ihr _ hh
          · exact ihl _ hh
  · exact .inl (get_set_other d t n m x h)
end Tr

theorem Heap.get_set (H : Heap) (b m : Nat) (o : AObj) : (H.set b o).get m = H.get m ∨ (m = b ∧ (H.set b o).get m = o) := by
  cases H; exact Tr.get_set_or _ _ _ _ _
theorem Heap.get_set_ne (H : Heap) {b m : Nat} (o : AObj) (h : m ≠ b) : (H.set b o).get m = H.get m := by
  cases H; exact Tr.get_set_other _ _ _ _ _ h
theorem Heap.get_add (H : Heap) (m : Nat) (o : AObj) : (H.add o).get m = H.get m ∨ (m = H.next ∧ (H.add o).get m = o) := by
  cases H; exact Tr.get_set_or _ _ _ _ _
theorem Heap.next_set (H : Heap) (b : Nat) (o : AObj) : (H.set b o).next = H.next := by cases H; rfl
theorem Heap.next_add (H : Heap) (o : AObj) : (H.add o).next = H.next + 1 := by cases H; rfl

/-! Where the abstract blocks lie: block, shift, cells from there to the block's end, cells of an element (0: the row's end is known). -/
structure Pl where
  c : Nat
  s : Nat
  z : Nat
  k : Nat
abbrev Rho := Nat → Option Pl

def Rho.le (ρ ρ' : Rho) : Prop := ∀ b x, ρ b = some x → ρ' b = some x
theorem Rho.le_refl (ρ : Rho) : ρ.le ρ := fun _ _ h => h
theorem Rho.le_trans {a b c : Rho} (h : a.le b) (h' : b.le c) : a.le c := fun _ _ e => h' _ _ (h _ _ e)

inductive FnR (ρ : Rho) : Fn → Fn → Prop
  | func (f : FuncId) : FnR ρ (.func f) (.func f)
  | yield {b l : Nat} (h : ρ b = some ⟨l, 0, 0, 0⟩) : FnR ρ (.yield l) (.yield b)

/-- a value, and what stands for it -/
inductive VR (ρ : Rho) : Value → Value → Prop
  | bool (b) : VR ρ (.bool b) (.bool b)
  | int (k n) : VR ρ (.int k n) (.int k n)
  | float (k n) : VR ρ (.float k n) (.float k n)
  | complex (k m n) : VR ρ (.complex k m n) (.complex k m n)
  | string (s) : VR ρ (.string s) (.string s)
  | pnil : VR ρ (.pointer none) (.pointer none)
  | mnil : VR ρ (.map none) (.map none)
  | cnil : VR ρ (.chan none) (.chan none)
  | mp {b l : Nat} (h : ρ b = some ⟨l, 0, 0, 0⟩) : VR ρ (.map (some l)) (.map (some b))
  | snil : VR ρ (.slice none 0 0) (.slice none 0 0)
  | nilFunc : VR ρ .nilFunc .nilFunc
  | nilIface : VR ρ .nilIface .nilIface
  | ptr {b o : Nat} {p : Pl} (h : ρ b = some p) : VR ρ (.pointer (some ⟨p.c, p.s + o, none⟩)) (.pointer (some ⟨b, o, none⟩))
  | slice {b o len cap cap' : Nat} {p : Pl} (h : ρ b = some p) (hc : cap' ≤ cap) (h0 : p.k = 0 → cap = cap') (hk : p.k ≠ 0 → o + p.k * cap ≤ p.z) :
      VR ρ (.slice (some ⟨p.c, p.s + o, none⟩) len cap) (.slice (some ⟨b, o, none⟩) len cap')
  | sempty {b o cap : Nat} {p : Pl} (a : Addr) (h : ρ b = some p) (hk : p.k ≠ 0) : VR ρ (.slice (some a) 0 cap) (.slice (some ⟨b, o, none⟩) 0 0)
  | func {f f' : Fn} (x x' y y' : List Value) (hf : FnR ρ f f') (hx : x.length = x'.length) (h : ∀ (i : Nat) u v, x[i]? = some u → x'[i]? = some v → VR ρ u v)
      (hy : y.length = y'.length) (h' : ∀ (i : Nat) u v, y[i]? = some u → y'[i]? = some v → VR ρ u v) : VR ρ (.func f ⟨x⟩ ⟨y⟩) (.func f' ⟨x'⟩ ⟨y'⟩)
  | iface (t) {v v' : Value} (h : VR ρ v v') : VR ρ (.iface t v) (.iface t v')
  | agg (x x' : List Value) (hx : x.length = x'.length) (h : ∀ (i : Nat) u v, x[i]? = some u → x'[i]? = some v → VR ρ u v) : VR ρ (.agg ⟨x⟩) (.agg ⟨x'⟩)
  | tuple (x x' : List Value) (hx : x.length = x'.length) (h : ∀ (i : Nat) u v, x[i]? = some u → x'[i]? = some v → VR ρ u v) : VR ρ (.tuple ⟨x⟩) (.tuple ⟨x'⟩)

/-- lists of values -/
def LR (ρ : Rho) (x x' : List Value) : Prop := x.length = x'.length ∧ ∀ (i : Nat) u v, x[i]? = some u → x'[i]? = some v → VR ρ u v

theorem FnR.mono {ρ ρ' : Rho} (hle : ρ.le ρ') {f f' : Fn} (h : FnR ρ f f') : FnR ρ' f f' := by
  cases h with
  | func f => exact .func f
  | yield h => exact .yield (hle _ _ h)

theorem VR.mono {ρ ρ' : Rho} (hle : ρ.le ρ') {v v' : Value} (h : VR ρ v v') : VR ρ' v v' := by
  induction h with
  | ptr h => exact .ptr (hle _ _ h)
  | mp h => exact .mp (hle _ _ h)
  | slice h hc h0 hk => exact .slice (hle _ _ h) hc h0 hk
  | sempty a h hk => exact .sempty a (hle _ _ h) hk
  | func x x' y y' hf hx _ hy _ ih ih' => exact .func x x' y y' (hf.mono hle) hx ih hy ih'
  | iface t _ ih => exact .iface t ih
  | agg x x' hx _ ih => exact .agg x x' hx ih
  | tuple x x' hx _ ih => exact .tuple x x' hx ih
  | _ => constructor

theorem LR.mono {ρ ρ' : Rho} (hle : ρ.le ρ') {x x' : List Value} (h : LR ρ x x') : LR ρ' x x' := ⟨h.1, fun i u v a b => (h.2 i u v a b).mono hle⟩

theorem LR.nil (ρ : Rho) : LR ρ [] [] := ⟨rfl, fun i u v h => by simp at h⟩
theorem LR.cons {ρ : Rho} {v v' : Value} {x x' : List Value} (h : VR ρ v v') (t : LR ρ x x') : LR ρ (v :: x) (v' :: x') :=
  ⟨by simp [t.1], fun i u w a b => by
    cases i with
    | zero => simp at a b; subst a; subst b; exact h
    | succ i => simp at a b; exact t.2 i u w a b⟩
theorem LR.cons_inv {ρ : Rho} {x : List Value} {v' : Value} {x' : List Value} (h : LR ρ x (v' :: x')) : ∃ v t, x = v :: t ∧ VR ρ v v' ∧ LR ρ t x' := by
  cases x with
  | nil => have := h.1; simp at this
  | cons v t => exact ⟨v, t, rfl, h.2 0 v v' rfl rfl, by have := h.1; simpa using this, fun i u w a b => h.2 (i + 1) u w (by simpa using a) (by simpa using b)⟩
theorem LR.nil_inv {ρ : Rho} {x : List Value} (h : LR ρ x []) : x = [] := by have := h.1; simpa using this
theorem LR.get {ρ : Rho} {x x' : List Value} (h : LR ρ x x') {i : Nat} {v' : Value} (hi : x'[i]? = some v') : ∃ v, x[i]? = some v ∧ VR ρ v v' := by
  have hl : i < x.length := by rw [h.1]; exact (List.getElem?_eq_some_iff.1 hi).1
  exact ⟨x[i], List.getElem?_eq_getElem hl, h.2 i _ _ (List.getElem?_eq_getElem hl) hi⟩
theorem LR.append {ρ : Rho} {x x' y y' : List Value} (h : LR ρ x x') (h' : LR ρ y y') : LR ρ (x ++ y) (x' ++ y') := by
  induction x generalizing x' with
  | nil => have : x' = [] := by have := h.1; simpa using this.symm
           subst this; simpa using h'
  | cons a t ih =>
    cases x' with
    | nil => have := h.1; simp at this
    | cons a' t' =>
      obtain ⟨v, t2, e, hv, ht⟩ := LR.cons_inv h
      cases e
      exact LR.cons hv (ih ht)
theorem LR.drop {ρ : Rho} {x x' : List Value} (h : LR ρ x x') (n : Nat) : LR ρ (x.drop n) (x'.drop n) :=
  ⟨by simp [h.1], fun i u v a b => h.2 (n + i) u v (by simpa using a) (by simpa using b)⟩
theorem LR.take {ρ : Rho} {x x' : List Value} (h : LR ρ x x') (n : Nat) : LR ρ (x.take n) (x'.take n) :=
  ⟨by simp [h.1], fun i u v a b => by
    rw [List.getElem?_take] at a b
    split at a <;> simp_all
    exact h.2 i u v a b⟩

mutual
theorem free_eq {ρ : Rho} : ∀ {v v' : Value}, VR ρ v v' → free v' = true → v = v'
  | _, _, .bool _, _ | _, _, .int .., _ | _, _, .float .., _ | _, _, .complex .., _ | _, _, .string _, _ | _, _, .pnil, _ | _, _, .mnil, _ | _, _, .cnil, _ | _, _, .snil, _
  | _, _, .nilFunc, _ | _, _, .nilIface, _ => rfl
  | _, _, .ptr _, h => by simp [free] at h
  | _, _, .mp _, h => by simp [free] at h
  | _, _, .slice .., h => by simp [free] at h
  | _, _, .sempty .., h => by simp [free] at h
  | _, _, .func .., h => by simp [free] at h
  | _, _, .iface t hv, h => congrArg (Value.iface t) (free_eq hv (by simpa [free] using h))
  | _, _, .agg x x' hx hh, h => congrArg (fun l => Value.agg ⟨l⟩) (freeL_eq hh hx (by simpa [free, freeA] using h))
  | _, _, .tuple x x' hx hh, h => congrArg (fun l => Value.tuple ⟨l⟩) (freeL_eq hh hx (by simpa [free, freeA] using h))
theorem freeL_eq {ρ : Rho} : ∀ {x x' : List Value}, (∀ (i : Nat) u v, x[i]? = some u → x'[i]? = some v → VR ρ u v) → x.length = x'.length → freeL x' = true → x = x'
  | [], [], _, _, _ => rfl
  | v :: x, v' :: x', h, hl, hf => by
    simp only [freeL, Bool.and_eq_true] at hf
    rw [free_eq (h 0 v v' rfl rfl) hf.1, freeL_eq (x := x) (x' := x') (fun i u w a b => h (i + 1) u w (by simpa using a) (by simpa using b)) (by simpa using hl) hf.2]
  | [], _ :: _, _, hl, _ => by simp at hl
  | _ :: _, [], _, hl, _ => by simp at hl
end
end Ex

/- A part of the proof of the statement of this seat: no condition. -/
import Derived.Test.YtfagoiecijpneaaGreatG
import Derived.Test.YtfagoiecijpneaaGreatXA
import Derived.Lib.Bytealg
import Derived.RangeFuncNested
import Derived.RangeFuncBound
import Derived.RangeFuncCalls
import Derived.RangeFuncLeaves
import Derived.OrdersHeld
import Derived.OrdersIn
import Derived.OwnWalkIn
import Derived.ArgAppend
import Derived.Test.YtfagoiecijpneaaGreatIA
import Derived.Test.YtfagoiecijpneaaGreatXC
import Derived.ProofKit
import Derived.ReadAgain
import Derived.Lib.SmallJoins
import Derived.OpenShut
set_option linter.unusedVariables false
set_option linter.unusedSimpArgs false
section
/- Plain store: byte strings in order, lists of entries in order, and pages of them; no program in sight. -/
namespace Gl

abbrev Bs := List Nat

/-- Does a stand ahead of b, byte by byte? -/
def blt : Bs → Bs → Bool
  | [], [] => false
  | [], _ :: _ => true
  | _ :: _, [] => false
  | x :: a, y :: b => if x < y then true else if y < x then false else blt a b

theorem blt_irrefl (a : Bs) : blt a a = false := by
  induction a with
  | nil => rfl
  | cons x a ih => simp [blt, ih, Nat.lt_irrefl]

theorem nn_eq {x y : Nat} (h1 : ¬ x < y) (h2 : ¬ y < x) : x = y := by
  omega


theorem blt_tri {a b : Bs} (h1 : blt a b = false) (h2 : blt b a = false) : a = b := by
  induction a generalizing b with
  | nil => cases b with
    | nil => rfl
    | cons y b => simp [blt] at h1
  | cons x a ih => cases b with
    | nil => simp [blt] at h2
    | cons y b =>
      simp only [blt] at h1 h2
      by_cases hx : x < y
      · simp [hx] at h1
      · by_cases hy : y < x
        · simp [hy] at h2
        · have e := nn_eq hx hy
          subst e
          simp only [hx, if_false] at h1 h2
          rw [ih h1 h2]

theorem blt_trans {a b c : Bs} (h1 : blt a b = true) (h2 : blt b c = true) : blt a c = true := by
  induction a generalizing b c with
  | nil => cases b with
    | nil => simp [blt] at h1
    | cons y b => cases c with
      | nil => simp [blt] at h2
      | cons z c => rfl
  | cons x a ih => cases b with
    | nil => simp [blt] at h1
    | cons y b => cases c with
      | nil => simp [blt] at h2
      | cons z c =>
        simp only [blt] at h1 h2 ⊢
        by_cases hxy : x < y
        · by_cases hyz : y < z
          · rw [if_pos (by omega)]
          · rw [if_neg hyz] at h2
            by_cases hzy : z < y
            · simp [hzy] at h2
            · rw [if_pos (by omega)]
        · rw [if_neg hxy] at h1
          by_cases hyx : y < x
          · simp [hyx] at h1
          · rw [if_neg hyx] at h1
            by_cases hyz : y < z
            · rw [if_pos (by omega)]
            · rw [if_neg hyz] at h2
              by_cases hzy : z < y
              · simp [hzy] at h2
              · rw [if_neg hzy] at h2
                rw [if_neg (by omega), if_neg (by omega)]
                exact ih h1 h2

theorem blt_asymm {a b : Bs} (h : blt a b = true) : blt b a = false := by
  cases hb : blt b a with
  | false => rfl
  | true => have := blt_trans h hb; rw [blt_irrefl] at this; cases this

theorem blt_ne {a b : Bs} (h : blt a b = true) : a ≠ b := fun e => by rw [e, blt_irrefl] at h; cases h

/-- Not ahead, and another: behind. -/
theorem blt_of_not {a b : Bs} (h : blt a b = false) (hne : a ≠ b) : blt b a = true := by
  cases hb : blt b a with
  | true => rfl
  | false => exact absurd (blt_tri h hb) hne

theorem blt_of_lt_of_le {a b c : Bs} (h1 : blt a b = true) (h2 : blt c b = false) : blt a c = true := by
  by_cases e : c = b
  · rw [e]; exact h1
  · exact blt_trans h1 (blt_of_not h2 e)

theorem blt_of_le_of_lt {a b c : Bs} (h1 : blt b a = false) (h2 : blt b c = true) : blt a c = true := by
  by_cases e : b = a
  · rw [← e]; exact h2
  · exact blt_trans (blt_of_not h1 e) h2

abbrev Ent := Bs × Bs

/-- Entries by rising keys. -/
def Sorted (L : List Ent) : Prop := L.Pairwise fun x y => blt x.1 y.1 = true

def get (L : List Ent) (k : Bs) : Option Bs := (L.find? fun e => e.1 == k).map (·.2)
def put (L : List Ent) (k v : Bs) : List Ent := L.filter (fun e => blt e.1 k) ++ (k, v) :: L.filter (fun e => blt k e.1)
def del (L : List Ent) (k : Bs) : List Ent := L.filter fun e => e.1 != k
def has (L : List Ent) (k : Bs) : Bool := L.any fun e => e.1 == k

/-- All keys stand ahead of k. -/
def Low (L : List Ent) (k : Bs) : Prop := ∀ e ∈ L, blt e.1 k = true
def High (L : List Ent) (k : Bs) : Prop := ∀ e ∈ L, blt k e.1 = true

theorem Low.append {A C : List Ent} {k : Bs} (h : Low A k) (h' : Low C k) : Low (A ++ C) k := fun e he => (List.mem_append.1 he).elim (h e) (h' e)
theorem High.append {A C : List Ent} {k : Bs} (h : High A k) (h' : High C k) : High (A ++ C) k := fun e he => (List.mem_append.1 he).elim (h e) (h' e)

theorem filter_low {A : List Ent} {k : Bs} (h : Low A k) : A.filter (fun e => blt e.1 k) = A := List.filter_eq_self.2 h
theorem filter_high {A : List Ent} {k : Bs} (h : High A k) : A.filter (fun e => blt k e.1) = A := List.filter_eq_self.2 h
theorem filter_low_of_high {A : List Ent} {k : Bs} (h : High A k) : A.filter (fun e => blt e.1 k) = [] := List.filter_eq_nil_iff.2 fun e he => by simp [blt_asymm (h e he)]
theorem filter_high_of_low {A : List Ent} {k : Bs} (h : Low A k) : A.filter (fun e => blt k e.1) = [] := List.filter_eq_nil_iff.2 fun e he => by simp [blt_asymm (h e he)]
theorem filter_ne_low {A : List Ent} {k : Bs} (h : Low A k) : A.filter (fun e => e.1 != k) = A := List.filter_eq_self.2 fun e he => by simp [blt_ne (h e he)]
theorem filter_ne_high {A : List Ent} {k : Bs} (h : High A k) : A.filter (fun e => e.1 != k) = A := List.filter_eq_self.2 fun e he => by simp [Ne.symm (blt_ne (h e he))]

theorem put_new {A C : List Ent} {k v : Bs} (ha : Low A k) (hc : High C k) : put (A ++ C) k v = A ++ (k, v) :: C := by
  simp [put, List.filter_append, filter_low ha, filter_high hc, filter_low_of_high hc, filter_high_of_low ha]
theorem put_old {A C : List Ent} {k v u : Bs} (ha : Low A k) (hc : High C k) : put (A ++ (k, u) :: C) k v = A ++ (k, v) :: C := by
  simp [put, List.filter_append, blt_irrefl, filter_low ha, filter_high hc, filter_low_of_high hc, filter_high_of_low ha]
theorem del_old {A C : List Ent} {k u : Bs} (ha : Low A k) (hc : High C k) : del (A ++ (k, u) :: C) k = A ++ C := by
  simp [del, List.filter_append, filter_ne_low ha, filter_ne_high hc]
theorem del_none {A C : List Ent} {k : Bs} (ha : Low A k) (hc : High C k) : del (A ++ C) k = A ++ C := by
  simp [del, List.filter_append, filter_ne_low ha, filter_ne_high hc]
theorem get_old {A C : List Ent} {k u : Bs} (ha : Low A k) : get (A ++ (k, u) :: C) k = some u := by
  have h : A.find? (fun e => e.1 == k) = none := List.find?_eq_none.2 fun e he => by simp [blt_ne (ha e he)]
  simp [get, List.find?_append, h]
theorem get_none {A C : List Ent} {k : Bs} (ha : Low A k) (hc : High C k) : get (A ++ C) k = none := by
  have h : A.find? (fun e => e.1 == k) = none := List.find?_eq_none.2 fun e he => by simp [blt_ne (ha e he)]
  have h' : C.find? (fun e => e.1 == k) = none := List.find?_eq_none.2 fun e he => by simp [Ne.symm (blt_ne (hc e he))]
  simp [get, List.find?_append, h, h']

theorem Sorted.append {A C : List Ent} (h : Sorted (A ++ C)) : Sorted A ∧ Sorted C ∧ ∀ a ∈ A, ∀ c ∈ C, blt a.1 c.1 = true := List.pairwise_append.1 h
theorem Sorted.mk {A C : List Ent} (ha : Sorted A) (hc : Sorted C) (h : ∀ a ∈ A, ∀ c ∈ C, blt a.1 c.1 = true) : Sorted (A ++ C) := List.pairwise_append.2 ⟨ha, hc, h⟩

theorem sorted_ins {A C : List Ent} {k v : Bs} (h : Sorted (A ++ C)) (ha : Low A k) (hc : High C k) : Sorted (A ++ (k, v) :: C) := by
  obtain ⟨h1, h2, h3⟩ := h.append
  refine Sorted.mk h1 (List.pairwise_cons.2 ⟨fun e he => hc e he, h2⟩) fun a haa c hcc => ?_
  rcases List.mem_cons.1 hcc with rfl | hcc
  · exact ha a haa
  · exact h3 a haa c hcc
theorem sorted_rem {A C : List Ent} {x : Ent} (h : Sorted (A ++ x :: C)) : Sorted (A ++ C) := by
  obtain ⟨h1, h2, h3⟩ := h.append
  exact Sorted.mk h1 (List.pairwise_cons.1 h2).2 fun a ha c hc => h3 a ha c (List.mem_cons_of_mem _ hc)

/-! ### Pages -/

/-- Pages in order: none empty, the entries of all of them rising. -/
def Pages (ps : List (List Ent)) : Prop := (∀ l ∈ ps, l ≠ []) ∧ Sorted ps.flatten

/-- What find finds: page p, place i. -/
def Found (ps : List (List Ent)) (k : Bs) (p i : Nat) (there : Bool) : Prop :=
  ∃ (A : List (List Ent)) (X Y : List Ent) (C : List (List Ent)), ps = A ++ (X ++ Y) :: C ∧ p = A.length ∧ i = X.length ∧ Low (A.flatten ++ X) k ∧
    (if there then ∃ u Y', Y = (k, u) :: Y' ∧ High (Y' ++ C.flatten) k else High (Y ++ C.flatten) k)

/-- The key with which a page begins. -/
def head1 (l : List Ent) : Bs := (l.head?.map (·.1)).getD []

theorem found_of {ps : List (List Ent)} {k : Bs} {p i : Nat} (h : Pages ps) (hp : p < ps.length)
    (h1 : ∀ q, p < q → ∀ hq : q < ps.length, blt k (head1 ps[q]) = true) (h2 : p = 0 ∨ blt k (head1 ps[p]) = false)
    (hi : i ≤ ps[p].length) (h3 : ∀ j, ∀ hj : j < i, blt (ps[p][j]'(by omega)).1 k = true) (h4 : ∀ j, i ≤ j → ∀ hj : j < ps[p].length, blt (ps[p][j]).1 k = false) :
    Found ps k p i (decide (∃ hj : i < ps[p].length, (ps[p][i]).1 = k)) := by
  obtain ⟨hne, hs⟩ := h
  have e : ps = ps.take p ++ ps[p] :: ps.drop (p + 1) := by
    rw [← List.drop_eq_getElem_cons hp, List.take_append_drop]
  obtain ⟨l, hl⟩ : ∃ l, l = ps[p] := ⟨_, rfl⟩
  have hmem : l ∈ ps := hl ▸ List.getElem_mem hp
  simp only [← hl] at hi h3 h4 h2 e ⊢
  have hlne := hne l hmem
  obtain ⟨A, hA⟩ : ∃ A, A = ps.take p := ⟨_, rfl⟩
  obtain ⟨C, hC⟩ : ∃ C, C = ps.drop (p + 1) := ⟨_, rfl⟩
  have hAl : p = A.length := by rw [hA, List.length_take_of_le (by omega)]
  rw [← hA, ← hC] at e
  have hfl : ps.flatten = A.flatten ++ (l ++ C.flatten) := by
    conv => lhs; rw [e]
    simp
  rw [hfl] at hs
  obtain ⟨hsA, hsR, hAR⟩ := hs.append
  obtain ⟨hsl, hsC, hlC⟩ := hsR.append
  -- the pages behind
  have hCk : High C.flatten k := by
    intro x hx
    obtain ⟨c, hc, hxc⟩ := List.mem_flatten.1 hx
    obtain ⟨m, hm, hmc⟩ := List.getElem_of_mem hc
    have hm' : p + 1 + m < ps.length := by rw [hC, List.length_drop] at hm; omega
    have hcm : ps[p + 1 + m] = c := by rw [← hmc]; simp [hC]
    have hk := h1 (p + 1 + m) (by omega) hm'
    rw [hcm] at hk
    have hcne := hne c (hcm ▸ List.getElem_mem hm')
    obtain ⟨y, c', rfl⟩ := List.exists_cons_of_ne_nil hcne
    simp only [head1, List.head?_cons, Option.map_some, Option.getD_some] at hk
    have hsc : Sorted (y :: c') := hsC.sublist (List.sublist_flatten_of_mem hc)
    rcases List.mem_cons.1 hxc with rfl | hxc
    · exact hk
    · exact blt_trans hk ((List.pairwise_cons.1 hsc).1 x hxc)
  -- the pages ahead
  have hAk : Low A.flatten k := by
    rcases h2 with h0 | h2
    · have hA0 : A = [] := by rw [hA, h0]; rfl
      rw [hA0]; intro x hx; cases hx
    · intro x hx
      obtain ⟨y, l', hl'⟩ := List.exists_cons_of_ne_nil hlne
      rw [hl'] at h2
      simp only [head1, List.head?_cons, Option.map_some, Option.getD_some] at h2
      have hxy := hAR x hx y (by rw [hl']; simp)
      exact blt_of_lt_of_le hxy h2
  refine ⟨A, l.take i, l.drop i, C, by rw [List.take_append_drop]; exact e, hAl, by rw [List.length_take_of_le hi], hAk.append ?_, ?_⟩
  · intro x hx
    obtain ⟨j, hj, hjx⟩ := List.getElem_of_mem hx
    rw [List.length_take_of_le hi] at hj
    have := h3 j hj
    rw [← hjx, List.getElem_take]; exact this
  · have hge : ∀ x ∈ l.drop i, blt x.1 k = false := by
      intro x hx
      obtain ⟨j, hj, hjx⟩ := List.getElem_of_mem hx
      rw [List.length_drop] at hj
      have := h4 (i + j) (by omega) (by omega)
      rw [← hjx, List.getElem_drop]; exact this
    by_cases ht : ∃ hj : i < l.length, l[i].1 = k
    · obtain ⟨hj, hk⟩ := ht
      rw [if_pos (by simpa using ⟨hj, hk⟩)]
      refine ⟨l[i].2, l.drop (i + 1), by rw [List.drop_eq_getElem_cons hj, ← hk], High.append ?_ hCk⟩
      intro x hx
      have hs1 : Sorted (l.drop i) := hsl.sublist (List.drop_sublist _ _)
      rw [List.drop_eq_getElem_cons hj] at hs1
      have := (List.pairwise_cons.1 hs1).1 x hx
      rwa [hk] at this
    · rw [if_neg (by simpa using ht)]
      refine High.append ?_ hCk
      intro x hx
      rcases Nat.lt_or_ge i l.length with hj | hj
      · rw [List.drop_eq_getElem_cons hj] at hx hge
        have h0 := hge l[i] List.mem_cons_self
        have hlt : blt k l[i].1 = true := blt_of_not h0 (fun hk => ht ⟨hj, hk⟩)
        rcases List.mem_cons.1 hx with rfl | hx
        · exact hlt
        · have hs1 : Sorted (l.drop i) := hsl.sublist (List.drop_sublist _ _)
          rw [List.drop_eq_getElem_cons hj] at hs1
          exact blt_trans hlt ((List.pairwise_cons.1 hs1).1 x hx)
      · rw [List.drop_eq_nil_of_le hj] at hx; cases hx

end Gl
end
section
/- Plain: pages' first keys rise; so do a page's keys; what Set makes of the pages. -/
namespace Gl
theorem heads_rise {ps : List (List Ent)} (h : Pages ps) {i j : Nat} (hij : i < j) (hj : j < ps.length) : blt (head1 (ps[i]'(by omega))) (head1 ps[j]) = true := by
  obtain ⟨hne, hs⟩ := h
  have e : ps = ps.take (i + 1) ++ ps.drop (i + 1) := (List.take_append_drop _ _).symm
  have hfl : ps.flatten = (ps.take (i + 1)).flatten ++ (ps.drop (i + 1)).flatten := by conv => lhs; rw [e]; rw [List.flatten_append]
  rw [hfl] at hs
  have h3 := hs.append.2.2
  have hi : i < ps.length := by omega
  obtain ⟨x, xs, hx⟩ := List.exists_cons_of_ne_nil (hne ps[i] (List.getElem_mem hi))
  obtain ⟨y, ys, hy⟩ := List.exists_cons_of_ne_nil (hne ps[j] (List.getElem_mem hj))
  have m1 : x ∈ (ps.take (i + 1)).flatten := List.mem_flatten.2 ⟨ps[i], List.mem_take_iff_getElem.2 ⟨i, by omega, rfl⟩, by rw [hx]; simp⟩
  have m2 : y ∈ (ps.drop (i + 1)).flatten := List.mem_flatten.2 ⟨ps[j], List.mem_drop_iff_getElem.2 ⟨j - (i + 1), by omega, by congr 1; omega⟩, by rw [hy]; simp⟩
  simp only [head1, hx, hy, List.head?_cons, Option.map_some, Option.getD_some]
  exact h3 x m1 y m2
theorem keys_rise {ps : List (List Ent)} (h : Pages ps) {p : Nat} (hp : p < ps.length) {i j : Nat} (hij : i < j) (hj : j < ps[p].length) : blt (ps[p][i]'(by omega)).1 (ps[p][j]).1 = true := by
  have hs : Sorted ps[p] := h.2.sublist (List.sublist_flatten_of_mem (List.getElem_mem hp))
  exact List.pairwise_iff_getElem.1 hs i j (by omega) hj hij
theorem head1_get {ps : List (List Ent)} (h : Pages ps) {p : Nat} (hp : p < ps.length) : head1 ps[p] = (ps[p][0]'(List.length_pos_iff.2 (h.1 _ (List.getElem_mem hp)))).1 := by
  obtain ⟨x, xs, hx⟩ := List.exists_cons_of_ne_nil (h.1 ps[p] (List.getElem_mem hp))
  simp [head1, hx]
def key (l : List Ent) (q : Nat) : Bs := (l[q]?.getD ([], [])).1
theorem key_get {l : List Ent} {q : Nat} (hq : q < l.length) : key l q = (l[q]).1 := by simp [key, hq]
theorem key_rise {l : List Ent} (hs : Sorted l) {i j : Nat} (hij : i < j) (hj : j < l.length) : blt (key l i) (key l j) = true := by
  rw [key_get hj, key_get (by omega)]
  exact List.pairwise_iff_getElem.1 hs i j (by omega) hj hij
/-- where a key lies in a page, or would -/
def KeyPlace (l : List Ent) (k : Bs) (i : Nat) (f : Bool) : Prop := (f = true ↔ i < l.length ∧ key l i = k) ∧ i ≤ l.length ∧ (∀ j, j < i → blt (key l j) k = true) ∧ (∀ j, i ≤ j → j < l.length → blt (key l j) k = false)
/-- the page that a key belongs to -/
def PageOf (ps : List (List Ent)) (k : Bs) (p : Nat) : Prop := p < ps.length ∧ (∀ q, p < q → ∀ hq : q < ps.length, blt k (head1 ps[q]) = true) ∧ (p = 0 ∨ ∃ hp : p < ps.length, blt k (head1 ps[p]) = false)
theorem pageOf_mk {ps : List (List Ent)} {k : Bs} {a : Nat} (h0 : 0 < ps.length) (ha : a ≤ ps.length) (h5 : ∀ q, q < a → ∃ hq : q < ps.length, blt k (head1 ps[q]) = false) (h6 : ∀ q, a ≤ q → ∀ hq : q < ps.length, blt k (head1 ps[q]) = true) : PageOf ps k (a - 1) :=
  ⟨by omega, fun q hq hq2 => h6 q (by omega) hq2, by
    by_cases e : a = 0
    · exact .inl (by omega)
    · exact .inr (h5 (a - 1) (by omega))⟩
/-- the page in the middle is not behind the key -/
theorem low_heads {ps : List (List Ent)} {k : Bs} {m : Nat} (hg : Pages ps) (hm : m < ps.length) (h : blt k (head1 ps[m]) = false) : ∀ q, q < m + 1 → ∃ hq : q < ps.length, blt k (head1 ps[q]) = false := fun q hq => ⟨by omega, by
  by_cases e : q = m
  · subst e; exact h
  · cases hb : blt k (head1 (ps[q]'(by omega))) with
    | false => rfl
    | true => rw [blt_trans hb (heads_rise hg (by omega) hm)] at h; cases h⟩
theorem high_heads {ps : List (List Ent)} {k : Bs} {m : Nat} (hg : Pages ps) (hm : m < ps.length) (h : blt (head1 ps[m]) k = false) : ∀ q, m + 1 ≤ q → ∀ hq : q < ps.length, blt k (head1 ps[q]) = true := fun q hq hq2 => blt_of_le_of_lt h (heads_rise hg (by omega) hq2)
theorem high_heads' {ps : List (List Ent)} {k : Bs} {m : Nat} (hg : Pages ps) (hm : m < ps.length) (h : blt k (head1 ps[m]) = true) : ∀ q, m ≤ q → ∀ hq : q < ps.length, blt k (head1 ps[q]) = true := fun q hq hq2 => by
  by_cases e : q = m
  · subst e; exact h
  · exact blt_trans h (heads_rise hg (by omega) hq2)
theorem found_place {ps : List (List Ent)} {k : Bs} {p i : Nat} {f : Bool} (hg : Pages ps) (h : PageOf ps k p) (h' : KeyPlace (ps[p]'h.1) k i f) : Found ps k p i f := by
  obtain ⟨hp, h1, h2⟩ := h
  obtain ⟨g1, g2, g3, g4⟩ := h'
  have := found_of hg hp h1 (h2.imp id (fun ⟨_, h⟩ => h)) g2 (fun j hj => by rw [← key_get (by omega)]; exact g3 j hj) (fun j hj hj2 => by rw [← key_get hj2]; exact g4 j hj hj2)
  have e : decide (∃ hj : i < ps[p].length, (ps[p][i]).1 = k) = f := by
    rw [Bool.eq_iff_iff, decide_eq_true_eq, g1]
    exact ⟨fun ⟨hj, e⟩ => ⟨hj, by rw [key_get hj]; exact e⟩, fun ⟨hj, e⟩ => ⟨hj, by rw [← key_get hj]; exact e⟩⟩
  rw [e] at this
  exact this
theorem blt_nil (a : Bs) : blt a [] = false := by cases a <;> rfl

/-! what Set does to the pages -/
theorem flatten_at {ps : List (List Ent)} {p : Nat} (hp : p < ps.length) (l : List Ent) : (ps.set p l).flatten = (ps.take p).flatten ++ l ++ (ps.drop (p + 1)).flatten := by
  rw [List.set_eq_take_append_cons_drop, if_pos hp]
  simp
theorem flatten_self {ps : List (List Ent)} {p : Nat} (hp : p < ps.length) : ps.flatten = (ps.take p).flatten ++ ps[p] ++ (ps.drop (p + 1)).flatten := by
  have e : ps = ps.take p ++ ps[p] :: ps.drop (p + 1) := by rw [← List.drop_eq_getElem_cons hp, List.take_append_drop]
  calc ps.flatten = (ps.take p ++ ps[p] :: ps.drop (p + 1)).flatten := by rw [← e]
    _ = _ := by simp only [List.flatten_append, List.flatten_cons, List.append_assoc]
/-- found: put there -/
theorem set_old {ps : List (List Ent)} {k v : Bs} {p i : Nat} (hg : Pages ps) (h : Found ps k p i true) :
    ∃ (hp : p < ps.length) (hi : i < ps[p].length), (ps.set p (ps[p].set i (k, v))).flatten = put ps.flatten k v ∧ Pages (ps.set p (ps[p].set i (k, v))) ∧ (ps[p][i]).1 = k := by
  obtain ⟨A, X, Y, C, rfl, rfl, rfl, hlow, hh⟩ := h
  simp only [if_true] at hh
  obtain ⟨u, Y', rfl, hhigh⟩ := hh
  refine ⟨by simp, by simp, ?_⟩
  have e1 : (A ++ (X ++ (k, u) :: Y') :: C)[A.length] = X ++ (k, u) :: Y' := by simp
  simp only [e1]
  have e2 : (X ++ (k, u) :: Y').set X.length (k, v) = X ++ (k, v) :: Y' := by simp
  have e3 : (A ++ (X ++ (k, u) :: Y') :: C).set A.length (X ++ (k, v) :: Y') = A ++ (X ++ (k, v) :: Y') :: C := by simp
  have f : ∀ v, (A ++ (X ++ (k, v) :: Y') :: C).flatten = (A.flatten ++ X) ++ (k, v) :: (Y' ++ C.flatten) := fun v => by simp
  have hput : put (A ++ (X ++ (k, u) :: Y') :: C).flatten k v = (A.flatten ++ X) ++ (k, v) :: (Y' ++ C.flatten) := by rw [f]; exact put_old hlow hhigh
  have hs : Sorted ((A.flatten ++ X) ++ (k, v) :: (Y' ++ C.flatten)) := by
    have h2 := hg.2
    rw [f] at h2
    exact sorted_ins (sorted_rem h2) hlow hhigh
  rw [e2, e3, hput]
  refine ⟨f v, ⟨fun l hl => ?_, by rw [f]; exact hs⟩, by simp⟩
  rcases List.mem_append.1 hl with hl | hl
  · exact hg.1 l (List.mem_append_left _ hl)
  · rcases List.mem_cons.1 hl with rfl | hl
    · simp
    · exact hg.1 l (List.mem_append_right _ (List.mem_cons_of_mem _ hl))
/-- not found: put between -/
theorem set_new {ps : List (List Ent)} {k v : Bs} {p i : Nat} (hg : Pages ps) (h : Found ps k p i false) :
    ∃ (hp : p < ps.length), i ≤ ps[p].length ∧ (ps.set p (ps[p].take i ++ [(k, v)] ++ ps[p].drop i)).flatten = put ps.flatten k v ∧ Pages (ps.set p (ps[p].take i ++ [(k, v)] ++ ps[p].drop i)) ∧ (put ps.flatten k v).length = ps.flatten.length + 1 := by
  obtain ⟨A, X, Y, C, rfl, rfl, rfl, hlow, hh⟩ := h
  simp only [Bool.false_eq_true, if_false] at hh
  refine ⟨by simp, by simp, ?_⟩
  have e1 : (A ++ (X ++ Y) :: C)[A.length] = X ++ Y := by simp
  simp only [e1, List.take_left, List.drop_left]
  have e3 : (A ++ (X ++ Y) :: C).set A.length (X ++ [(k, v)] ++ Y) = A ++ (X ++ (k, v) :: Y) :: C := by simp
  have f : (A ++ (X ++ (k, v) :: Y) :: C).flatten = (A.flatten ++ X) ++ (k, v) :: (Y ++ C.flatten) := by simp
  have f0 : (A ++ (X ++ Y) :: C).flatten = (A.flatten ++ X) ++ (Y ++ C.flatten) := by simp
  have hput : put (A ++ (X ++ Y) :: C).flatten k v = (A.flatten ++ X) ++ (k, v) :: (Y ++ C.flatten) := by rw [f0]; exact put_new hlow hh
  have hs : Sorted ((A.flatten ++ X) ++ (k, v) :: (Y ++ C.flatten)) := by
    have h2 := hg.2
    rw [f0] at h2
    exact sorted_ins h2 hlow hh
  rw [e3, hput]
  refine ⟨f, ⟨fun l hl => ?_, by rw [f]; exact hs⟩, by rw [f0]; simp; omega⟩
  rcases List.mem_append.1 hl with hl | hl
  · exact hg.1 l (List.mem_append_left _ hl)
  · rcases List.mem_cons.1 hl with rfl | hl
    · simp
    · exact hg.1 l (List.mem_append_right _ (List.mem_cons_of_mem _ hl))
/-- a page that has become too long is two -/
theorem split_page {ps : List (List Ent)} {p h : Nat} (hp : p < ps.length) (hg : Pages ps) (h0 : 0 < h) (h1 : h < ps[p].length) :
    Pages (ps.take p ++ [ps[p].take h, ps[p].drop h] ++ ps.drop (p + 1)) ∧ (ps.take p ++ [ps[p].take h, ps[p].drop h] ++ ps.drop (p + 1)).flatten = ps.flatten := by
  have e : (ps.take p ++ [ps[p].take h, ps[p].drop h] ++ ps.drop (p + 1)).flatten = ps.flatten := by
    rw [flatten_self hp]; simp only [List.flatten_append, List.flatten_cons, List.flatten_nil, List.append_nil, List.append_assoc]
    rw [← List.append_assoc (List.take h _), List.take_append_drop]
  refine ⟨⟨fun l hl => ?_, by rw [e]; exact hg.2⟩, e⟩
  rcases List.mem_append.1 hl with hl | hl
  · rcases List.mem_append.1 hl with hl | hl
    · exact hg.1 l (List.mem_of_mem_take hl)
    · simp only [List.mem_cons, List.not_mem_nil, or_false] at hl
      rcases hl with rfl | rfl
      · intro e; have := congrArg List.length e; rw [List.length_take, List.length_nil] at this; omega
      · intro e; have := congrArg List.length e; rw [List.length_drop, List.length_nil] at this; omega
  · exact hg.1 l (List.mem_of_mem_drop hl)
theorem len_set {ps : List (List Ent)} {p : Nat} (hp : p < ps.length) (l : List Ent) : (ps.set p l).flatten.length + ps[p].length = ps.flatten.length + l.length := by
  rw [flatten_at hp, flatten_self hp]
  simp only [List.length_append]; omega
theorem pages_le {ps : List (List Ent)} (h : ∀ l ∈ ps, l ≠ []) : ps.length ≤ ps.flatten.length := by
  induction ps with
  | nil => simp
  | cons l ps ih =>
    have := ih (fun x hx => h x (List.mem_cons_of_mem _ hx))
    have h1 : 0 < l.length := List.length_pos_iff.2 (h l List.mem_cons_self)
    simp only [List.flatten_cons, List.length_append, List.length_cons]; omega
theorem split_shape (ps : List (List Ent)) {p : Nat} (hp : p < ps.length) (a b : List Ent) : ((ps.set p a).take (p + 1)) ++ [b] ++ ((ps.set p a).drop (p + 1)) = ps.take p ++ [a, b] ++ ps.drop (p + 1) := by
  have e : (ps.set p a).take (p + 1) = ps.take p ++ [a] := by
    rw [List.take_add_one, List.take_set_of_le (Nat.le_refl _)]
    simp [hp]
  rw [e, List.drop_set_of_lt (by omega)]
  simp
/-- the first entry -/
theorem put_nil (k v : Bs) : put [] k v = [(k, v)] := rfl
end Gl
end
section
/- Plain: entries as bytes; sizes. -/
namespace Gl
def rawB (x : Bs) : Bs := be 4 x.length ++ x
def dumpB (L : List Ent) : Bs := (L.map fun e => rawB e.1 ++ rawB e.2).flatten
def sz (L : List Ent) : Nat := (L.map fun e => 1 + e.1.length + e.2.length).sum
theorem sz_cons (e : Ent) (L : List Ent) : sz (e :: L) = 1 + e.1.length + e.2.length + sz L := rfl
theorem sz_append (A C : List Ent) : sz (A ++ C) = sz A + sz C := by simp [sz]
theorem sz_two (p q : Ent → Bool) (h : ∀ e, p e = true → q e = false) : ∀ L : List Ent, sz (L.filter p) + sz (L.filter q) ≤ sz L
  | [] => by simp [sz]
  | e :: L => by
    have ih := sz_two p q h L
    simp only [List.filter_cons]
    by_cases hp : p e = true
    · rw [if_pos hp, h e hp]; simp only [sz_cons, Bool.false_eq_true, if_false]; omega
    · rw [if_neg hp]
      split
      · simp only [sz_cons]; omega
      · simp only [sz_cons]; omega
theorem sz_put (L : List Ent) (k v : Bs) : sz (put L k v) ≤ sz L + (1 + k.length + v.length) := by
  have h : sz (L.filter fun e => blt e.1 k) + sz (L.filter fun e => blt k e.1) ≤ sz L := sz_two (fun e => blt e.1 k) (fun e => blt k e.1) (fun e he => blt_asymm he) L
  obtain ⟨A, hA⟩ : ∃ A, A = L.filter (fun e => blt e.1 k) := ⟨_, rfl⟩
  obtain ⟨C, hC⟩ : ∃ C, C = L.filter (fun e => blt k e.1) := ⟨_, rfl⟩
  have e : put L k v = A ++ (k, v) :: C := by rw [hA, hC]; rfl
  rw [← hA, ← hC] at h
  rw [e, sz_append, sz_cons]; dsimp only; omega
theorem length_le_sz : ∀ L : List Ent, L.length ≤ sz L
  | [] => Nat.le_refl _
  | e :: L => by have := length_le_sz L; simp only [sz_cons, List.length_cons]; omega
theorem dumpB_nil : dumpB [] = [] := rfl
theorem dumpB_cons (e : Ent) (L : List Ent) : dumpB (e :: L) = rawB e.1 ++ rawB e.2 ++ dumpB L := rfl
theorem dumpB_snoc (L : List Ent) (e : Ent) : dumpB (L ++ [e]) = dumpB L ++ rawB e.1 ++ rawB e.2 := by
  simp [dumpB]
theorem dumpB_length : ∀ L : List Ent, (dumpB L).length + sz L ≤ 9 * sz L
  | [] => by simp [dumpB_nil, sz]
  | e :: L => by
    have := dumpB_length L
    simp only [dumpB_cons, sz_cons, rawB, List.length_append, be_length]
    omega
theorem dumpB_append (A C : List Ent) : dumpB (A ++ C) = dumpB A ++ dumpB C := by simp [dumpB]
theorem Small.dumpB : ∀ {L : List Ent}, (∀ e ∈ L, Small e.1 ∧ Small e.2) → Small (dumpB L)
  | [], _ => fun _ h => by cases h
  | e :: L, h => by
    rw [dumpB_cons]
    have h1 := h e List.mem_cons_self
    exact (((be_small _ _).append h1.1).append ((be_small _ _).append h1.2)).append (Small.dumpB fun x hx => h x (List.mem_cons_of_mem _ hx))
theorem mem_put {L : List Ent} {k v : Bs} {e : Ent} (h : e ∈ put L k v) : e = (k, v) ∨ e ∈ L := by
  rw [put, List.mem_append, List.mem_cons] at h
  rcases h with h | h | h
  · exact .inr (List.mem_filter.1 h).1
  · exact .inl h
  · exact .inr (List.mem_filter.1 h).1
/-- the store that entries make: those that are no keys or values are passed over -/
def okEnt (e : Ent) : Bool := decide (1 ≤ e.1.length ∧ e.1.length ≤ 64 ∧ e.2.length ≤ 4096)
def putAll (L : List Ent) : List Ent → List Ent
  | [] => L
  | e :: l => putAll (if okEnt e then put L e.1 e.2 else L) l
theorem putAll_snoc (L : List Ent) (l : List Ent) (e : Ent) : putAll L (l ++ [e]) = if okEnt e then put (putAll L l) e.1 e.2 else putAll L l := by
  induction l generalizing L with
  | nil => rfl
  | cons x l ih => exact ih _
theorem sz_putAll (L l : List Ent) : sz (putAll L l) ≤ sz L + sz l := by
  induction l generalizing L with
  | nil => simp [putAll]
  | cons e l ih =>
    have := ih (if okEnt e then put L e.1 e.2 else L)
    have h2 : sz (if okEnt e then put L e.1 e.2 else L) ≤ sz L + (1 + e.1.length + e.2.length) := by
      split
      · exact sz_put _ _ _
      · omega
    rw [sz_cons]
    show sz (putAll _ l) ≤ _
    omega
end Gl
end
section
/- The map of pages as it lies in memory. -/
namespace Gl
open Go Go.RowKit

/-- a slice value that reads as the bytes, in blocks of D -/
def BV (D : Nat → Prop) (w : World) (v : Value) (bs : Bs) : Prop := ∃ A n c, v = .slice A n c ∧ By w A n c bs ∧ ∀ a, A = some a → 0 < n → D a.block
section
variable {D D' T : Nat → Prop} {w w' : World} {v : Value} {bs : Bs}
theorem BV.upd (h : BV D w v bs) (hu : Upd T w w') (hd : ∀ b, D b → ¬ T b) : BV D w' v bs := by
  obtain ⟨A, n, c, e, hb, ha⟩ := h
  exact ⟨A, n, c, e, hb.upd hu (fun a e h0 => hd _ (ha a e h0)), ha⟩
theorem BV.mono (h : BV D w v bs) (hd : ∀ b, D b → D' b) : BV D' w v bs := by
  obtain ⟨A, n, c, e, hb, ha⟩ := h
  exact ⟨A, n, c, e, hb, fun a e h0 => hd _ (ha a e h0)⟩
theorem BV.small (h : BV D w v bs) : Small bs := by
  obtain ⟨A, n, c, e, hb, ha⟩ := h
  exact hb.small
theorem BV.one {D : Nat → Prop} {w : World} {v : Value} {bs : Bs} (h : BV D w v bs) : v.oneCell' = true := by
  obtain ⟨A, n, c, rfl, hb, ha⟩ := h; rfl
theorem BV.of {A : Option Addr} {n c : Nat} (hb : By w A n c bs) : BV (fun b => b < w.heap.size) w (.slice A n c) bs :=
  ⟨A, n, c, rfl, hb, fun a e h0 => hb.sl.lt e h0⟩
theorem BV.lt (h : BV D w v bs) : BV (fun b => D b ∧ b < w.heap.size) w v bs := by
  obtain ⟨A, n, c, e, hb, ha⟩ := h
  exact ⟨A, n, c, e, hb, fun a e h0 => ⟨ha a e h0, hb.sl.lt e h0⟩⟩
end

/-- the cells of entries -/
def EntsAt (D : Nat → Prop) (w : World) : List Value → List Ent → Prop
  | [], [] => True
  | k :: v :: cs, e :: l => BV D w k e.1 ∧ BV D w v e.2 ∧ EntsAt D w cs l
  | _, _ => False
section
variable {D D' T : Nat → Prop} {w w' : World}
theorem EntsAt.length : ∀ {cs : List Value} {l : List Ent}, EntsAt D w cs l → cs.length = l.length * 2
  | [], [], _ => rfl
  | k :: v :: cs, e :: l, ⟨_, _, h⟩ => by simp [EntsAt.length h]; omega
  | [], _ :: _, h => h.elim
  | [_], [], h => h.elim
  | [_], _ :: _, h => h.elim
  | _ :: _ :: _, [], h => h.elim
theorem EntsAt.imp (hi : ∀ v bs, BV D w v bs → BV D' w' v bs) : ∀ {cs : List Value} {l : List Ent}, EntsAt D w cs l → EntsAt D' w' cs l
  | [], [], _ => trivial
  | k :: v :: cs, e :: l, ⟨a, b, h⟩ => ⟨hi _ _ a, hi _ _ b, EntsAt.imp hi h⟩
  | [], _ :: _, h => h.elim
  | [_], [], h => h.elim
  | [_], _ :: _, h => h.elim
  | _ :: _ :: _, [], h => h.elim
theorem EntsAt.append : ∀ {cs cs' : List Value} {l l' : List Ent}, EntsAt D w cs l → EntsAt D w cs' l' → EntsAt D w (cs ++ cs') (l ++ l')
  | [], _, [], _, _, h' => h'
  | k :: v :: cs, _, e :: l, _, ⟨a, b, h⟩, h' => ⟨a, b, EntsAt.append h h'⟩
  | [], _, _ :: _, _, h, _ => h.elim
  | [_], _, [], _, h, _ => h.elim
  | [_], _, _ :: _, _, h, _ => h.elim
  | _ :: _ :: _, _, [], _, h, _ => h.elim
theorem EntsAt.take : ∀ {cs : List Value} {l : List Ent} (i : Nat), EntsAt D w cs l → EntsAt D w (cs.take (i * 2)) (l.take i)
  | cs, l, 0, _ => by simp [EntsAt]
  | [], [], i + 1, _ => by simp [EntsAt]
  | k :: v :: cs, e :: l, i + 1, ⟨a, b, h⟩ => by
    rw [show (i + 1) * 2 = i * 2 + 1 + 1 by omega]
    exact ⟨a, b, EntsAt.take i h⟩
  | [], _ :: _, _ + 1, h => h.elim
  | [_], [], _ + 1, h => h.elim
  | [_], _ :: _, _ + 1, h => h.elim
  | _ :: _ :: _, [], _ + 1, h => h.elim
theorem EntsAt.drop : ∀ {cs : List Value} {l : List Ent} (i : Nat), EntsAt D w cs l → EntsAt D w (cs.drop (i * 2)) (l.drop i)
  | cs, l, 0, h => by simpa using h
  | [], [], i + 1, _ => by simp [EntsAt]
  | k :: v :: cs, e :: l, i + 1, ⟨a, b, h⟩ => by
    rw [show (i + 1) * 2 = i * 2 + 1 + 1 by omega]
    exact EntsAt.drop i h
  | [], _ :: _, _ + 1, h => h.elim
  | [_], [], _ + 1, h => h.elim
  | [_], _ :: _, _ + 1, h => h.elim
  | _ :: _ :: _, [], _ + 1, h => h.elim
theorem EntsAt.get : ∀ {cs : List Value} {l : List Ent} (i : Nat) {e : Ent}, EntsAt D w cs l → l[i]? = some e → ∃ k v, cs[i * 2]? = some k ∧ cs[i * 2 + 1]? = some v ∧ BV D w k e.1 ∧ BV D w v e.2
  | k :: v :: cs, e :: l, 0, e', ⟨a, b, h⟩, he => by
    simp at he; subst he
    exact ⟨k, v, rfl, rfl, a, b⟩
  | k :: v :: cs, e :: l, i + 1, e', ⟨a, b, h⟩, he => by
    rw [show (i + 1) * 2 = i * 2 + 1 + 1 by omega]
    simpa using EntsAt.get i h (by simpa using he)
  | [], [], _, _, _, he => by simp at he
  | [], _ :: _, _, _, h, _ => h.elim
  | [_], [], _, _, h, _ => h.elim
  | [_], _ :: _, _, _, h, _ => h.elim
  | _ :: _ :: _, [], _, _, h, _ => h.elim
theorem EntsAt.oneCells {cs : List Value} {l : List Ent} (h : EntsAt D w cs l) : ∀ u ∈ cs, u.oneCell' = true := by
  induction l generalizing cs with
  | nil => cases cs with
    | nil => intro u hu; cases hu
    | cons k cs => cases cs <;> exact h.elim
  | cons e l ih => cases cs with
    | nil => exact h.elim
    | cons k cs => cases cs with
      | nil => exact h.elim
      | cons v cs =>
        obtain ⟨a, b, h⟩ := h
        intro u hu
        simp only [List.mem_cons] at hu
        rcases hu with rfl | rfl | hu
        · exact a.one
        · exact b.one
        · exact ih h u hu
end

/-- a page: a row of its own -/
def PageAt (tE base : Nat) (D : Nat → Prop) (w : World) (v : Value) (l : List Ent) : Prop := ∃ cs, w.ownsRow base tE 2 v l.length cs ∧ EntsAt D w cs l

/-- the map's parts in memory: block bm; the row of pages; the pages; D: the blocks of the bytes -/
structure MapRaw (tE tP base : Nat) (w : World) (bm : Nat) (D : Nat → Prop) (A : Option Addr) (n c N : Nat) (vs : List Value) (ps : List (List Ent)) : Prop where
  blk : ∃ t, w.heap[bm]? = some (.cells #[.slice A n c, .int .i64 (N : Int)] t (0, 0))
  row : w.ownsRow base tP 1 (.slice A n c) n vs
  len : vs.length = ps.length
  page : ∀ (i : Nat) (v : Value) (l : List Ent), vs[i]? = some v → ps[i]? = some l → PageAt tE base D w v l
  inj : ∀ (i j : Nat) (v v' : Value), vs[i]? = some v → vs[j]? = some v' → i ≠ j → v.ownBlock ≠ v'.ownBlock
  away : ∀ (i : Nat) (v : Value) (b : Nat), vs[i]? = some v → v.ownBlock = some b → b ≠ bm ∧ (Value.slice A n c).ownBlock ≠ some b ∧ ¬ D b
  bmA : (Value.slice A n c).ownBlock ≠ some bm
  dm : ¬ D bm
  dA : ∀ b, (Value.slice A n c).ownBlock = some b → ¬ D b
  hb : base ≤ bm
  lim : ∀ b, D b → b < w.heap.size
structure MapIn (tE tP base : Nat) (w : World) (bm : Nat) (D : Nat → Prop) (A : Option Addr) (n c : Nat) (vs : List Value) (ps : List (List Ent)) : Prop extends MapRaw tE tP base w bm D A n c ps.flatten.length vs ps where
  good : Pages ps
  few : ∀ l ∈ ps, l.length ≤ 32

/-- all blocks of a map -/
def foot (bm : Nat) (D : Nat → Prop) (A : Option Addr) (n c : Nat) (vs : List Value) : Nat → Prop := fun b => b = bm ∨ (Value.slice A n c).ownBlock = some b ∨ (∃ v ∈ vs, v.ownBlock = some b) ∨ D b

/-- a map that reads as the pages, in blocks of F -/
def MapAt (tE tP base : Nat) (w : World) (bm : Nat) (F : Nat → Prop) (ps : List (List Ent)) : Prop :=
  ∃ D A n c vs, MapIn tE tP base w bm D A n c vs ps ∧ ∀ b, foot bm D A n c vs b → F b

section
variable {tE tP base bm n c : Nat} {w w' : World} {D F T : Nat → Prop} {A : Option Addr} {vs : List Value} {ps : List (List Ent)}
theorem PageAt.upd {v : Value} {l : List Ent} (h : PageAt tE base D w v l) (hu : Upd T w w') (hd : ∀ b, D b → ¬ T b) (hv : ∀ b, v.ownBlock = some b → ¬ T b) : PageAt tE base D w' v l := by
  obtain ⟨cs, h1, h2⟩ := h
  exact ⟨cs, ownsRow_keep h1 (fun b hb hl => hu.block b hl (hv b hb)), h2.imp fun v bs hb => hb.upd hu hd⟩
theorem PageAt.mono {D' : Nat → Prop} {v : Value} {l : List Ent} (h : PageAt tE base D w v l) (hd : ∀ b, D b → D' b) : PageAt tE base D' w v l := by
  obtain ⟨cs, h1, h2⟩ := h
  exact ⟨cs, h1, h2.imp fun v bs hb => hb.mono hd⟩
theorem PageAt.lt {v : Value} {l : List Ent} (h : PageAt tE base D w v l) {b : Nat} (hb : v.ownBlock = some b) : b < w.heap.size := by
  obtain ⟨cs, h1, _⟩ := h
  exact (ownsRow_lt h1 hb).1
section
variable {N : Nat}
theorem MapRaw.bm_lt (h : MapRaw tE tP base w bm D A n c N vs ps) : bm < w.heap.size := by
  obtain ⟨t, ht⟩ := h.blk
  exact (Array.getElem?_eq_some_iff.1 ht).1
theorem MapRaw.page_at (h : MapRaw tE tP base w bm D A n c N vs ps) {i : Nat} {v : Value} (hv : vs[i]? = some v) : ∃ l, ps[i]? = some l ∧ PageAt tE base D w v l := by
  have hi : i < ps.length := by rw [← h.len]; exact (List.getElem?_eq_some_iff.1 hv).1
  exact ⟨_, List.getElem?_eq_getElem hi, h.page i v _ hv (List.getElem?_eq_getElem hi)⟩
theorem MapRaw.foot_lt (h : MapRaw tE tP base w bm D A n c N vs ps) {b : Nat} (hb : foot bm D A n c vs b) : b < w.heap.size := by
  rcases hb with rfl | hb | ⟨v, hv, hb⟩ | hb
  · exact h.bm_lt
  · exact (ownsRow_lt h.row hb).1
  · obtain ⟨i, hi⟩ := List.getElem?_of_mem hv
    obtain ⟨l, _, hl⟩ := h.page_at hi
    exact hl.lt hb
  · exact h.lim b hb
theorem MapRaw.upd (h : MapRaw tE tP base w bm D A n c N vs ps) (hu : Upd T w w') (hf : ∀ b, foot bm D A n c vs b → ¬ T b) : MapRaw tE tP base w' bm D A n c N vs ps where
  blk := by
    obtain ⟨t, ht⟩ := h.blk
    exact ⟨t, (hu.block bm h.bm_lt (hf _ (.inl rfl))).trans ht⟩
  row := ownsRow_keep h.row (fun b hb hl => hu.block b hl (hf b (.inr (.inl hb))))
  len := h.len
  page i v l hv hl := (h.page i v l hv hl).upd hu (fun b hb => hf b (.inr (.inr (.inr hb)))) (fun b hb => hf b (.inr (.inr (.inl ⟨v, List.mem_of_getElem? hv, hb⟩))))
  inj := h.inj
  away := h.away
  bmA := h.bmA
  dm := h.dm
  dA := h.dA
  hb := h.hb
  lim b hb := Nat.lt_of_lt_of_le (h.lim b hb) hu.size
theorem MapRaw.n_eq (h : MapRaw tE tP base w bm D A n c N vs ps) : n = ps.length := by
  have := h.row.1
  rw [← h.len]; omega
theorem MapRaw.cell0 (h : MapRaw tE tP base w bm D A n c N vs ps) : w.cell? ⟨bm, 0, none⟩ = some (.slice A n c) := by
  obtain ⟨t, h⟩ := h.blk
  simp [World.cell?, h]
theorem MapRaw.cell1 (h : MapRaw tE tP base w bm D A n c N vs ps) : w.cell? ⟨bm, 1, none⟩ = some (.int .i64 (N : Int)) := by
  obtain ⟨t, h⟩ := h.blk
  simp [World.cell?, h]
theorem MapRaw.frozen (h : MapRaw tE tP base w bm D A n c N vs ps) (i : Nat) : w.frozen? ⟨bm, i, none⟩ = false := by
  obtain ⟨t, h⟩ := h.blk
  simp [World.frozen?, h]
/-- the blocks that a change of page p may write -/
def touch (bm : Nat) (A : Option Addr) (n c : Nat) (vs : List Value) (p : Nat) : Nat → Prop := fun b => b = bm ∨ (Value.slice A n c).ownBlock = some b ∨ ∃ v, vs[p]? = some v ∧ v.ownBlock = some b
/-- page p is another one -/
theorem MapRaw.page_set (h : MapRaw tE tP base w bm D A n c N vs ps) {p N' : Nat} {v' : Value} {l' : List Ent} {D' : Nat → Prop} (hp : p < ps.length) (hu : Upd (touch bm A n c vs p) w w')
    (hblk : ∃ t, w'.heap[bm]? = some (.cells #[.slice A n c, .int .i64 (N' : Int)] t (0, 0))) (hrow : w'.ownsRow base tP 1 (.slice A n c) n (vs.set p v'))
    (hD : ∀ b, D b → D' b) (hD2 : ∀ b, D' b → D b ∨ w.heap.size ≤ b) (hlim : ∀ b, D' b → b < w'.heap.size) (hpg : PageAt tE base D' w' v' l')
    (hown : ∀ b, v'.ownBlock = some b → (∃ v, vs[p]? = some v ∧ v.ownBlock = some b) ∨ w.heap.size ≤ b) (hnD : ∀ b, v'.ownBlock = some b → ¬ D' b) (hpos : v'.ownBlock ≠ none) :
    MapRaw tE tP base w' bm D' A n c N' (vs.set p v') (ps.set p l') := by
  have hpv : p < vs.length := by rw [h.len]; exact hp
  have hget : ∀ (i : Nat) (v : Value), (vs.set p v')[i]? = some v → (i = p ∧ v' = v) ∨ (i ≠ p ∧ vs[i]? = some v) := fun i v hv => by
    by_cases e : p = i
    · rw [List.getElem?_set, if_pos e, if_pos (e ▸ hpv)] at hv
      exact .inl ⟨e.symm, by cases hv; rfl⟩
    · rw [List.getElem?_set, if_neg e] at hv
      exact .inr ⟨fun e2 => e e2.symm, hv⟩
  have hAlt : ∀ b, (Value.slice A n c).ownBlock = some b → b < w.heap.size := fun b hb => (ownsRow_lt h.row hb).1
  have hne : ∀ b, v'.ownBlock = some b → b ≠ bm ∧ (Value.slice A n c).ownBlock ≠ some b := fun b hb => by
    rcases hown b hb with ⟨v, hv, e⟩ | hge
    · exact ⟨(h.away p v b hv e).1, (h.away p v b hv e).2.1⟩
    · exact ⟨fun e => by have := h.bm_lt; omega, fun e => by have := hAlt b e; omega⟩
  have hother : ∀ i v b, i ≠ p → vs[i]? = some v → v.ownBlock = some b → ¬ touch bm A n c vs p b := fun i v b hi hv e => by
    rintro (e2 | e2 | ⟨v2, hv2, e2⟩)
    · exact (h.away i v b hv e).1 e2
    · exact (h.away i v b hv e).2.1 e2
    · exact h.inj i p v v2 hv hv2 hi (e.trans e2.symm)
  have hDt : ∀ b, D b → ¬ touch bm A n c vs p b := fun b hb => by
    rintro (e2 | e2 | ⟨v2, hv2, e2⟩)
    · exact h.dm (e2 ▸ hb)
    · exact h.dA b e2 hb
    · exact (h.away p v2 b hv2 e2).2.2 hb
  exact {
    blk := hblk
    row := hrow
    len := by rw [List.length_set, List.length_set]; exact h.len
    page := fun i v l hv hl => by
      rcases hget i v hv with ⟨rfl, rfl⟩ | ⟨hi, hv⟩
      · rw [List.getElem?_set, if_pos rfl, if_pos hp] at hl
        cases hl; exact hpg
      · rw [List.getElem?_set, if_neg (Ne.symm hi)] at hl
        exact ((h.page i v l hv hl).upd hu hDt (fun b e => hother i v b hi hv e)).mono hD
    inj := fun i j v u hv hu2 hij e => by
      have one : ∀ (k : Nat) (x : Value), k ≠ p → vs[k]? = some x → v'.ownBlock ≠ x.ownBlock := fun k x hk hx e => by
        cases hb : v'.ownBlock with
        | none => exact hpos hb
        | some b =>
          rw [hb] at e
          rcases hown b hb with ⟨v2, hv2, e2⟩ | hge
          · exact h.inj k p x v2 hx hv2 hk (e.symm.trans e2.symm)
          · obtain ⟨l, _, hl⟩ := h.page_at hx
            have := hl.lt e.symm
            omega
      rcases hget i v hv with ⟨e1, e2⟩ | ⟨hi, hv3⟩
      · rcases hget j u hu2 with ⟨e3, _⟩ | ⟨hj, hu3⟩
        · exact hij (e1.trans e3.symm)
        · exact one j u hj hu3 (e2 ▸ e)
      · rcases hget j u hu2 with ⟨e3, e4⟩ | ⟨hj, hu3⟩
        · exact one i v hi hv3 (e4 ▸ e.symm)
        · exact h.inj i j v u hv3 hu3 hij e
    away := fun i v b hv e => by
      rcases hget i v hv with ⟨_, rfl⟩ | ⟨hi, hv⟩
      · exact ⟨(hne b e).1, (hne b e).2, hnD b e⟩
      · refine ⟨(h.away i v b hv e).1, (h.away i v b hv e).2.1, fun hd => ?_⟩
        rcases hD2 b hd with hd | hge
        · exact (h.away i v b hv e).2.2 hd
        · obtain ⟨l, _, hl⟩ := h.page_at hv
          have := hl.lt e
          omega
    bmA := h.bmA
    dm := fun hd => by
      rcases hD2 bm hd with hd | hge
      · exact h.dm hd
      · have := h.bm_lt; omega
    dA := fun b e hd => by
      rcases hD2 b hd with hd | hge
      · exact h.dA b e hd
      · have := hAlt b e; omega
    hb := h.hb
    lim := hlim }
/-- a page more -/
theorem MapRaw.page_ins (h : MapRaw tE tP base w bm D A n c N vs ps) {i c' N' : Nat} {A' : Option Addr} {v' : Value} {l' : List Ent} (hi : i ≤ ps.length) (hu : Upd (fun b => b = bm ∨ (Value.slice A n c).ownBlock = some b) w w')
    (hblk : ∃ t, w'.heap[bm]? = some (.cells #[.slice A' (n + 1) c', .int .i64 (N' : Int)] t (0, 0))) (hrow : w'.ownsRow base tP 1 (.slice A' (n + 1) c') (n + 1) (vs.take i ++ [v'] ++ vs.drop i))
    (hA : ∀ b, (Value.slice A' (n + 1) c').ownBlock = some b → (Value.slice A n c).ownBlock = some b ∨ w.heap.size ≤ b) (hpg : PageAt tE base D w v' l') {g' : Nat} (hg : v'.ownBlock = some g')
    (hgn : ∀ (j : Nat) (v : Value), vs[j]? = some v → v.ownBlock ≠ some g') (hgb : g' ≠ bm ∧ (Value.slice A n c).ownBlock ≠ some g' ∧ ¬ D g') :
    MapRaw tE tP base w' bm D A' (n + 1) c' N' (vs.take i ++ [v'] ++ vs.drop i) (ps.take i ++ [l'] ++ ps.drop i) := by
  have hiv : i ≤ vs.length := by rw [h.len]; exact hi
  have hget : ∀ {α : Type} (L : List α) (x : α) (j : Nat) (y : α), i ≤ L.length → (L.take i ++ [x] ++ L.drop i)[j]? = some y → (j = i ∧ x = y) ∨ (j < i ∧ L[j]? = some y) ∨ (i < j ∧ L[j - 1]? = some y) := fun L x j y hL hy => by
    rcases Nat.lt_trichotomy j i with hj | hj | hj
    · rw [List.append_assoc, List.getElem?_append_left (by rw [List.length_take]; omega), List.getElem?_take, if_pos hj] at hy
      exact .inr (.inl ⟨hj, hy⟩)
    · subst hj
      rw [List.append_assoc, List.getElem?_append_right (by rw [List.length_take]; omega), List.length_take, Nat.min_eq_left hL, Nat.sub_self] at hy
      exact .inl ⟨rfl, by simpa using hy⟩
    · rw [List.getElem?_append_right (by rw [List.length_append, List.length_take]; simp; omega), List.length_append, List.length_take, Nat.min_eq_left hL, List.getElem?_drop] at hy
      refine .inr (.inr ⟨hj, ?_⟩)
      rw [← hy]; congr 1; simp; omega
  have hback : ∀ (j : Nat) (v : Value), (vs.take i ++ [v'] ++ vs.drop i)[j]? = some v → v' = v ∨ ∃ q : Nat, vs[q]? = some v := fun j v hv => by
    rcases hget vs v' j v hiv hv with ⟨_, rfl⟩ | ⟨_, h⟩ | ⟨_, h⟩
    · exact .inl rfl
    · exact .inr ⟨_, h⟩
    · exact .inr ⟨_, h⟩
  have hglt := hpg.lt hg
  have hDt : ∀ b, D b → ¬ (b = bm ∨ (Value.slice A n c).ownBlock = some b) := fun b hb => by
    rintro (e2 | e2)
    · exact h.dm (e2 ▸ hb)
    · exact h.dA b e2 hb
  exact {
    blk := hblk
    row := hrow
    len := by simp [h.len]
    page := fun j v l hv hl => by
      have key : PageAt tE base D w v l := by
        rcases hget vs v' j v hiv hv with ⟨e1, rfl⟩ | ⟨e1, hv⟩ | ⟨e1, hv⟩ <;> rcases hget ps l' j l hi hl with ⟨e2, rfl⟩ | ⟨e2, hl⟩ | ⟨e2, hl⟩ <;> first | exact hpg | exact h.page _ _ _ hv hl | (exfalso; omega)
      refine key.upd hu hDt (fun b e => ?_)
      rcases hback j v hv with rfl | ⟨q, hq⟩
      · rw [hg] at e; cases e
        rintro (e2 | e2)
        · exact hgb.1 e2
        · exact hgb.2.1 e2
      · rintro (e2 | e2)
        · exact (h.away q v b hq e).1 e2
        · exact (h.away q v b hq e).2.1 e2
    inj := fun j k v u hv hu2 hjk e => by
      rcases hget vs v' j v hiv hv with ⟨e1, rfl⟩ | ⟨e1, hv⟩ | ⟨e1, hv⟩ <;> rcases hget vs v' k u hiv hu2 with ⟨e2, rfl⟩ | ⟨e2, hu2⟩ | ⟨e2, hu2⟩ <;>
        first
        | omega
        | exact hgn _ _ hu2 (e.symm.trans hg)
        | exact hgn _ _ hv (e.trans hg)
        | exact h.inj _ _ _ _ hv hu2 (by omega) e
    away := fun j v b hv e => by
      have hA2 : ∀ b, b < w.heap.size → (Value.slice A n c).ownBlock ≠ some b → (Value.slice A' (n + 1) c').ownBlock ≠ some b := fun b hb hn e => by
        rcases hA b e with e | hge
        · exact hn e
        · omega
      rcases hback j v hv with rfl | ⟨q, hq⟩
      · rw [hg] at e; cases e
        exact ⟨hgb.1, hA2 _ hglt hgb.2.1, hgb.2.2⟩
      · obtain ⟨l, _, hl⟩ := h.page_at hq
        exact ⟨(h.away q v b hq e).1, hA2 _ (hl.lt e) (h.away q v b hq e).2.1, (h.away q v b hq e).2.2⟩
    bmA := fun e => by
      rcases hA bm e with e | hge
      · exact h.bmA e
      · have := h.bm_lt; omega
    dm := h.dm
    dA := fun b e hd => by
      rcases hA b e with e | hge
      · exact h.dA b e hd
      · have := h.lim b hd; omega
    hb := h.hb
    lim := fun b hb => Nat.lt_of_lt_of_le (h.lim b hb) hu.size }
end
theorem MapIn.upd (h : MapIn tE tP base w bm D A n c vs ps) (hu : Upd T w w') (hf : ∀ b, foot bm D A n c vs b → ¬ T b) : MapIn tE tP base w' bm D A n c vs ps :=
  ⟨h.toMapRaw.upd hu hf, h.good, h.few⟩
theorem MapAt.upd (h : MapAt tE tP base w bm F ps) (hu : Upd T w w') (hf : ∀ b, F b → ¬ T b) : MapAt tE tP base w' bm F ps := by
  obtain ⟨D, A, n, c, vs, h1, h2⟩ := h
  exact ⟨D, A, n, c, vs, h1.upd hu (fun b hb => hf b (h2 b hb)), h2⟩
/-- page i's slice, and its cells -/
theorem MapIn.at (h : MapIn tE tP base w bm D A n c vs ps) {i : Nat} (hi : i < ps.length) : ∃ g gp cp cs, A = some ⟨g, 0, none⟩ ∧ vs[i]? = some (.slice (some ⟨gp, 0, none⟩) ps[i].length cp) ∧ w.cell? ⟨g, i, none⟩ = some (.slice (some ⟨gp, 0, none⟩) ps[i].length cp) ∧
    w.ownsRow base tE 2 (.slice (some ⟨gp, 0, none⟩) ps[i].length cp) ps[i].length cs ∧ EntsAt D w cs ps[i] ∧ 0 < ps[i].length := by
  have hvl : i < vs.length := by rw [h.len]; exact hi
  have hv : vs[i]? = some vs[i] := List.getElem?_eq_getElem hvl
  obtain ⟨cs, h1, h2⟩ := h.page i _ _ hv (List.getElem?_eq_getElem hi)
  have hne : ps[i] ≠ [] := h.good.1 _ (List.getElem_mem hi)
  have hpos : 0 < ps[i].length := List.length_pos_iff.2 hne
  obtain ⟨g, cap, cur, e1, e2, e3, e4, e5, e6, e7⟩ : ∃ g cap cur, vs[i] = .slice (some ⟨g, 0, none⟩) ps[i].length cap ∧ base ≤ g ∧ w.heap[g]? = some (.cells cur tE (0, 0)) ∧ ps[i].length ≤ cap ∧ cap ≤ maxLen ∧ cur.size = cap * 2 ∧ cur.toList.take (ps[i].length * 2) = cs := by
    rcases h1.2 with ⟨_, h0⟩ | h0
    · omega
    · exact h0
  have hrow := Sl.of_own h.row
  have hn := h.toMapRaw.n_eq
  obtain ⟨g', off, eA, hr⟩ := hrow.row (by omega)
  have hoff : off = 0 := by
    rcases h.row.2 with ⟨e, _⟩ | ⟨g2, cap2, cur2, e, _⟩
    · cases e; cases eA
    · rw [eA] at e; injection e with e; injection e with e; injection e
  subst hoff
  refine ⟨g', g, cap, cs, eA, by rw [hv, e1], ?_, by rw [← e1]; exact h1, h2, hpos⟩
  have := hr.2 i _ (by rw [hv, e1])
  simpa using this
theorem Sl.cell {k : Nat} {A : Option Addr} {n c : Nat} {xs : List Value} (h : Sl k w A n c xs) {b off : Nat} (hA : A = some ⟨b, off, none⟩) {i : Nat} {v : Value} (hv : xs[i]? = some v) : w.cell? ⟨b, off + i, none⟩ = some v := by
  have hn : 0 < n := by
    rcases Nat.eq_zero_or_pos n with h0 | h0
    · have := h.len; rw [h0] at this
      have : xs = [] := List.eq_nil_of_length_eq_zero (by simpa using this)
      subst this; simp at hv
    · exact h0
  obtain ⟨b', off', e, hr⟩ := h.row hn
  rw [hA] at e
  injection e with e
  injection e with e1 e2
  subst e1 e2
  exact hr.2 i v hv
/-- the entries of a page, cell by cell -/
theorem page_cells {g cp m : Nat} {cs : List Value} {l : List Ent} (h : w.ownsRow base tE 2 (.slice (some ⟨g, 0, none⟩) m cp) m cs) (he : EntsAt D w cs l) {i : Nat} {e : Ent} (hi : l[i]? = some e) :
    ∃ k v, w.cell? ⟨g, i * 2, none⟩ = some k ∧ w.cell? ⟨g, i * 2 + 1, none⟩ = some v ∧ BV D w k e.1 ∧ BV D w v e.2 := by
  obtain ⟨k, v, h1, h2, h3, h4⟩ := he.get i hi
  have hs := Sl.of_own h
  exact ⟨k, v, by simpa using hs.cell rfl h1, by simpa using hs.cell rfl h2, h3, h4⟩
end
end Gl
end
section
/- Worlds: a letter for the world; stores into rows of one's own and into blocks that are known. -/
namespace Gl
open Go Go.RowKit
theorem letW {P : Program} {c : Code} {Q : Exit → Act → World → Prop} {a : Act} {w : World} (R : World → Prop) (h0 : R w) (h : ∀ W, R W → Code.wp P c Q a W) : Code.wp P c Q a w := h w h0
theorem setCell_at {w : World} {b i : Nat} {cs : Array Value} {t : TypeId} {fr : Nat × Nat} (h : w.heap[b]? = some (.cells cs t fr)) (v : Value) : (w.setCell ⟨b, i, none⟩ v).heap[b]? = some (.cells (cs.setIfInBounds i v) t fr) := by
  simp [World.setCell, Array.getElem?_modify, h]
theorem setCell_not {w : World} {b c i : Nat} (v : Value) (h : c ≠ b) : (w.setCell ⟨b, i, none⟩ v).heap[c]? = w.heap[c]? := by
  simp only [World.setCell, Array.getElem?_modify]
  rw [if_neg (Ne.symm h)]
theorem heap_alloc_lt {w : World} {b : Nat} (o : Obj) (hl : b < w.heap.size) : (w.alloc o).heap[b]? = w.heap[b]? := by
  show (w.heap.push o)[b]? = w.heap[b]?
  rw [Array.getElem?_push_lt hl]; simp [hl]
theorem cell_alloc {w : World} {a : Addr} {v : Value} (o : Obj) (h : w.cell? a = some v) : (w.alloc o).cell? a = some v :=
  (World.cell?_of_block (heap_alloc_lt o (World.block_lt_of_cell? w a h))).trans h
theorem frozen_alloc {w : World} {a : Addr} (o : Obj) (hl : a.block < w.heap.size) (h : w.frozen? a = false) : (w.alloc o).frozen? a = false := (World.frozen?_of_block (by
  show (w.heap.push o)[a.block]? = w.heap[a.block]?
  rw [Array.getElem?_push_lt hl]; simp [hl])).trans h
theorem ownsRow_set {w : World} {base g n c i k : Nat} {e : TypeId} {vs : List Value} (h : w.ownsRow base e k (.slice (some ⟨g, 0, none⟩) n c) n vs) (hi : i < n * k) (v : Value) : (w.setCell ⟨g, i, none⟩ v).ownsRow base e k (.slice (some ⟨g, 0, none⟩) n c) n (vs.set i v) := by
  have hl := h.1
  rcases h.2 with ⟨e, _⟩ | ⟨g', cap, cur, e, h2, h3, h4, h5, h6, h7⟩
  · cases e
  · cases e
    refine ⟨by rw [List.length_set]; exact hl, .inr ⟨g, c, cur.setIfInBounds i v, rfl, h2, setCell_at h3 v, h4, h5, by simpa using h6, ?_⟩⟩
    rw [← h7, Array.toList_setIfInBounds, List.take_set]
theorem EntsAt.set {D : Nat → Prop} {w : World} {cs : List Value} {l : List Ent} (h : EntsAt D w cs l) {i : Nat} (hi : i < l.length) {k v : Value} {e : Ent} (hk : BV D w k e.1) (hv : BV D w v e.2) : EntsAt D w ((cs.set (i * 2) k).set (i * 2 + 1) v) (l.set i e) := by
  induction l generalizing cs i with
  | nil => simp at hi
  | cons x l ih =>
    cases cs with
    | nil => exact h.elim
    | cons a cs => cases cs with
      | nil => exact h.elim
      | cons b cs =>
        obtain ⟨h1, h2, h3⟩ := h
        cases i with
        | zero => exact ⟨hk, hv, h3⟩
        | succ i =>
          rw [show (i + 1) * 2 = i * 2 + 1 + 1 by omega]
          exact ⟨h1, h2, ih h3 (by simpa using hi)⟩
theorem cell_of {w : World} {b : Nat} {cs : Array Value} {t : TypeId} {fr : Nat × Nat} (h : w.heap[b]? = some (.cells cs t fr)) (i : Nat) (v : Value) (hv : cs[i]? = some v) : w.cell? ⟨b, i, none⟩ = some v := by
  simp [World.cell?, h, hv]
theorem frozen_of {w : World} {b : Nat} {cs : Array Value} {t : TypeId} (h : w.heap[b]? = some (.cells cs t (0, 0))) (i : Nat) : w.frozen? ⟨b, i, none⟩ = false := by
  simp [World.frozen?, h]
theorem own_blk {w : World} {base g n c k : Nat} {e : TypeId} {xs : List Value} (h : w.ownsRow base e k (.slice (some ⟨g, 0, none⟩) n c) n xs) : ∃ cur, w.heap[g]? = some (.cells cur e (0, 0)) ∧ cur.toList.take (n * k) = xs ∧ base ≤ g ∧ n ≤ c ∧ c ≤ maxLen ∧ cur.size = c * k := by
  rcases h.2 with ⟨e, _⟩ | ⟨g', cap, cur, e, h2, h3, h4, h5, h6, h7⟩
  · cases e
  · cases e; exact ⟨cur, h3, h7, h2, h4, h5, h6⟩
theorem own_frozen {w : World} {base g n c k : Nat} {e : TypeId} {xs : List Value} (h : w.ownsRow base e k (.slice (some ⟨g, 0, none⟩) n c) n xs) (i : Nat) : w.frozen? ⟨g, i, none⟩ = false := by
  obtain ⟨cur, h1, _⟩ := own_blk h
  exact frozen_of h1 i
theorem Sl.sub {w : World} {g n c k a b : Nat} {xs : List Value} (h : Sl k w (some ⟨g, 0, none⟩) n c xs) (hab : a + b ≤ n) : Sl k w (some ⟨g, a * k, none⟩) b (c - a) ((xs.drop (a * k)).take (b * k)) := by
  have hl := h.len
  have h1 : b * k ≤ n * k - a * k := by rw [← Nat.sub_mul]; exact Nat.mul_le_mul_right _ (by omega)
  refine ⟨by rw [List.length_take, List.length_drop, hl]; omega, by have := h.le; omega, by have := h.max; omega, fun hb => ?_, fun e => by cases e⟩
  obtain ⟨g', o, e, hr⟩ := h.row (by omega)
  cases e
  refine ⟨g, a * k, rfl, ?_⟩
  have := (hr.drop (a * k)).take (b * k)
  rwa [Nat.zero_add] at this
end Gl
end
section
namespace Gl
open Go Go.RowKit Go.Lib
/-- bytes in order: -1, 0, 1 -/
def cmpN (a b : Bs) : Int := if blt a b then -1 else if blt b a then 1 else 0
theorem cmpN_lt {a b : Bs} : cmpN a b = -1 ↔ blt a b = true := by
  unfold cmpN; split
  · simp [*]
  · split <;> simp [*]
theorem cmpN_gt {a b : Bs} : cmpN a b = 1 ↔ blt b a = true := by
  unfold cmpN; split
  · rename_i h; simp [blt_asymm h]
  · split <;> simp [*]
theorem cmpN_eq {a b : Bs} : cmpN a b = 0 ↔ a = b := by
  unfold cmpN; split
  · rename_i h; simp [blt_ne h]
  · rename_i h; split
    · rename_i h2; simp [Ne.symm (blt_ne h2)]
    · rename_i h2; simpa using blt_tri (by simpa using h) (by simpa using h2)
theorem cmpN_three (a b : Bs) : cmpN a b = -1 ∨ cmpN a b = 0 ∨ cmpN a b = 1 := by
  unfold cmpN; split
  · exact .inl rfl
  · split <;> simp
theorem compareBytes_cmpN : ∀ {a b : Bs}, Small a → Small b → compareBytes (a.map fun n => UInt8.ofNat n) (b.map fun n => UInt8.ofNat n) = cmpN a b
  | [], [], _, _ => rfl
  | [], _ :: _, _, _ => rfl
  | _ :: _, [], _, _ => rfl
  | x :: a, y :: b, ha, hb => by
    have hx := ha x List.mem_cons_self
    have hy := hb y List.mem_cons_self
    have ih := compareBytes_cmpN (a := a) (b := b) (fun z hz => ha z (List.mem_cons_of_mem _ hz)) (fun z hz => hb z (List.mem_cons_of_mem _ hz))
    have h1 : (UInt8.ofNat x < UInt8.ofNat y) ↔ x < y := by rw [UInt8.lt_iff_toNat_lt]; simp [UInt8.toNat_ofNat']; omega
    have h2 : (UInt8.ofNat y < UInt8.ofNat x) ↔ y < x := by rw [UInt8.lt_iff_toNat_lt]; simp [UInt8.toNat_ofNat']; omega
    simp only [List.map_cons, compareBytes, h1, h2, ih]
    rw [show cmpN (x :: a) (y :: b) = if blt (x :: a) (y :: b) then -1 else if blt (y :: b) (x :: a) then 1 else 0 from rfl]
    simp only [blt]
    by_cases hxy : x < y
    · simp [hxy]
    · by_cases hyx : y < x
      · simp [hxy, hyx]
      · simp [hxy, hyx, cmpN]
theorem bytesOf_by {P : Program} {w : World} {A : Option Addr} {n c : Nat} {bs : Bs} (h : By w A n c bs) : ∃ r : ByteArray, (Extern.Bytes.bytesOf (.slice A n c)).run P w = .ok r w ∧ r.data.toList = bs.map fun n => UInt8.ofNat n := by
  have hlen := h.len
  cases A with
  | none =>
    have hc := h.sl.nil rfl
    have hn : n = 0 := by have := h.sl.le; omega
    subst hn
    have : bs = [] := List.length_eq_zero_iff.1 hlen
    subst this
    exact ⟨.empty, rfl, rfl⟩
  | some a =>
    rcases Nat.eq_zero_or_pos n with h0 | h0
    · subst h0
      have : bs = [] := List.length_eq_zero_iff.1 hlen
      subst this
      exact ⟨.empty, rfl, rfl⟩
    · obtain ⟨b, off, e, hr⟩ := h.sl.row h0
      cases e
      obtain ⟨r, h1, h2⟩ := Ex.loadBytes_run (P := P) w b (bs.map fun n : Nat => (n : Int)) off .empty (fun j v hv => hr.2 j v (by rw [List.map_map] at hv; exact hv))
      rw [List.length_map, hlen] at h1
      refine ⟨r, h1, ?_⟩
      rw [h2, show ByteArray.empty.data.toList = [] from rfl, List.nil_append, List.map_map]
      rfl
theorem cmp_by {P : Program} {w : World} {A A' : Option Addr} {n c n' c' : Nat} {xs ys : Bs} (ha : By w A n c xs) (hb : By w A' n' c' ys) :
    (Extern.BytealgCompare.compare #[.slice A n c, .slice A' n' c']).run P w = .ok (.int .i64 (cmpN xs ys)) w := by
  obtain ⟨r, h1, h2⟩ := bytesOf_by (P := P) ha
  obtain ⟨s, h3, h4⟩ := bytesOf_by (P := P) hb
  show (do pure (goInt (Extern.BytealgCompare.cmp (← Extern.Bytes.bytesOf (.slice A n c)) (← Extern.Bytes.bytesOf (.slice A' n' c')))) : Sem Value).run P w = _
  simp only [Sem.run_bind, h1, h3, Result.andThen, Sem.run_pure]
  rw [cmp_eq, h2, h4, compareBytes_cmpN ha.small hb.small]
  rfl
end Gl
end
section
/- Ranges over a function: an iterator that may write cells of its own between rounds. -/
namespace Gl
open Go Go.RowKit

abbrev FW : Fence := Fence.wide
/-- what is said still holds when blocks of S (and new ones) have turned -/
def Abide {β : Type} (S : Nat → Prop) (J : β → World → Prop) : Prop := ∀ s A B, J s A → Upd S A B → J s B
theorem Abide.mono {β : Type} {S S' : Nat → Prop} {J : β → World → Prop} (h : Abide S' J) (hs : ∀ b, S b → S' b) : Abide S J := fun s A B hj hu => h s A B hj (hu.mono (fun c _ hc => hs c hc))
theorem Upd.putObj {S : Nat → Prop} (w : World) {r : Nat} (o : Obj) (hs : S r) : Upd S w (w.putObj r o) :=
  ⟨rfl, rfl, rfl, by simp, fun c _ hn => World.putObj_heap_other (fun e => hn (e ▸ hs))⟩

/-- blocks of S, and those that lie from b on below z -/
def Priv (S : Nat → Prop) (b z : Nat) : Nat → Prop := fun c => S c ∨ (b ≤ c ∧ c < z)
/-- what a round leaves as it was: the iterator's own blocks, and those laid since J was seen last -/
def Kept (b z c : Nat) (W W' : World) : Prop := W.heap.size ≤ W'.heap.size ∧ ∀ k, (b ≤ k ∧ k < z) ∨ (c ≤ k ∧ k < W.heap.size) → W'.heap[k]? = W.heap[k]?
/-- An iterator gives the elements of L in order; between rounds it writes blocks of S, and its own ones, laid ahead of the first round (below Z); it asks Kp of the world. E: what it hands out for an element, since the world in which J was seen last. -/
def Gives (P : Program) {α : Type} (g : Nat) (lb : Array Value) (E : α → World → World → Array Value → Prop) (S : Nat → Prop) (Kp : World → Prop) (L : List α) : Prop :=
  ∀ (l : Nat) (J Jx : Nat → List α → World → Prop) (W : World), (∀ Z, Abide (Priv S W.heap.size Z) (J Z)) → (∀ Z, Abide (Priv S W.heap.size Z) (Jx Z)) → Kp W → (∀ Z, J Z [] W) →
    (∀ Z pre x W0 W1 vals, (∃ post, L = pre ++ x :: post) → W.heap.size ≤ Z → Z ≤ W0.heap.size → J Z pre W0 → Upd (Priv S W.heap.size Z) W0 W1 → E x W0 W1 vals → Kp W1 → YieldAt FW 0 P l vals W1 fun e W' =>
      Kept W.heap.size Z W0.heap.size W1 W' ∧ Kp W' ∧ ((e = .returned (.bool true) ∧ J Z (pre ++ [x]) W') ∨ (e = .returned (.bool false) ∧ Jx Z (pre ++ [x]) W'))) →
    Calls P g (#[.func (.yield l) #[] #[]] ++ lb) W fun e W' => (∃ v, e = .returned v) ∧ ∃ Z, W.heap.size ≤ Z ∧ Z ≤ W'.heap.size ∧ (J Z L W' ∧ Kp W' ∨ ∃ pre x post, L = pre ++ x :: post ∧ Jx Z (pre ++ [x]) W')

/-- how the body of a round may be left: d, d + 1: the block for deferred calls, the loop's record -/
def roundEnd {α : Type} (d Z c : Nat) (Kp : World → Prop) (I : List α → World → Prop) (Ix : Code → List α → World → Prop) (xs : List α) (W : World) : Exit → Act → World → Prop
  | .normal, _, W' => (W'.heap[d]? = W.heap[d]? ∧ W'.heap[d + 1]? = W.heap[d + 1]? ∧ Kept (d + 2) Z c W W') ∧ Kp W' ∧ I xs W'
  | .ret, _, W' => (W'.heap[d]? = W.heap[d]? ∧ W'.heap[d + 1]? = W.heap[d + 1]? ∧ Kept (d + 2) Z c W W') ∧ Kp W' ∧ Ix .ret xs W'
  | .exit id, _, W' => (W'.heap[d]? = W.heap[d]? ∧ W'.heap[d + 1]? = W.heap[d + 1]? ∧ Kept (d + 2) Z c W W') ∧ Kp W' ∧ Ix (.exit id) xs W'
  | .goto t, _, W' => (W'.heap[d]? = W.heap[d]? ∧ W'.heap[d + 1]? = W.heap[d + 1]? ∧ Kept (d + 2) Z c W W') ∧ Kp W' ∧ Ix (.goto t) xs W'
  | .panic _, _, _ => False
  | .outgrown, _, _ => False

theorem range_out {P : Program} {n : Nat} {α : Type} {g : Operand} {ps : Array Tmp} {assign body : Code} {Q : Exit → Act → World → Prop} {a : Act} {w : World}
    {gf : Nat} {lb : Array Value} (hg : a.eval g = .func (.func gf) #[] lb) (eg : ∀ args w, (callFunc gf args).run P w = .ok (.enter gf args) w)
    {E : α → World → World → Array Value → Prop} {S : Nat → Prop} {Kp : World → Prop} {L : List α} (hseq : Gives P gf lb E S Kp L) (hps : ∀ x W0 W1 vals, E x W0 W1 vals → vals.size = ps.size)
    (hS : ∀ b, S b → b < w.heap.size) (hK : ∀ A B, Kp A → Upd (fun b => w.heap.size ≤ b) A B → Kp B) (hKw : Kp w)
    (hE : ∀ x W0 A B vals, w.heap.size + 2 ≤ W0.heap.size → E x W0 A vals → New A B ∨ Upd (fun b => b = w.heap.size + 1) A B → E x W0 B vals)
    (I : Nat → List α → World → Prop) (Ix : Nat → Code → List α → World → Prop)
    (hI : ∀ Z, w.heap.size + 2 ≤ Z → Abide (Priv S w.heap.size Z) (I Z)) (hIx : ∀ Z c, w.heap.size + 2 ≤ Z → Abide (Priv S w.heap.size Z) (Ix Z c)) (h0 : ∀ Z, w.heap.size + 2 ≤ Z → I Z [] w)
    (Ax : World → Array Value → Act → World → Prop) (hAx : ∀ W0 vals a' A B, Ax W0 vals a' A → Upd (fun b => b = w.heap.size + 1) A B → Ax W0 vals a' B)
    (hassign : ∀ (l : Nat) (x : α) (W0 W : World) (vals : Array Value) (K : Act → World → Prop), (∃ pre post, L = pre ++ x :: post) → w.heap.size + 2 ≤ W.heap.size → W0.heap.size ≤ W.heap.size → E x W0 W vals → Kp W → (∀ a' W', New W W' → Ax W0 vals a' W' → K a' W') →
      assign.wpIn (FW.inRound l) 0 P (Exit.then K (fun _ _ _ => False)) { tmps := (ps.zip vals).foldl (fun t (p, v) => t.setIfInBounds p v) a.tmps, defers := [] } W)
    (hbody : ∀ (Z : Nat) (pre : List α) (x : α) (W0 W : World) (vals : Array Value) (a' : Act), (∃ post, L = pre ++ x :: post) → w.heap.size + 2 ≤ Z → Z ≤ W0.heap.size → I Z pre W0 → Upd (Priv S w.heap.size Z) W0 W → E x W0 W vals → Ax W0 vals a' W → Kp W → body.wpIn (FW.inRound (w.heap.size + 1)) 0 P (roundEnd w.heap.size Z W0.heap.size Kp (I Z) (Ix Z) (pre ++ [x]) W) a' W)
    (hdone : ∀ (Z : Nat) (W : World), w.heap.size + 2 ≤ Z → Z ≤ W.heap.size → I Z L W → W.heap[w.heap.size]? = some (.deferred (some [])) → Kp W → Q .normal { a with defers := { target := .collected w.heap.size, args := #[] } :: a.defers } W)
    (hstop : ∀ (Z : Nat) (c : Code) (pre : List α) (x : α) (post : List α) (W : World), w.heap.size + 2 ≤ Z → Z ≤ W.heap.size → L = pre ++ x :: post → Ix Z c (pre ++ [x]) W → W.heap[w.heap.size]? = some (.deferred (some [])) → c.wpIn FW n P Q { a with defers := { target := .collected w.heap.size, args := #[] } :: a.defers } W) :
    (Code.rangeFunc g ps assign body).wpIn FW n P Q a w := by
  refine wpIn_rangeFunc ?_
  intro fn hfn
  rw [show FW.round = none from rfl]
  obtain ⟨rec, hrec⟩ : ∃ rec : LoopState → Option Code → Loop, rec = fun st pe => { state := st, pending := pe, fn, tmps := a.tmps, params := ps, assign, body, defers := w.heap.size } := ⟨_, rfl⟩
  obtain ⟨W1, hW1⟩ : ∃ W1, (w.alloc (.deferred (some []))).alloc (.loop (rec .ready none)) = W1 := ⟨_, rfl⟩
  have hL1 : W1.heap[w.heap.size + 1]? = some (.loop (rec .ready none)) := by
    rw [← hW1]; have := World.alloc_heap_new (w.alloc (.deferred (some []))) (.loop (rec .ready none)); rwa [World.size_alloc] at this
  have hK1 : W1.heap[w.heap.size]? = some (.deferred (some [])) := by
    rw [← hW1]; exact (Below.heap_alloc _ _ _ (by simp)).trans (World.alloc_heap_new w _)
  have hU1 : ∀ T : Nat → Prop, Upd T w W1 := fun T => by
    rw [← hW1]; exact (Upd.alloc T w _).trans (Upd.alloc T _ _)
  have hI1 : ∀ Z, w.heap.size + 2 ≤ Z → I Z [] W1 := fun Z hZ => hI Z hZ _ _ _ (h0 Z hZ) (hU1 _)
  have hs1 : w.heap.size + 2 ≤ W1.heap.size := by rw [← hW1]; simp
  have hs2 : W1.heap.size = w.heap.size + 2 := by rw [← hW1]; simp
  have hKp1 : Kp W1 := hK _ _ hKw (hU1 _)
  have hnS0 : ¬ S w.heap.size := fun h => by have := hS _ h; omega
  have hnS1 : ¬ S (w.heap.size + 1) := fun h => by have := hS _ h; omega
  refine ⟨w.heap.size + 1, [{ target := .collected w.heap.size, args := #[] }], W1, { target := .fn (.func gf) lb, args := #[.func (.yield (w.heap.size + 1)) #[] #[]] }, W1, gf,
    #[.func (.yield (w.heap.size + 1)) #[] #[]] ++ lb, W1, ?_, ?_, ?_, ?_, fun h => by simp [Fence.wide] at h, ?_⟩
  · rw [← hW1, hrec]; exact run_enterLoop_outer _ _ _ _ _
  · simp only [resolve, hg]
    simp [go_sem]
  · intro f' hf'; trivial
  · simp [invoke, go_sem, eg]
  · refine callsIn_wide.2 ?_
    refine (hseq (w.heap.size + 1)
      (fun Z pre W => I (max Z (w.heap.size + 2)) pre W ∧ W.heap[w.heap.size + 1]? = some (.loop (rec .ready none)) ∧ W.heap[w.heap.size]? = some (.deferred (some [])) ∧ w.heap.size + 2 ≤ W.heap.size)
      (fun Z pre W => ∃ c, Ix (max Z (w.heap.size + 2)) c pre W ∧ W.heap[w.heap.size + 1]? = some (.loop (rec .done (some c))) ∧ W.heap[w.heap.size]? = some (.deferred (some [])) ∧ w.heap.size + 2 ≤ W.heap.size)
      W1 (fun Z s A B hs hu => ⟨hI _ (by omega) s A B hs.1 (hu.mono (fun c _ hc => hc.imp id (fun hc => ⟨by omega, by omega⟩))), (hu.block _ (by have := hs.2.2.2; omega) (fun h => h.elim hnS1 (fun h => by omega))).trans hs.2.1, (hu.block _ (by have := hs.2.2.2; omega) (fun h => h.elim hnS0 (fun h => by omega))).trans hs.2.2.1, Nat.le_trans hs.2.2.2 hu.size⟩)
      (fun Z s A B hs hu => by
        obtain ⟨c, hc, hl, hk, hz⟩ := hs
        exact ⟨c, hIx _ c (by omega) s A B hc (hu.mono (fun c _ hc => hc.imp id (fun hc => ⟨by omega, by omega⟩))), (hu.block _ (by omega) (fun h => h.elim hnS1 (fun h => by omega))).trans hl, (hu.block _ (by omega) (fun h => h.elim hnS0 (fun h => by omega))).trans hk, Nat.le_trans hz hu.size⟩)
      hKp1 (fun Z => ⟨hI1 _ (by omega), hL1, hK1, hs1⟩) ?_).mono ?_
    · rintro Z pre x W0 W vals hpost hZ1 hZ2 ⟨hi, hl0, hk0, hz0⟩ hu0 he hkp
      have hZZ : w.heap.size + 2 ≤ max Z (w.heap.size + 2) := by omega
      have hZW : max Z (w.heap.size + 2) ≤ W0.heap.size := by omega
      have hpr : Priv S w.heap.size (max Z (w.heap.size + 2)) (w.heap.size + 1) := .inr ⟨by omega, by omega⟩
      have hl := (hu0.block _ (by omega) (fun h => h.elim hnS1 (fun h => by omega))).trans hl0
      have hk := (hu0.block _ (by omega) (fun h => h.elim hnS0 (fun h => by omega))).trans hk0
      have hz : w.heap.size + 2 ≤ W.heap.size := Nat.le_trans hz0 hu0.size
      have hy := run_yield (P := P) (args := vals) hl (by rw [hrec]; exact hps x _ _ _ he)
      rw [hrec] at hy
      refine ⟨fn, _, assign, body, hy, roundIn_of_wpIn hfn (hassign _ x W0 W vals _ ⟨pre, hpost⟩ hz hu0.size he hkp ?_)⟩
      clear hy
      intro a' Wa hna hax
      have hla := (hna.block _ (by omega) id).trans hl
      have hka := (hna.block _ (by omega) id).trans hk
      have hza : w.heap.size + 2 ≤ Wa.heap.size := Nat.le_trans hz hna.size
      have hlt : w.heap.size + 1 < Wa.heap.size := by omega
      refine ⟨_, run_beginRound hla (by rw [hrec]), ?_⟩
      have hu2 : ∀ (T : Nat → Prop), T (w.heap.size + 1) → Upd T Wa (Wa.putObj (w.heap.size + 1) (.loop { rec .ready none with state := .busy })) := fun T hT => Upd.putObj Wa _ hT
      have hl2 : (Wa.putObj (w.heap.size + 1) (.loop { rec .ready none with state := .busy })).heap[w.heap.size + 1]? = some (.loop { rec .ready none with state := .busy }) := World.putObj_heap_same hlt
      have hk2 : (Wa.putObj (w.heap.size + 1) (.loop { rec .ready none with state := .busy })).heap[w.heap.size]? = some (.deferred (some [])) := (World.putObj_heap_other (by omega)).trans hka
      have hz2 : w.heap.size + 2 ≤ (Wa.putObj (w.heap.size + 1) (.loop { rec .ready none with state := .busy })).heap.size := by simpa using hza
      have hbd := (hbody _ pre x W0 _ vals a' hpost hZZ hZW hi (((hu0.mono (fun c _ hc => hc.imp id (fun hc => ⟨by omega, by omega⟩))).trans (hna.mono (fun _ _ hc => hc.elim))).trans (hu2 _ hpr)) (hE x W0 _ _ vals hz0 (hE x W0 _ _ vals hz0 he (.inl hna)) (.inr (hu2 _ rfl))) (hAx W0 vals a' _ _ hax (hu2 _ rfl)) (hK _ _ (hK _ _ hkp (hna.mono (fun _ _ hc => hc.elim))) (hu2 _ (by omega))))
      obtain ⟨WB, hWB⟩ : ∃ WB, WB = Wa.putObj (w.heap.size + 1) (.loop { rec .ready none with state := .busy }) := ⟨_, rfl⟩
      rw [← hWB] at hl2 hk2 hz2 ⊢
      have hWBs : WB.heap.size = Wa.heap.size := by rw [hWB]; simp
      have hWBk : ∀ k, k ≠ w.heap.size + 1 → WB.heap[k]? = Wa.heap[k]? := fun k hk => by rw [hWB]; exact World.putObj_heap_other hk
      have fin : ∀ (jump : Option Code) (W3 : World), (W3.heap[w.heap.size]? = WB.heap[w.heap.size]? ∧ W3.heap[w.heap.size + 1]? = WB.heap[w.heap.size + 1]? ∧ Kept (w.heap.size + 2) (max Z (w.heap.size + 2)) W0.heap.size WB W3) →
          (Instr.endRound (w.heap.size + 1) jump).run P W3 = .ok (.bool jump.isNone) (W3.putObj (w.heap.size + 1) (.loop (rec (if jump.isNone then .ready else .done) jump))) ∧
          (W3.putObj (w.heap.size + 1) (.loop (rec (if jump.isNone then .ready else .done) jump))).heap[w.heap.size + 1]? = some (.loop (rec (if jump.isNone then .ready else .done) jump)) ∧
          (W3.putObj (w.heap.size + 1) (.loop (rec (if jump.isNone then .ready else .done) jump))).heap[w.heap.size]? = some (.deferred (some [])) ∧
          w.heap.size + 2 ≤ (W3.putObj (w.heap.size + 1) (.loop (rec (if jump.isNone then .ready else .done) jump))).heap.size ∧
          Kept W1.heap.size Z W0.heap.size W (W3.putObj (w.heap.size + 1) (.loop (rec (if jump.isNone then .ready else .done) jump))) ∧ ∀ T : Nat → Prop, T (w.heap.size + 1) → Upd T W3 (W3.putObj (w.heap.size + 1) (.loop (rec (if jump.isNone then .ready else .done) jump))) := fun jump W3 hk3 => by
        have hl3 := hk3.2.1.trans hl2
        have hz3 := hk3.2.2.1
        have hd3 := hk3.1.trans hk2
        have hlt3 := (Array.getElem?_eq_some_iff.1 hl3).1
        have := run_endRound (P := P) jump hl3
        rw [hrec] at this ⊢
        refine ⟨this, World.putObj_heap_same hlt3, (World.putObj_heap_other (by omega)).trans hd3, by simp; omega, ⟨by simp only [World.putObj_size]; exact Nat.le_trans hna.size (by omega), fun k hkk => ?_⟩, fun T hT => Upd.putObj W3 _ hT⟩
        have hkl : k ≠ w.heap.size + 1 := by omega
        have hkw : k < W.heap.size := by have := hu0.size; omega
        rw [World.putObj_heap_other hkl, hk3.2.2.2 k (by have := hna.size; omega), hWBk k hkl, hna.block k hkw id]
      rw [← hWB] at hbd
      refine wpIn_mono hbd ?_
      rintro e a3 W3 hp
      cases e with
      | normal =>
        obtain ⟨hk3, hkp3, hi3⟩ := hp
        obtain ⟨hr, hl4, hk4, hz4, hzz4, hu4⟩ := fin none W3 hk3
        exact ⟨_, _, hr, hzz4, hK _ _ hkp3 (hu4 _ (by omega)), .inl ⟨rfl, hI _ hZZ _ _ _ hi3 (hu4 _ hpr), hl4, hk4, hz4⟩⟩
      | ret =>
        obtain ⟨hk3, hkp3, hi3⟩ := hp
        obtain ⟨hr, hl4, hk4, hz4, hzz4, hu4⟩ := fin (some .ret) W3 hk3
        exact ⟨_, _, hr, hzz4, hK _ _ hkp3 (hu4 _ (by omega)), .inr ⟨rfl, .ret, hIx _ _ hZZ _ _ _ hi3 (hu4 _ hpr), hl4, hk4, hz4⟩⟩
      | exit id =>
        obtain ⟨hk3, hkp3, hi3⟩ := hp
        obtain ⟨hr, hl4, hk4, hz4, hzz4, hu4⟩ := fin (some (.exit id)) W3 hk3
        exact ⟨_, _, hr, hzz4, hK _ _ hkp3 (hu4 _ (by omega)), .inr ⟨rfl, .exit id, hIx _ _ hZZ _ _ _ hi3 (hu4 _ hpr), hl4, hk4, hz4⟩⟩
      | goto t =>
        obtain ⟨hk3, hkp3, hi3⟩ := hp
        obtain ⟨hr, hl4, hk4, hz4, hzz4, hu4⟩ := fin (some (.goto t)) W3 hk3
        exact ⟨_, _, hr, hzz4, hK _ _ hkp3 (hu4 _ (by omega)), .inr ⟨rfl, .goto t, hIx _ _ hZZ _ _ _ hi3 (hu4 _ hpr), hl4, hk4, hz4⟩⟩
      | panic ch => exact hp.elim
      | outgrown => exact hp.elim
    · rintro e W2 ⟨⟨v, rfl⟩, Z, hZ1, hZ2, (⟨⟨hi, hl, hk, hz⟩, hkp⟩ | ⟨pre, x, post, hpost, c, hi, hl, hk, hz⟩)⟩
      · exact ⟨none, _, by have := run_endLoop (P := P) hl (by rw [hrec]; simp); rw [hrec] at this; exact this, hdone _ _ (by omega : w.heap.size + 2 ≤ max Z (w.heap.size + 2)) (by simp only [World.putObj_size]; omega) (hI _ (by omega) _ _ _ hi (Upd.putObj _ _ (.inr ⟨by omega, by omega⟩))) ((World.putObj_heap_other (by omega)).trans hk) (hK _ _ hkp (Upd.putObj _ _ (Nat.le_succ _)))⟩
      · exact ⟨some c, _, by have := run_endLoop (P := P) hl (by rw [hrec]; simp); rw [hrec] at this; exact this, hstop _ c pre x post _ (by omega : w.heap.size + 2 ≤ max Z (w.heap.size + 2)) (by simp only [World.putObj_size]; omega) hpost (hIx _ c (by omega) _ _ _ hi (Upd.putObj _ _ (.inr ⟨by omega, by omega⟩))) ((World.putObj_heap_other (by omega)).trans hk)⟩
end Gl
end
section
/- The map with its pages' cells named; its entries with their values. -/
namespace Gl
open Go Go.RowKit
abbrev CE := Value × Value × Ent
def entsOf (l : List CE) : List Ent := l.map fun x => x.2.2
theorem entsOf_snoc (l : List CE) (x : CE) : entsOf (l ++ [x]) = entsOf l ++ [x.2.2] := by simp [entsOf]
def ce : List Value → List Ent → List CE
  | k :: v :: cs, e :: l => (k, v, e) :: ce cs l
  | _, _ => []
theorem ce_get {D : Nat → Prop} {w : World} : ∀ {cs : List Value} {l : List Ent}, EntsAt D w cs l → (ce cs l).length = l.length ∧ (ce cs l).map (·.2.2) = l ∧ (∀ (i : Nat) (x : CE), (ce cs l)[i]? = some x → cs[i * 2]? = some x.1 ∧ cs[i * 2 + 1]? = some x.2.1) ∧ ∀ x ∈ ce cs l, BV D w x.1 x.2.2.1 ∧ BV D w x.2.1 x.2.2.2
  | [], [], _ => ⟨rfl, rfl, fun i x hx => by simp [ce] at hx, fun x hx => by cases hx⟩
  | k :: v :: cs, e :: l, ⟨a, b, h⟩ => by
    obtain ⟨h1, h2, h3, h4⟩ := ce_get h
    refine ⟨by simp [ce, h1], by simp [ce, h2], fun i x hx => ?_, fun x hx => ?_⟩
    · cases i with
      | zero => simp [ce] at hx; subst hx; exact ⟨rfl, rfl⟩
      | succ i =>
        rw [show (i + 1) * 2 = i * 2 + 1 + 1 by omega]
        simpa using h3 i x (by simpa [ce] using hx)
    · rcases List.mem_cons.1 hx with rfl | hx
      · exact ⟨a, b⟩
      · exact h4 x hx
  | [], _ :: _, h => h.elim
  | [_], [], h => h.elim
  | [_], _ :: _, h => h.elim
  | _ :: _ :: _, [], h => h.elim
/-- a map, its pages' cells by name -/
structure MapC (tE tP base : Nat) (w : World) (bm : Nat) (D : Nat → Prop) (A : Option Addr) (n c : Nat) (vs : List Value) (ps : List (List Ent)) (css : List (List Value)) : Prop where
  map : MapIn tE tP base w bm D A n c vs ps
  clen : css.length = ps.length
  cells : ∀ (i : Nat) (v : Value) (l : List Ent) (cs : List Value), vs[i]? = some v → ps[i]? = some l → css[i]? = some cs → w.ownsRow base tE 2 v l.length cs ∧ EntsAt D w cs l
def ceAll (css : List (List Value)) (ps : List (List Ent)) : List (List CE) := List.zipWith ce css ps
section
variable {tE tP base bm n c : Nat} {w w' : World} {D T : Nat → Prop} {A : Option Addr} {vs : List Value} {ps : List (List Ent)} {css : List (List Value)}
theorem MapIn.named (h : MapIn tE tP base w bm D A n c vs ps) : ∃ css, MapC tE tP base w bm D A n c vs ps css := by
  have : ∀ m, m ≤ ps.length → ∃ css : List (List Value), css.length = m ∧ ∀ (i : Nat) (v : Value) (l : List Ent) (cs : List Value), vs[i]? = some v → ps[i]? = some l → css[i]? = some cs → w.ownsRow base tE 2 v l.length cs ∧ EntsAt D w cs l := by
    intro m
    induction m with
    | zero => exact fun _ => ⟨[], rfl, fun i v l cs _ _ hc => by simp at hc⟩
    | succ m ih =>
      intro hm
      obtain ⟨css, h1, h2⟩ := ih (by omega)
      have hv : vs[m]? = some (vs[m]'(by have := h.len; omega)) := List.getElem?_eq_getElem _
      have hl : ps[m]? = some (ps[m]'(by omega)) := List.getElem?_eq_getElem _
      obtain ⟨cs, h3, h4⟩ := h.page m _ _ hv hl
      refine ⟨css ++ [cs], by simp [h1], fun i v l cs' a b hc => ?_⟩
      by_cases hi : i < css.length
      · rw [List.getElem?_append_left hi] at hc; exact h2 i v l cs' a b hc
      · have hi2 : i = m := by
          have := (List.getElem?_eq_some_iff.1 hc).1
          simp at this; omega
        subst hi2
        rw [List.getElem?_append_right (by omega)] at hc
        simp [h1] at hc
        subst hc
        rw [hv] at a; rw [hl] at b
        cases a; cases b
        exact ⟨h3, h4⟩
  obtain ⟨css, h1, h2⟩ := this ps.length (Nat.le_refl _)
  exact ⟨css, h, h1, h2⟩
theorem MapC.upd (h : MapC tE tP base w bm D A n c vs ps css) (hu : Upd T w w') (hf : ∀ b, foot bm D A n c vs b → ¬ T b) : MapC tE tP base w' bm D A n c vs ps css :=
  ⟨h.map.upd hu hf, h.clen, fun i v l cs a b hc => by
    obtain ⟨h1, h2⟩ := h.cells i v l cs a b hc
    exact ⟨ownsRow_keep h1 (fun b hb hl => hu.block b hl (hf b (.inr (.inr (.inl ⟨v, List.mem_of_getElem? a, hb⟩))))), h2.imp (fun _ _ hb => hb.upd hu (fun b hd => hf b (.inr (.inr (.inr hd)))))⟩⟩
theorem MapC.all_len (h : MapC tE tP base w bm D A n c vs ps css) : (ceAll css ps).length = ps.length := by
  simp [ceAll, h.clen]
theorem MapC.all_at (h : MapC tE tP base w bm D A n c vs ps css) {i : Nat} (hi : i < ps.length) : ∃ cs, css[i]? = some cs ∧ (ceAll css ps)[i]? = some (ce cs ps[i]) := by
  have hc : i < css.length := by rw [h.clen]; exact hi
  exact ⟨css[i], List.getElem?_eq_getElem hc, by simp [ceAll, List.getElem?_zipWith, hi, hc]⟩
/-- page i: its slice, and its entries as they are handed out -/
theorem MapC.at (h : MapC tE tP base w bm D A n c vs ps css) {i : Nat} (hi : i < ps.length) : ∃ g gp cp xs, A = some ⟨g, 0, none⟩ ∧ w.cell? ⟨g, i, none⟩ = some (.slice (some ⟨gp, 0, none⟩) xs.length cp) ∧ xs.length ≤ cp ∧ cp ≤ maxLen ∧ (ceAll css ps)[i]? = some xs ∧ xs.length ≤ 32 ∧
    ∀ (j : Nat) (x : CE), xs[j]? = some x → w.cell? ⟨gp, j * 2, none⟩ = some x.1 ∧ w.cell? ⟨gp, j * 2 + 1, none⟩ = some x.2.1 := by
  obtain ⟨g, gp, cp, cs, e1, e2, e3, e4, e5, e6⟩ := h.map.at hi
  obtain ⟨cs', h1, h2⟩ := h.all_at hi
  obtain ⟨h3, h4⟩ := h.cells i _ _ cs' e2 (List.getElem?_eq_getElem hi) h1
  obtain ⟨k1, k2, k3, k4⟩ := ce_get h4
  have hs := Sl.of_own h3
  refine ⟨g, gp, cp, ce cs' ps[i], e1, by rw [k1]; exact e3, by rw [k1]; exact hs.le, hs.max, h2, by rw [k1]; exact h.map.few _ (List.getElem_mem hi), fun j x hx => ?_⟩
  obtain ⟨a, b⟩ := k3 j x hx
  exact ⟨by simpa using hs.cell rfl a, by simpa using hs.cell rfl b⟩
theorem MapC.all_ents (h : MapC tE tP base w bm D A n c vs ps css) : (ceAll css ps).flatten.map (·.2.2) = ps.flatten := by
  rw [List.map_flatten]
  congr 1
  apply List.ext_getElem?
  intro i
  by_cases hi : i < ps.length
  · obtain ⟨cs', h1, h2⟩ := h.all_at hi
    have hv : vs[i]? = some (vs[i]'(by have := h.map.len; omega)) := List.getElem?_eq_getElem _
    obtain ⟨_, h4⟩ := h.cells i _ _ cs' hv (List.getElem?_eq_getElem hi) h1
    rw [List.getElem?_map, h2, List.getElem?_eq_getElem hi]
    simp [(ce_get h4).2.1]
  · rw [List.getElem?_eq_none (by rw [List.length_map, h.all_len]; omega), List.getElem?_eq_none (by omega)]
theorem MapC.all_by (h : MapC tE tP base w bm D A n c vs ps css) : ∀ x ∈ (ceAll css ps).flatten, BV D w x.1 x.2.2.1 ∧ BV D w x.2.1 x.2.2.2 := by
  intro x hx
  obtain ⟨xs, hxs, hx⟩ := List.mem_flatten.1 hx
  obtain ⟨i, hi⟩ := List.getElem?_of_mem hxs
  have hil : i < ps.length := by rw [← h.all_len]; exact (List.getElem?_eq_some_iff.1 hi).1
  obtain ⟨cs', h1, h2⟩ := h.all_at hil
  rw [h2] at hi
  cases hi
  have hv : vs[i]? = some (vs[i]'(by have := h.map.len; omega)) := List.getElem?_eq_getElem _
  obtain ⟨_, h4⟩ := h.cells i _ _ cs' hv (List.getElem?_eq_getElem hil) h1
  exact (ce_get h4).2.2.2 x hx
end
theorem pageOf_nil {ps : List (List Ent)} {p : Nat} (hg : Pages ps) (h : PageOf ps [] p) : p = 0 := by
  obtain ⟨hp, _, h2⟩ := h
  rcases h2 with h2 | ⟨_, h2⟩
  · exact h2
  · by_cases e : p = 0
    · exact e
    · have h3 := heads_rise hg (i := 0) (j := p) (by omega) hp
      cases hh : head1 ps[p] with
      | nil => rw [hh, blt_nil] at h3; cases h3
      | cons a l => rw [hh] at h2; cases h2
theorem place_nil {l : List Ent} {i : Nat} {f : Bool} (h : KeyPlace l [] i f) : i = 0 := by
  by_cases e : i = 0
  · exact e
  · have := h.2.2.1 0 (by omega)
    rw [blt_nil] at this; cases this
end Gl
end
section
/- A region that draws its order, walked in a round's frame: what yields in every world that meets S is taken first. (The plain law is the kit's; this is its like for a fence that lets every function in.) -/
namespace Gl
open Go
section
variable {F : Fence} {n : Nat} {P : Program} {ops : Array Oper} {Q : Exit → Act → World → Prop} {S : World → Prop}
/-- no operation of the region is a defer statement -/
def noDefer (ops : Array Oper) : Bool := ops.toList.all fun o => match o.op with | .defer _ => false | _ => true
theorem semAt_of (hd : noDefer ops = true) {i : Nat} {o : Oper} (hi : ops[i]? = some o) (ρ : Operand → Value) : o.semAt F.round ρ = execOp ρ o :=
  Oper.semAt_plain F ρ o fun c hc => by
    have hm : o ∈ ops.toList := by
      rw [← Array.getElem?_toList] at hi
      exact List.mem_of_getElem? hi
    have := List.all_eq_true.1 hd o hm
    rw [hc] at this; cases this
def anyS (F : Fence) (n : Nat) (P : Program) (ops : Array Oper) (Q : Exit → Act → World → Prop) (S : World → Prop) : Nat → Array Bool → Act → World → Prop
  | 0, listed, a, w => Region.ready .any ops listed = [] ∧ Q .normal a w
  | fuel + 1, listed, a, w =>
    (Region.ready .any ops listed = [] → Q .normal a w) ∧
    ∀ i ∈ Region.ready .any ops listed, wpOpIn F n P ops Q i (fun a' w' => S w' ∧ anyS F n P ops Q S fuel (listed.setIfInBounds i true) a' w') a w
theorem any_of : ∀ (fuel : Nat) (listed : Array Bool) (a : Act) (w : World), anyS F n P ops Q S fuel listed a w → wpAnyIn F n P .any ops Q fuel listed a w
  | 0, _, _, _, h => h
  | fuel + 1, _, _, _, h => ⟨h.1, fun i hi => wpOpIn_mono (fun a' w' h' => any_of fuel _ a' w' h'.2) (h.2 i hi)⟩
theorem op_yields (hF : ∀ f, F.fn f) (hd : noDefer ops = true) {i : Nat} {o : Oper} {v : Value} {a : Act} (hi : ops[i]? = some o) (hy : YieldsIf P ops S o v a) {K : Act → World → Prop} {w : World} (hS : S w) (h : K (a.put o.dst v) w) : wpOpIn F n P ops Q i K a w := by
  unfold Go.wpOpIn
  simp only [hi]
  rcases hy with ⟨hw, hv⟩ | ⟨hw, rfl⟩
  · simp only [hw, if_true, Oper.wpIn, semAt_of hd hi, hv w hS, Oper.uponIn]
    exact ⟨fun f _ => hF f, h⟩
  · simp only [hw, Bool.false_eq_true, if_false]
    exact ⟨fun f _ => hF f, h⟩
theorem op_put (hF : ∀ f, F.fn f) (hd : noDefer ops = true) {j : Nat} {oi oj : Oper} {v : Value} (hj : ops[j]? = some oj) (hap : oi.apart ops oj = true)
    (hsi : ∀ cs b, oi.op ≠ .select cs b) (hsj : ∀ cs b, oj.op ≠ .select cs b)
    (hQ : ∀ c a w, Q (.panic c) (a.put oi.dst v) w → Q (.panic c) a w) {K : Act → World → Prop} {a : Act} {w : World}
    (hy : YieldsIf P ops S oi v a) (h : wpOpIn F n P ops Q j K (a.put oi.dst v) w) :
    wpOpIn F n P ops Q j (fun a' w' => YieldsIf P ops S oi v a' ∧ K (a'.put oi.dst v) w') a w := by
  obtain ⟨h1, h2, h3⟩ := Oper.apart_spec hap
  have keep : ∀ (a : Act), YieldsIf P ops S oi v a → ∀ u, YieldsIf P ops S oi v (a.put oj.dst u) := fun a hy u =>
    hy.of_same (execOp_put oi hsi a oj.dst u h3) (wanted_put oi a oj.dst u h3)
  have keepD : ∀ d, YieldsIf P ops S oi v { a with defers := d :: a.defers } := fun d => hy.of_same rfl rfl
  have hsm := semAt_of (F := F) hd hj
  unfold Go.wpOpIn at *
  simp only [hj] at *
  rw [wanted_put oj a oi.dst v h1] at h
  split
  · rename_i hw
    simp only [hw, if_true] at h
    unfold Oper.wpIn at *
    refine ⟨fun f _ => hF f, ?_⟩
    have h := h.2
    rw [hsm, execOp_put oj hsj a oi.dst v h1] at h
    rw [hsm]
    generalize (execOp a.eval oj).run P w = r at *
    cases r with
    | ok x w' =>
      cases x <;> simp only [Oper.uponIn] at h ⊢
      case value u => exact ⟨keep a hy u, by rw [← Act.put_comm a v u h2]; exact h⟩
      case skip => exact ⟨keep a hy _, by rw [← Act.put_comm a v undef h2]; exact h⟩
      case defer d =>
        refine ⟨keep _ (keepD d) _, ?_⟩
        rw [← Act.put_comm _ v undef h2, ← Act.put_defers]
        exact h
      case enter f args =>
        refine ⟨h.1, CallsIn.mono h.2 fun e w'' he => ?_⟩
        cases e with
        | returned u => exact ⟨keep a hy u, by rw [← Act.put_comm a v u h2]; exact he⟩
        | panicked c => exact hQ _ _ _ he
        | outgrown => exact he
      case row row args => exact ⟨h.1, RowsIn.mono h.2 fun u w'' he => ⟨keep a hy u, by rw [← Act.put_comm a v u h2]; exact he⟩⟩
      case round l f tmps assign body =>
        refine ⟨h.1, RoundIn.mono h.2 fun e w'' he => ?_⟩
        cases e with
        | returned u => exact ⟨keep a hy u, by rw [← Act.put_comm a v u h2]; exact he⟩
        | panicked c => exact hQ _ _ _ he
        | outgrown => exact he
    | halt x w' =>
      cases x <;> simp only [Oper.uponIn] at h ⊢
      case panic u => exact hQ _ _ _ h
  · rename_i hw
    simp only [hw] at h
    exact ⟨fun f _ => hF f, keep a hy _, by rw [← Act.put_comm a v undef h2]; exact h.2⟩
theorem first_S (hF : ∀ f, F.fn f) (hd : noDefer ops = true) {i : Nat} {oi : Oper} {v : Value} (hi : ops[i]? = some oi) (hsel : ∀ (j : Nat) (o : Oper) cs b, ops[j]? = some o → o.op ≠ .select cs b)
    (hQ : ∀ c a w, Q (.panic c) (a.put oi.dst v) w → Q (.panic c) a w) :
    ∀ (fuel : Nat) (listed : Array Bool) (a : Act) (w : World),
      (∀ j oj, ops[j]? = some oj → j ≠ i → listed.getD j true = false → (∀ e ∈ oj.after, Region.binds .any e = true → e.on ≠ i) → oi.apart ops oj = true) →
      i ∈ Region.ready .any ops listed → YieldsIf P ops S oi v a → S w →
      anyS F n P ops Q S fuel (listed.setIfInBounds i true) (a.put oi.dst v) w → anyS F n P ops Q S (fuel + 1) listed a w := by
  intro fuel
  induction fuel with
  | zero =>
    intro listed a w _ hr hy hS H
    refine ⟨fun h => (by rw [h] at hr; cases hr), fun j hj => ?_⟩
    by_cases hji : j = i
    · subst hji; exact op_yields hF hd hi hy hS ⟨hS, H⟩
    · have := ready_mono hj hji
      rw [H.1] at this
      cases this
  | succ fuel ih =>
    intro listed a w hfree hr hy hS H
    refine ⟨fun h => (by rw [h] at hr; cases hr), fun j hj => ?_⟩
    by_cases hji : j = i
    · subst hji; exact op_yields hF hd hi hy hS ⟨hS, H⟩
    · have h1 := H.2 j (ready_mono hj hji)
      obtain ⟨hjun, oj, hoj, hall⟩ := mem_ready.1 hj
      have hnot : ∀ e ∈ oj.after, Region.binds .any e = true → e.on ≠ i := fun e he hb heq => by
        have h1 := hall e he hb
        have h0 := (mem_ready.1 hr).1
        rw [heq] at h1
        rcases Nat.lt_or_ge i listed.size with h' | h'
        · simp [h'] at h0 h1; rw [h0] at h1; cases h1
        · simp [Array.getElem?_eq_none h'] at h1
      have h2 := op_put hF hd hoj (hfree j oj hoj hji hjun hnot) (fun cs b => hsel i oi cs b hi) (fun cs b => hsel j oj cs b hoj) hQ hy h1
      have hfree' : ∀ k ok, ops[k]? = some ok → k ≠ i → (listed.setIfInBounds j true).getD k true = false →
          (∀ e ∈ ok.after, Region.binds .any e = true → e.on ≠ i) → oi.apart ops ok = true := fun k ok hk hki hun hno => by
        refine hfree k ok hk hki ?_ hno
        by_cases hjk : j = k
        · subst hjk; exact hjun
        · rw [getD_set_ne true hjk] at hun; exact hun
      refine wpOpIn_mono (fun a' w' h3 => ⟨h3.2.1, ih (listed.setIfInBounds j true) a' w' hfree' (ready_mono hr (Ne.symm hji)) h3.1 h3.2.1 ?_⟩) h2
      rw [Array.setIfInBounds_comm _ _ hji]
      exact h3.2.2
/-- take number i first -/
theorem takeS (i : Nat) {oi : Oper} {v : Value} {fuel : Nat} {listed : Array Bool} {a : Act} {w : World} (hF : ∀ f, F.fn f) (hd : noDefer ops = true) (hi : ops[i]? = some oi)
    (hs : Region.noSelect ops = true) (hf : Region.free .any ops listed i = true) (hr : (Region.ready .any ops listed).contains i = true)
    (hQ : ∀ c a w, Q (.panic c) (a.put oi.dst v) w → Q (.panic c) a w) (hy : YieldsIf P ops S oi v a) (hS : S w)
    (h : anyS F n P ops Q S fuel (listed.setIfInBounds i true) (a.put oi.dst v) w) : anyS F n P ops Q S (fuel + 1) listed a w :=
  first_S hF hd hi (Region.noSelect_spec hs) hQ fuel listed a w (Region.free_spec hi hf) (by simpa using hr) hy hS h
/-- number i is the only one that may come up -/
theorem oneS (i : Nat) {fuel : Nat} {listed : Array Bool} {a : Act} {w : World} (hr : Region.ready .any ops listed = [i])
    (h : wpOpIn F n P ops Q i (fun a' w' => S w' ∧ anyS F n P ops Q S fuel (listed.setIfInBounds i true) a' w') a w) : anyS F n P ops Q S (fuel + 1) listed a w :=
  ⟨fun h0 => (by rw [hr] at h0; cases h0), fun j hj => by rw [hr] at hj; simp at hj; subst hj; exact h⟩
/-- number i, a call, is the only one that may come up -/
theorem callS (i : Nat) {o : Oper} {fuel : Nat} {listed : Array Bool} {a : Act} {w : World} (ho : ops[i]? = some o) (hr : Region.ready .any ops listed = [i]) (hw : Region.wanted o (yielded ops a.tmps) = true)
    (h : ∀ K : Act → World → Prop, (∀ a' w', S w' ∧ anyS F n P ops Q S fuel (listed.setIfInBounds i true) a' w' → K a' w') → o.wpIn F n P a w K Q) : anyS F n P ops Q S (fuel + 1) listed a w :=
  oneS i hr (by
    unfold Go.wpOpIn
    simp only [ho, hw, if_true]
    exact h _ (fun _ _ hh => hh))
theorem doneS {listed : Array Bool} {a : Act} {w : World} (hr : Region.ready .any ops listed = []) (h : Q .normal a w) : ∀ fuel, anyS F n P ops Q S fuel listed a w
  | 0 => ⟨hr, h⟩
  | _ + 1 => ⟨fun _ => h, by rw [hr]; simp⟩
theorem beginS {id : Nat} {a : Act} {w : World} (hm : P.follows .mixedOrders = true)
    (h : anyS F n P ops Q S ops.size (Array.replicate ops.size false) a w.drew) : (Code.region id ops true).wpIn F n P Q a w :=
  wpIn_region_any hm (any_of _ _ _ _ h)
end
end Gl
end
section
namespace Gl
open Go Go.RowKit
/-- an append to a row of one's own, inside a fence -/
theorem wpListIn_append_src {F : Fence} {n0 : Nat} {P : Program} (w : World) {ops : Array Oper} {rest : List Oper} {o : Oper} {a : Act} {Q : Exit → Act → World → Prop} (hgd : o.guard = none) (s x : Operand) (t : TypeId)
    (hop : o.op = .call { callee := .builtin .append, args := #[s, x], argTypes := #[t, t] })
    (base : Nat) (e : TypeId) (i : TypeInfo) (z : Value) (size bytes : Nat) (ht : P.underlying t = some (.slice e)) (hi : P.info? e = some i) (hz : i.zero = some z)
    (hsize : i.size = size) (hby : i.bytes = bytes) (hzs : z.cells.size = size) (hsz : 0 < size)
    (v : Value) (n : Nat) (xs : List Value) (hs : a.eval s = v) (hown : w.ownsRow base e size v n xs)
    (A : Option Addr) (m c : Nat) (news : List Value) (hx : a.eval x = .slice A m c) (hl : news.length = m * size) (hsrc : Src w A m news) (h1 : ∀ u ∈ news, u.oneCell' = true)
    (h63 : n + m ≤ maxLen) (hbytes : (n + m) * bytes ≤ 140737488355328) (hbase : base ≤ w.heap.size)
    (h : ∀ A' c' w', w'.ownsRow base e size (.slice A' (n + m) c') (n + m) (xs ++ news) → w.grownBy w' v.ownBlock → ((Value.slice A' (n + m) c').ownBlock = v.ownBlock ∨ (Value.slice A' (n + m) c').ownBlock = some w.heap.size) → wpListIn F n0 P ops Q rest (a.put o.dst (.slice A' (n + m) c')) w') :
    wpListIn F n0 P ops Q (o :: rest) a w := by
  refine wpListIn_plain hgd fun K hK => ?_
  obtain ⟨v', w', hr, h2, h3, h4⟩ := run_append_src (P := P) w base t o.type e i z size bytes ht hi hz hsize hby hzs hsz v n xs hown A m c news hl hsrc h1 h63 hbytes hbase
  obtain ⟨A', c', rfl⟩ := ownsRow_form h2
  unfold Oper.wpIn
  refine ⟨?_, ?_⟩
  · simp [Oper.about, hop, resolve, Target.leads, Sem.run_pure]
  · rw [Oper.semAt_plain F _ _ (by rw [hop]; intro c hc'; cases hc')]
    simp [execOp, hop, resolve, invoke, builtin, hs, hx, hr, Result.andThen]
    exact hK _ _ (h A' c' w' h2 h3 h4)
end Gl
end
section
/- Append to a full slice: a new row, or the slice itself where nothing comes. -/
namespace Gl
open Go Go.RowKit
theorem run_append_full {P : Program} (w : World) (t ty e : TypeId) (i : TypeInfo) (z : Value) (ht : P.underlying t = some (.slice e)) (hi : P.info? e = some i) (hz : i.zero = some z)
    (hsize : i.size = 1) (hby : i.bytes = 1) (hzs : z.cells.size = 1)
    {b off n : Nat} {xs : List Nat} (hn0 : 0 < n) (hx : By w (some ⟨b, off, none⟩) n n xs) {A : Option Addr} {m c : Nat} {ys : List Nat} (hy : By w A m c ys) (hnm : n + m ≤ 1073741824) :
    ∃ A' c' w', (Builtin.append_ #[t, t] ty #[.slice (some ⟨b, off, none⟩) n n, .slice A m c]).run P w = .ok (.slice A' (n + m) c') w' ∧ By w' A' (n + m) c' (xs ++ ys) ∧ New w w' := by
  have hold : ∀ (j : Nat) u, (xs.map u8)[j]? = some u → w.cell? ((⟨b, off, none⟩ : Addr).add j) = some u := fun j u hu => by
    obtain ⟨b', o', e1, hr⟩ := hx.sl.row hn0
    injection e1 with e1; injection e1 with e1 e2; subst e1; subst e2
    rw [Addr.add_lit]; exact hr.2 j u hu
  rcases Nat.eq_zero_or_pos m with h0 | h0
  · subst h0
    have hys : ys = [] := List.eq_nil_of_length_eq_zero hy.len
    subst hys
    refine ⟨some ⟨b, off, none⟩, n, w, ?_, by simpa using hx, Upd.refl _ w⟩
    cases A <;> simp [Builtin.append_, run_underlying ht, Go.sizeOf, typeInfo, hi, Builtin.lenOf, Builtin.firstCells, storeCells, loadCells, loadCellsFrom]
  · obtain ⟨b2, o2, e2, hr2⟩ := hy.sl.row h0
    subst e2
    obtain ⟨v', w', h1, h2, h3⟩ := run_append_arg_grows (P := P) w t ty e i z 1 1 ht hi hz hsize hby hzs (by omega) ⟨b, off, none⟩ n n (xs.map u8) (by simp [hx.len]) hold ⟨b2, o2, none⟩ m c (ys.map u8) (by simp [hy.len]) (fun j u hu => by rw [Addr.add_lit]; exact hr2.2 j u hu) (by omega) (by simp only [maxLen]; omega) (by omega)
    obtain ⟨A', c', rfl⟩ := ownsRow_form h2
    exact ⟨A', c', w', h1, By.of_own (by rw [List.map_append]; exact h2) (hx.small.append hy.small), Upd.of_grown h3 (fun c hc => by cases hc)⟩
end Gl
end
section
namespace Gl
open Go Go.RowKit
/-- an append of bytes to a full slice, inside a fence -/
theorem wpListIn_append_full {F : Fence} {n0 : Nat} {P : Program} (w : World) {ops : Array Oper} {rest : List Oper} {o : Oper} {a : Act} {Q : Exit → Act → World → Prop} (hgd : o.guard = none) (s x : Operand) (t : TypeId)
    (hop : o.op = .call { callee := .builtin .append, args := #[s, x], argTypes := #[t, t] })
    (e : TypeId) (i : TypeInfo) (z : Value) (ht : P.underlying t = some (.slice e)) (hi : P.info? e = some i) (hz : i.zero = some z)
    (hsize : i.size = 1) (hby : i.bytes = 1) (hzs : z.cells.size = 1)
    (b off n : Nat) (xs : List Nat) (hn0 : 0 < n) (hs : a.eval s = .slice (some ⟨b, off, none⟩) n n) (hxs : By w (some ⟨b, off, none⟩) n n xs)
    (A : Option Addr) (m c : Nat) (ys : List Nat) (hx : a.eval x = .slice A m c) (hys : By w A m c ys) (hnm : n + m ≤ 1073741824)
    (h : ∀ A' c' w', By w' A' (n + m) c' (xs ++ ys) → New w w' → wpListIn F n0 P ops Q rest (a.put o.dst (.slice A' (n + m) c')) w') :
    wpListIn F n0 P ops Q (o :: rest) a w := by
  refine wpListIn_plain hgd fun K hK => ?_
  obtain ⟨A', c', w', hr, h2, h3⟩ := run_append_full (P := P) w t o.type e i z ht hi hz hsize hby hzs hn0 hxs hys hnm
  unfold Oper.wpIn
  refine ⟨?_, ?_⟩
  · simp [Oper.about, hop, resolve, Target.leads, Sem.run_pure]
  · rw [Oper.semAt_plain F _ _ (by rw [hop]; intro c hc'; cases hc')]
    simp [execOp, hop, resolve, invoke, builtin, hs, hx, hr, Result.andThen]
    exact hK _ _ (h A' c' w' h2 h3)
end Gl
end
section
/- slices.Insert of one element into a row of its own. -/
namespace Gl
open Go Go.RowKit Ex

/-- what the walks of slices.Insert show, with the new row's type and room -/
structure InsW (P : Program) (f : FuncId) (size : Nat) (t e0 : TypeId) : Prop extends InsWalks P f size t where
  grow' : ∀ (w : World) (c q n cap i vb vo m vc : Nat) (cells : Array Value) (e : TypeId) (fr : Nat × Nat) (old new : List Value), i < n → 0 < m → n ≤ cap → cap < n + m → n + m ≤ 1048576 →
    w.heap[c]? = some (.cells cells e fr) → old.length = n * size → new.length = m * size → (∀ j v, old[j]? = some v → cells[q + j]? = some v) →
    (∀ j v, new[j]? = some v → w.cell? ⟨vb, vo + j, none⟩ = some v) → (∀ v ∈ old, oneCell v = true) → (∀ v ∈ new, oneCell v = true) →
    Calls P f #[.slice (some ⟨c, q, none⟩) n cap, .int .i64 i, .slice (some ⟨vb, vo, none⟩) m vc] w fun x w' =>
      ∃ (ROW : Array Value) (G : Nat), G ≤ 9223372036854775807 ∧ n + m ≤ G ∧ ROW.size = G * size ∧ (∀ j v, j < i * size → old[j]? = some v → ROW[j]? = some v) ∧ x = .returned (.slice (some ⟨w.heap.size, 0, none⟩) (n + m) G) ∧
      w'.heap = w.heap.push (.cells (splice (splice ROW (i * size) new) ((i + m) * size) (old.drop (i * size))) e0) ∧ w'.tape = w.tape ∧ w'.os = w.os ∧ w'.output = w.output
theorem oneCell_of (v : Value) (h : v.oneCell' = true) : oneCell v = true := by cases v <;> first | rfl | cases h
theorem take_of_get {X : Array Value} {R : List Value} (h : ∀ (j : Nat) (v : Value), R[j]? = some v → X[j]? = some v) (hs : R.length ≤ X.size) : X.toList.take R.length = R := by
  apply List.ext_getElem?
  intro j
  rw [List.getElem?_take]
  split
  · rename_i hj
    rw [List.getElem?_eq_getElem hj]
    have := h j _ (List.getElem?_eq_getElem hj)
    simpa using this
  · rename_i hj
    rw [List.getElem?_eq_none (by omega)]
theorem withObj_upd (w : World) (g : Nat) (o : Obj) : Upd (fun b => b = g) w (withObj w.drew g o) :=
  ⟨rfl, rfl, rfl, by rw [withObj_size]; exact Nat.le_refl _, fun c hc hn => by
    simp only [withObj, World.drew]
    rw [Array.getElem?_setIfInBounds_ne (by exact fun e => hn e.symm)]⟩
section
variable {P : Program} {f : FuncId} {size : Nat} {t e : TypeId}
/-- one element more in a row of one's own -/
def Inserted (base : Nat) (e : TypeId) (size : Nat) (w : World) (g n : Nat) (cs : List Value) (x : Ending) (w' : World) : Prop :=
  ∃ g' c', x = .returned (.slice (some ⟨g', 0, none⟩) (n + 1) c') ∧ w'.ownsRow base e size (.slice (some ⟨g', 0, none⟩) (n + 1) c') (n + 1) cs ∧ Upd (fun b => b = g) w w' ∧ (g' = g ∨ w.heap.size ≤ g')
theorem ins_own (I : InsW P f size t e) {i0 : TypeInfo} {z : Value} {bytes : Nat} (ht : P.underlying t = some (.slice e)) (hi0 : P.info? e = some i0) (hz : i0.zero = some z) (hsize : i0.size = size) (hby : i0.bytes = bytes) (hzs : z.cells.size = size) (hsz : 0 < size) (hbb : bytes ≤ 1024)
    {w : World} {base g n c i vb : Nat} {xs ns : List Value} {te : TypeId} (hown : w.ownsRow base e size (.slice (some ⟨g, 0, none⟩) n c) n xs) (h1 : ∀ v ∈ xs, v.oneCell' = true) (hi : i ≤ n) (hn : 0 < n) (hbig : n + 1 ≤ 1048576)
    (hvb : w.heap[vb]? = some (.cells ns.toArray te (0, 0))) (hne : vb ≠ g) (hnl : ns.length = size) (hn1 : ∀ v ∈ ns, v.oneCell' = true) (hbase : base ≤ w.heap.size) :
    Calls P f #[.slice (some ⟨g, 0, none⟩) n c, .int .i64 (i : Int), .slice (some ⟨vb, 0, none⟩) 1 1] w (Inserted base e size w g n (xs.take (i * size) ++ ns ++ xs.drop (i * size))) := by
  have hxl := hown.1
  have hbg : base ≤ g := (ownsRow_lt hown (c := g) rfl).2
  obtain ⟨cur, hh, hnc, hmx, hcs, htk⟩ : ∃ cur, w.heap[g]? = some (.cells cur e (0, 0)) ∧ n ≤ c ∧ c ≤ maxLen ∧ cur.size = c * size ∧ cur.toList.take (n * size) = xs := by
    rcases hown.2 with ⟨e, _⟩ | ⟨g', cap, cur, e, _, h3, h4, h5, h6, h7⟩
    · cases e
    · cases e; exact ⟨cur, h3, h4, h5, h6, h7⟩
  have hold : ∀ j v, xs[j]? = some v → cur[j]? = some v := fun j v hv => by
    rw [← htk, List.getElem?_take] at hv
    split at hv
    · simpa using hv
    · cases hv
  have hnew : ∀ j v, ns[j]? = some v → w.cell? ⟨vb, 0 + j, none⟩ = some v := fun j v hv => by
    simp only [World.cell?, hvb, Nat.zero_add]; simpa using hv
  have hov : ∀ v ∈ xs, oneCell v = true := fun v hv => oneCell_of v (h1 v hv)
  have hnv : ∀ v ∈ ns, oneCell v = true := fun v hv => oneCell_of v (hn1 v hv)
  have hnl' : ns.length = 1 * size := by omega
  have hfl : (xs.take (i * size)).length = i * size := by
    rw [List.length_take, hxl]; exact Nat.min_eq_left (Nat.mul_le_mul_right _ hi)
  have hdl : (xs.drop (i * size)).length = n * size - i * size := by rw [List.length_drop, hxl]
  have hi2 : i * size ≤ n * size := Nat.mul_le_mul_right _ hi
  have hRl : (xs.take (i * size) ++ ns ++ xs.drop (i * size)).length = (n + 1) * size := by
    rw [List.length_append, List.length_append, hfl, hdl, hnl, Nat.succ_mul]; omega
  by_cases hin : i = n
  · subst hin
    obtain ⟨v', w', hr, ho, hg, hat⟩ := run_append_src (P := P) w base t t e i0 z size bytes ht hi0 hz hsize hby hzs hsz (.slice (some ⟨g, 0, none⟩) i c) i xs hown (some ⟨vb, 0, none⟩) 1 1 ns hnl' (fun _ => ⟨vb, 0, rfl, hnew⟩) hn1 (by simp only [maxLen]; omega) (Nat.le_trans (Nat.mul_le_mul hbig hbb) (by decide)) hbase
    refine (I.atEnd w w' g 0 i c vb 0 1 1 v' (by omega) hnc hr).mono fun x w1 ⟨hx, hw1⟩ => ?_
    subst hx hw1
    obtain ⟨A', c', rfl⟩ := ownsRow_form ho
    obtain ⟨g', rfl⟩ : ∃ g', A' = some ⟨g', 0, none⟩ := by
      rcases ho.2 with ⟨e, h0⟩ | ⟨g', _, _, e, _⟩
      · omega
      · injection e with e; exact ⟨g', e⟩
    refine ⟨g', c', rfl, ?_, Upd.of_grown hg (fun k hk => by simpa [Value.ownBlock] using hk.symm), ?_⟩
    · rw [List.take_of_length_le (by omega), List.drop_of_length_le (by omega), List.append_nil]; exact ho
    · rcases hat with e | e
      · simp [Value.ownBlock] at e; exact .inl e
      · simp [Value.ownBlock] at e; exact .inr (by omega)
  · have hlt : i < n := by omega
    by_cases hroom : n + 1 ≤ c
    · have hsh : w.shape? vb = some (te, ns.toArray.size) := by simp [World.shape?, hvb]
      have hsh2 : w.shape? g = some (e, cur.size) := by simp [World.shape?, hh]
      have hcur0 : cur.size ≠ 0 := by
        rw [hcs]; exact Nat.ne_of_gt (Nat.mul_pos (by omega) hsz)
      refine (I.shift w g 0 n c i vb 0 1 1 cur e (0, 0) xs ns hlt (by omega) hroom hbig hne hh (fun o _ => by simp) hxl hnl' (fun j v hv => by rw [Nat.zero_add]; exact hold j v hv) (by rw [Nat.zero_add, hcs]; exact Nat.mul_le_mul_right _ hroom) hnew hov hnv te e _ _ hsh hsh2 hcur0 (by simp [World.frozen?, hvb]) (by simp [World.frozen?, hvb])).mono fun x w1 ⟨hx, hw1⟩ => ?_
      subst hx hw1
      refine ⟨g, c, rfl, ⟨hRl, .inr ⟨g, c, splice (splice cur (0 + (i + 1) * size) (xs.drop (i * size))) (0 + i * size) ns, rfl, hbg, by rw [withObj_heap _ _ _ _ (by exact (Array.getElem?_eq_some_iff.1 hh).1), if_pos rfl], hroom, hmx, by rw [splice_size, splice_size, hcs], ?_⟩⟩, withObj_upd _ _ _, .inl rfl⟩
      have hsz2 : 0 + (xs.take (i * size)).length + ns.length + (xs.drop (i * size)).length ≤ cur.size := by
        rw [hfl, hnl, hdl, hcs]
        have := Nat.mul_le_mul_right size hroom
        rw [Nat.succ_mul] at this; omega
      have hb := splice_back (X := cur) (q := 0) (front := xs.take (i * size)) (new := ns) (tail := xs.drop (i * size)) (fun j v hv => by
        rw [List.getElem?_take] at hv
        split at hv
        · rw [Nat.zero_add]; exact hold j v hv
        · cases hv) hsz2
      rw [← hRl]
      refine take_of_get (fun j v hv => ?_) (by rw [splice_size, splice_size, hRl, hcs]; exact Nat.mul_le_mul_right _ hroom)
      have := hb j v hv
      rw [hfl, hnl] at this
      rw [show (i + 1) * size = i * size + size by rw [Nat.succ_mul]]
      simpa using this
    · refine (I.grow' w g 0 n c i vb 0 1 1 cur e (0, 0) xs ns hlt (by omega) hnc (by omega) hbig hh hxl hnl' (fun j v hv => by rw [Nat.zero_add]; exact hold j v hv) hnew hov hnv).mono fun x w1 ⟨ROW, G, hG, hnG, hRs, hRo, hx, hw1, ht1, ho1, hu1⟩ => ?_
      subst hx
      refine ⟨w.heap.size, G, rfl, ⟨hRl, .inr ⟨w.heap.size, G, splice (splice ROW (i * size) ns) ((i + 1) * size) (xs.drop (i * size)), rfl, hbase, by rw [hw1]; simp, hnG, by simpa [maxLen] using hG, by rw [splice_size, splice_size, hRs], ?_⟩⟩, ⟨ho1, hu1, ht1, by rw [hw1]; simp, fun k hk _ => by rw [hw1, Array.getElem?_push_lt hk]; simp [hk]⟩, .inr (Nat.le_refl _)⟩
      have hsz2 : 0 + (xs.take (i * size)).length + ns.length + (xs.drop (i * size)).length ≤ ROW.size := by
        rw [hfl, hnl, hdl, hRs]
        have := Nat.mul_le_mul_right size hnG
        rw [Nat.succ_mul] at this; omega
      have hb := splice_front (X := ROW) (q := 0) (front := xs.take (i * size)) (new := ns) (tail := xs.drop (i * size)) (fun j v hv => by
        rw [List.getElem?_take] at hv
        split at hv
        · rename_i hj
          rw [Nat.zero_add]; exact hRo j v hj hv
        · cases hv) hsz2
      rw [← hRl]
      refine take_of_get (fun j v hv => ?_) (by rw [splice_size, splice_size, hRl, hRs]; exact Nat.mul_le_mul_right _ hnG)
      have := hb j v hv
      rw [hfl, hnl] at this
      rw [show (i + 1) * size = i * size + size by rw [Nat.succ_mul]]
      simpa using this
end
end Gl
end
section
namespace Gl
open Go Go.Proofs Go.ChangeShapes Go.WideShapes Go.ChangeAt Go.RowKit Go.Joins
section
variable {H : Type} {enc : TypeId × Value → H} {P : Program}
theorem trodAll_carry {w w' : World} {base : Nat} {spare : Nat → Bool} {held : Bool} : ∀ {ts : List TypeId} {vs : List Value} {ds : List (DataW H)} {ps : List MemPlace}, DataW.TrodAll enc P w base spare held ts vs ds ps → (∀ p ∈ ps, w.sameAt w' p) → DataW.TrodAll enc P w' base spare held ts vs ds ps
  | [], [], [], _, h, _ => h
  | _ :: _, _ :: _, _ :: _, _, ⟨p, q, ⟨n, h1⟩, h2, e⟩, hs => ⟨p, q, ⟨n, DataW.trod_carry n _ _ _ h1 (fun x hx => hs x (by rw [e]; exact List.mem_append_left _ hx))⟩, trodAll_carry h2 (fun x hx => hs x (by rw [e]; exact List.mem_append_right _ hx)), e⟩
theorem same_of_fresh {W W' : World} (hF : Ex.Fresh W W') {p : MemPlace} (hp : p.block < W.heap.size) : W.sameAt W' p := by
  have h := hF.2.2.2.2 p.block hp
  cases p with
  | cell b off => unfold World.sameAt; simp only [World.cell?, MemPlace.block] at h ⊢; rw [h]
  | map b => exact h
/-- A call that leaves what lay before as it was and whose results need no memory: what a row asks of its end, with the arguments as they came in. -/
theorem post_fresh {f : Func} {s : ChangeSpec} {apart fresh handsOn again : Bool} {W W' : World} {args : Array Value} {v : Value} {ds : List (DataW H)} {before : List MemPlace} {T : TypeId → Prop}
    (hW : DataW.Whole enc P f.params.toList s.vars apart W args.toList ds [] before) (hv : s.vars = [])
    (K : Kids P T) (hz : ∀ t e, T t → P.underlying t = some (.slice e) → 0 < P.cellsOf e) (hT : ∀ t ∈ f.params.toList, T t)
    (hfa : (s.fn H (ds ++ [])).args = ds) (hfv : (s.fn H (ds ++ [])).vars = [])
    (hres : ∀ (b : Nat) (sp : Nat → Bool) (hd : Bool), DataW.TrodAll enc P W' b sp hd f.resultTypes.toList (v.resultList f.resultTypes.size) (s.fn H (ds ++ [])).results [])
    (hF : Ex.Fresh W W')
    (hok : ∀ (j : Nat) (t : TypeId) (r : Value), f.resultTypes[j]? = some t → (v.resultList f.resultTypes.size)[j]? = some r → Value.okWide P W' .any 0 t r) :
    s.post enc P f apart fresh handsOn again W args v W' := by
  have hold : ∀ p ∈ before, (fun b => decide (b < W.heap.size)) p.block = true := fun p hp => by simpa using hW.lt p hp
  have hlt := hW.lt
  obtain ⟨pa, pv, hA, hV, hps, hz0, hn⟩ := id hW
  rw [hv] at hV
  have hpv : pv = [] := by
    have hV' : DataW.TrodVars enc P W (fun _ => true) [] [] pv := hV
    exact hV'
  subst hpv
  rw [List.append_nil] at hps
  subst hps
  have hargs : ∀ sp : Nat → Bool, (∀ p ∈ before, sp p.block = true) → DataW.TrodAll enc P W' 0 sp true f.params.toList args.toList (s.fn H (ds ++ [])).args before := fun sp hsp => by
    rw [hfa]
    exact trodAll_carry (hA.respare K hz hT hsp) (fun p hp => same_of_fresh hF (hlt p hp))
  have hvars : ∀ sp : Nat → Bool, DataW.TrodVars enc P W' sp s.vars (s.fn H (ds ++ [])).vars [] := fun sp => by
    rw [hv, hfv]; rfl
  refine ⟨ds, [], before, [], before, [], hW, hres _ _ _, hargs _ hold, hvars _, World.keptBut_mono (fun p hp => ⟨hp, Or.inr (Or.inl hp)⟩) (hF.kept (· ∈ before)), fun _ => ?_⟩
  refine ⟨hok, _, _, ([] ++ before) ++ [], ⟨[] ++ before, [], trodAll_append (hargs _ (fun _ _ => rfl)) (hres _ _ _), hvars _, rfl, ?_, ?_⟩, ?_⟩
  · intro b off hp
    have hp' : MemPlace.cell b off ∈ before := by simpa using hp
    rw [hF.frozen _ (hlt _ hp')]
    exact hz0 b off (by simpa using hp')
  · intro ha
    have := hn ha
    simpa using this
  · intro p hp _
    simpa using hp
end
end Gl
end
section
namespace Gl
open Go Go.Proofs Go.ChangeShapes Go.WideShapes Go.ChangeAt Go.RowKit Go.Joins Go.Deep
section
variable {H : Type} {enc : TypeId × Value → H} {P : Program} {w : World} {base : Nat} {spare : Nat → Bool} {held : Bool}
theorem ints_of {k : IntKind} : ∀ {N : Nat} {cs : List Value} {xs : List (DataW H × List MemPlace)}, cs.length = N → xs.length = N →
    (∀ i, i < N → ∃ a, cs[i]? = some (.int k a) ∧ xs[i]? = some (.lit (.int k a), []) ∧ (Lit.int k a).wf = true) → ∃ ns : List Int, cs = ns.map (.int k) ∧ xs = (ns.map fun a => ((.lit (.int k a) : DataW H), ([] : List MemPlace))) ∧ ∀ a ∈ ns, (Lit.int k a).wf = true
  | 0, cs, xs, hcl, hlen, _ => by
    have e1 : cs = [] := List.length_eq_zero_iff.1 hcl
    have e2 : xs = [] := List.length_eq_zero_iff.1 hlen
    exact ⟨[], by simp [e1], by simp [e2], by simp⟩
  | N + 1, [], _, hcl, _, _ => by simp at hcl
  | N + 1, _ :: _, [], _, hlen, _ => by simp at hlen
  | N + 1, c :: cs, x :: xs, hcl, hlen, each => by
    obtain ⟨ns, g1, g2, g3⟩ := ints_of (N := N) (cs := cs) (xs := xs) (by simpa using hcl) (by simpa using hlen) (fun i hlt => by simpa using each (i + 1) (by omega))
    obtain ⟨a, f1, f2, f3⟩ := each 0 (by omega)
    simp only [List.getElem?_cons_zero, Option.some.injEq] at f1 f2
    exact ⟨a :: ns, by rw [List.map_cons, ← g1, f1], by rw [List.map_cons, ← g2, f2], fun y hy => by
      rcases List.mem_cons.1 hy with e | hy
      · rw [e]; exact f3
      · exact g3 y hy⟩
/-- a struct of integers, from its cells -/
theorem struct_ints {fuel : Nat} {t ft : TypeId} {k : IntKind} {fs : Array Field} {cs : List Value} {x : DataW H × List MemPlace} (hs : P.underlying t = some (.struct fs)) (hone : oneCellFields P fs = true)
    (hft : (List.range fs.size).all (fun i => (fs[i]?.map (·.type)) == some ft) = true) (hi : P.underlying ft = some (.int k)) (hC : P.cellsOf t = fs.size) (h : DataW.trod enc P w base spare held fuel t cs = some x) :
    ∃ ns : List Int, ns.length = fs.size ∧ cs = ns.map (.int k) ∧ ∀ a ∈ ns, (Lit.int k a).wf = true := by
  obtain ⟨xs, n, _, hx, hl, hlen, hf⟩ := DataW.trod_struct hs h
  have hcl : cs.length = fs.size := hl.trans hC
  have each : ∀ i, i < fs.size → ∃ a, cs[i]? = some (.int k a) ∧ xs[i]? = some (.lit (.int k a), []) ∧ (Lit.int k a).wf = true := fun i hlt => by
    have h1 := List.all_eq_true.1 hft i (List.mem_range.2 hlt)
    have hfi : fs[i]? = some fs[i] := Array.getElem?_eq_getElem hlt
    obtain ⟨h2, h3⟩ := hone_of hone i _ hfi
    have h4 := hf i _ hfi
    rw [hfi] at h1
    have h1 : fs[i].type = ft := by simpa using h1
    rw [h2, h3, h1] at h4
    have hci : cs[i]? = some (cs[i]'(by omega)) := List.getElem?_eq_getElem (by omega)
    have hd : (cs.drop i).take 1 = [cs[i]'(by omega)] := by
      rw [List.drop_eq_getElem_cons (by omega)]; rfl
    rw [hd] at h4
    have hxi : xs[i]? = some (xs[i]'(by omega)) := List.getElem?_eq_getElem (by omega)
    rw [hxi] at h4
    obtain ⟨a, e1, e2, e3⟩ := DataW.trod_int hi h4
    refine ⟨a, ?_, ?_, e3⟩
    · rw [hci]; simpa using e1
    · rw [hxi, e2]
  obtain ⟨ns, g1, g2, g3⟩ := ints_of hcl hlen each
  exact ⟨ns, by rw [← hcl, g1, List.length_map], g1, g3⟩
theorem lists_of {N m : Nat} (hm : 0 < m) {R : Nat → List Int → Prop} (h : ∀ i, i < N → ∃ l, l.length = m ∧ R i l) : ∃ L : List Int, L.length = N * m ∧ ∀ i, i < N → R i ((L.drop (i * m)).take m) := by
  induction N with
  | zero => exact ⟨[], by simp, fun i hi => by omega⟩
  | succ N ih =>
    obtain ⟨L, h1, h2⟩ := ih (fun i hi => h i (by omega))
    obtain ⟨l, hl, hr⟩ := h N (by omega)
    refine ⟨L ++ l, by rw [List.length_append, h1, hl, Nat.succ_mul], fun i hi => ?_⟩
    by_cases hN : i < N
    · have : i * m + m ≤ L.length := by rw [h1, ← Nat.succ_mul]; exact Nat.mul_le_mul_right _ hN
      rw [List.drop_append_of_le_length (by omega), List.take_append_of_le_length (by rw [List.length_drop]; omega)]
      exact h2 i hN
    · obtain rfl : i = N := by omega
      rw [← h1, List.drop_left, ← hl, List.take_length]
      exact hr
/-- a slice of structs of integers -/
theorem slice_ints {fuel : Nat} {t e ft : TypeId} {k : IntKind} {fs : Array Field} {cs : List Value} {x : DataW H × List MemPlace} (ht : P.underlying t = some (.slice e)) (hs : P.underlying e = some (.struct fs)) (hone : oneCellFields P fs = true)
    (hft : (List.range fs.size).all (fun i => (fs[i]?.map (·.type)) == some ft) = true) (hi : P.underlying ft = some (.int k)) (hC : P.cellsOf e = fs.size) (hpos : 0 < fs.size) (h : DataW.trod enc P w base spare held fuel t cs = some x) :
    ∃ (A : Option Addr) (n c : Nat) (xs : List Int), cs = [.slice A n c] ∧ Sl fs.size w A n c (xs.map (.int k)) ∧ ∀ a ∈ xs, (Lit.int k a).wf = true := by
  rcases DataW.trod_slice ht h with ⟨rfl, _⟩ | ⟨a, len, cap, elems, rest, n, _, rfl, _, _, hle, hmax, hlen, hel, _, _⟩
  · exact ⟨none, 0, 0, [], rfl, Sl.nilS _ _, by simp⟩
  · have each : ∀ i, i < len → ∃ l : List Int, l.length = fs.size ∧ ((∀ a ∈ l, (Lit.int k a).wf = true) ∧ ∀ j, j < fs.size → w.cell? ((a.add (i * fs.size)).add j) = (l.map (Value.int k))[j]?) := fun i hi => by
      have h1 := hel i hi
      rw [hC, List.getElem?_eq_getElem (by omega), Option.bind_eq_some_iff] at h1
      obtain ⟨cs', h2, h3⟩ := h1
      obtain ⟨ns, g1, g2, g3⟩ := struct_ints hs hone hft ‹_› hC h3
      refine ⟨ns, g1, g3, fun j hj => ?_⟩
      rw [(World.cells?_some h2).2.2 j hj, g2]
    obtain ⟨L, hL, hR⟩ := lists_of (R := fun i l => (∀ a ∈ l, (Lit.int k a).wf = true) ∧ ∀ j, j < fs.size → w.cell? ((a.add (i * fs.size)).add j) = (l.map (Value.int k))[j]?) hpos each
    have hdiv : ∀ q, q < L.length → ∃ i j, i < len ∧ j < fs.size ∧ q = i * fs.size + j := fun q hq =>
      ⟨q / fs.size, q % fs.size, (Nat.div_lt_iff_lt_mul hpos).2 (by rw [← hL]; exact hq), Nat.mod_lt _ hpos, by rw [Nat.mul_comm]; exact (Nat.div_add_mod q fs.size).symm⟩
    refine ⟨some a, len, cap, L, rfl, ⟨by rw [List.length_map, hL], hle, hmax, fun h0 => ?_, fun h => by cases h⟩, fun z hz => ?_⟩
    · obtain ⟨b, off, spot⟩ := a
      have h00 := (hR 0 h0).2 0 hpos
      have hLp : 0 < L.length := by rw [hL]; exact Nat.mul_pos h0 hpos
      have h01 : w.cell? ⟨b, off, spot⟩ = some (.int k (L[0]'hLp)) := by
        rw [Nat.zero_mul] at h00
        simp only [Addr.add, if_pos] at h00
        rw [h00, List.getElem?_map, List.drop_zero, List.getElem?_take, if_pos hpos, List.getElem?_eq_getElem hLp]; rfl
      have hspot : spot = none := by simpa using World.cell?_spot h01
      subst hspot
      refine ⟨b, off, rfl, ?_, fun q v hv => ?_⟩
      · have h := h01
        unfold World.cell? at h
        split at h
        · rename_i hh
          exact (Array.getElem?_eq_some_iff.1 hh).1
        · cases h
      · have hq : q < L.length := by
          have := (List.getElem?_eq_some_iff.1 hv).1
          simpa using this
        obtain ⟨i, j, hi', hj, rfl⟩ := hdiv q hq
        have h2 := (hR i hi').2 j hj
        rw [add_plain, add_plain, Nat.add_assoc] at h2
        rw [h2, ← hv, List.getElem?_map, List.getElem?_map, List.getElem?_take, if_pos hj, List.getElem?_drop]
    · obtain ⟨q, hq⟩ := List.getElem?_of_mem hz
      obtain ⟨i, j, hi', hj, rfl⟩ := hdiv q (List.getElem?_eq_some_iff.1 hq).1
      refine (hR i hi').1 z ?_
      apply List.mem_of_getElem? (i := j)
      rw [List.getElem?_take, if_pos hj, List.getElem?_drop]; exact hq
theorem nats_u64 {ns : List Int} (h : ∀ a ∈ ns, (Lit.int .u64 a).wf = true) : ∃ xs : List Nat, ns.map (Value.int .u64) = xs.map u64 ∧ xs.length = ns.length ∧ ∀ x ∈ xs, x < 18446744073709551616 := by
  refine ⟨ns.map Int.toNat, ?_, by simp, fun x hx => ?_⟩
  · rw [List.map_map]
    refine List.map_congr_left (fun a ha => ?_)
    have := bounds_u64 (h a ha)
    show Value.int .u64 a = Value.int .u64 ((a.toNat : Nat) : Int)
    rw [Int.toNat_of_nonneg this.1]
  · obtain ⟨a, ha, rfl⟩ := List.mem_map.1 hx
    have := bounds_u64 (h a ha)
    omega
/-- a []byte argument -/
theorem open_bytes {fuel : Nat} {t e : TypeId} {cs : List Value} {x : DataW H × List MemPlace} (ht : P.underlying t = some (.slice e)) (he : P.underlying e = some (.int .u8)) (hc : P.cellsOf e = 1)
    (h : DataW.trod enc P w base (fun _ => true) held fuel t cs = some x) : ∃ (A : Option Addr) (n c : Nat) (bs : List Nat), cs = [.slice A n c] ∧ By w A n c bs := by
  rcases ChangeShapes.open_ints ht he hc h with ⟨rfl, _⟩ | ⟨a, len, cap, zs, rfl, _, hle, hmax, hlen, _, hcell, hw⟩
  · exact ⟨none, 0, 0, [], rfl, By.nil _⟩
  · rw [if_pos rfl] at hlen
    have hb : ∀ z ∈ zs, 0 ≤ z ∧ z ≤ 255 := fun z hz => bounds_u8 (hw z hz)
    refine ⟨some a, len, cap, (zs.take len).map Int.toNat, rfl, ⟨⟨by simp; omega, hle, hmax, fun h0 => ?_, fun h => by cases h⟩, fun x hx => ?_⟩⟩
    · obtain ⟨b, off, rfl, hc'⟩ := ints_at hcell (by omega)
      refine ⟨b, off, rfl, ?_, fun i v hv => ?_⟩
      · have h := hc' 0 (by omega)
        unfold World.cell? at h
        split at h
        · rename_i hh
          exact (Array.getElem?_eq_some_iff.1 hh).1
        · cases h
      · have hi : i < len := by
          have := (List.getElem?_eq_some_iff.1 hv).1
          simp at this; omega
        rw [hc' i (by omega), ← hv]
        have hz : i < zs.length := by omega
        have := hb _ (List.getElem_mem hz)
        simp [List.getD, List.getElem?_take, hi, hz, u8]
        omega
    · obtain ⟨a, ha, rfl⟩ := List.mem_map.1 hx
      have := hb a (List.mem_of_mem_take ha)
      omega
end
end Gl
end
section
namespace Gl
open Go Go.Proofs Go.ChangeShapes Go.WideShapes Go.ChangeAt Go.RowKit Go.Joins Go.Deep
theorem addr_add_add (a : Addr) (i j : Nat) : (a.add i).add j = a.add (i + j) := by
  unfold Addr.add
  by_cases hi : i = 0
  · subst hi; simp
  · by_cases hj : j = 0
    · subst hj; simp
    · rw [if_neg hi, if_neg hj, if_neg (by omega)]
      simp [Nat.add_assoc]
theorem pairs_of {D : Nat → Prop} {w : World} {C : Nat → Option Value} {N : Nat} (h : ∀ i, i < N → ∃ k v e, C (i * 2) = some k ∧ C (i * 2 + 1) = some v ∧ BV D w k (Prod.fst (α := Bs) (β := Bs) e) ∧ BV D w v e.2) :
    ∃ vs l, l.length = N ∧ EntsAt D w vs l ∧ ∀ q u, vs[q]? = some u → C q = some u := by
  induction N with
  | zero => exact ⟨[], [], rfl, trivial, fun q u hu => by simp at hu⟩
  | succ N ih =>
    obtain ⟨vs, l, h1, h2, h3⟩ := ih (fun i hi => h i (by omega))
    obtain ⟨k, v, e, a, b, c, d⟩ := h N (by omega)
    have hl := h2.length
    have h4 : EntsAt D w [k, v] [e] := ⟨c, d, trivial⟩
    refine ⟨vs ++ [k, v], l ++ [e], by simp [h1], h2.append h4, fun q u hu => ?_⟩
    by_cases hq : q < vs.length
    · rw [List.getElem?_append_left hq] at hu; exact h3 q u hu
    · rw [List.getElem?_append_right (by omega)] at hu
      have hq2 : q - vs.length = 0 ∨ q - vs.length = 1 := by
        have := (List.getElem?_eq_some_iff.1 hu).1
        simp at this; omega
      rcases hq2 with e1 | e1 <;> rw [e1] at hu <;> simp at hu <;> subst hu
      · rw [show q = N * 2 by omega]; exact a
      · rw [show q = N * 2 + 1 by omega]; exact b
section
variable {H : Type} {enc : TypeId × Value → H} {P : Program} {w : World} {base : Nat} {held : Bool}
theorem slice_pairs {fuel : Nat} {t e tb tu : TypeId} {f0 f1 : Field} {cs : List Value} {x : DataW H × List MemPlace} (ht : P.underlying t = some (.slice e)) (hs : P.underlying e = some (.struct #[f0, f1]))
    (h0 : f0.type = tb ∧ f0.offset = 0) (h1 : f1.type = tb ∧ f1.offset = 1) (hb : P.underlying tb = some (.slice tu)) (hu : P.underlying tu = some (.int .u8)) (c1 : P.cellsOf tb = 1) (cu : P.cellsOf tu = 1) (hC : P.cellsOf e = 2)
    (h : DataW.trod enc P w base (fun _ => true) held fuel t cs = some x) :
    ∃ A n c vs l, cs = [.slice A n c] ∧ Sl 2 w A n c vs ∧ EntsAt (fun b => b < w.heap.size) w vs l ∧ l.length = n := by
  rcases DataW.trod_slice ht h with ⟨rfl, _⟩ | ⟨a, len, cap, elems, rest, n, _, rfl, _, _, hle, hmax, hlen, hel, _, _⟩
  · exact ⟨none, 0, 0, [], [], rfl, Sl.nilS _ _, trivial, rfl⟩
  · have each : ∀ i, i < len → ∃ k v e, w.cell? (a.add (i * 2)) = some k ∧ w.cell? (a.add (i * 2 + 1)) = some v ∧ BV (fun b => b < w.heap.size) w k (Prod.fst (α := Bs) (β := Bs) e) ∧ BV (fun b => b < w.heap.size) w v e.2 := fun i hi => by
      have h2 := hel i hi
      rw [hC, List.getElem?_eq_getElem (by omega), Option.bind_eq_some_iff] at h2
      obtain ⟨cs', h3, h4⟩ := h2
      obtain ⟨y0, y1, m, _, hl, g0, g1⟩ := trod_struct2 hs h4
      rw [h0.1, h0.2, c1] at g0
      rw [h1.1, h1.2, c1] at g1
      rw [hC] at hl
      match cs', hl with
      | [k, v], _ =>
        obtain ⟨A0, n0, c0, b0, e0, by0⟩ := open_bytes hb hu cu g0
        obtain ⟨A1, n1, c1', b1, e1, by1⟩ := open_bytes hb hu cu g1
        simp only [List.drop_zero, List.drop_succ_cons, List.take_succ_cons, List.take_zero, List.cons.injEq, and_true] at e0 e1
        subst e0 e1
        have hc := (World.cells?_some h3).2.2
        refine ⟨_, _, (b0, b1), ?_, ?_, BV.of by0, BV.of by1⟩
        · have := hc 0 (by omega)
          rw [addr_add_add] at this
          simpa using this
        · have := hc 1 (by omega)
          rw [addr_add_add] at this
          simpa using this
    obtain ⟨vs, l, g1, g2, g3⟩ := pairs_of (C := fun q => w.cell? (a.add q)) each
    refine ⟨some a, len, cap, vs, l, rfl, ⟨by rw [g2.length, g1], hle, hmax, fun hpos => ?_, fun h => by cases h⟩, g2, g1⟩
    obtain ⟨b, off, spot⟩ := a
    have hv0 : 0 < vs.length := by rw [g2.length, g1]; omega
    have h01 := g3 0 _ (List.getElem?_eq_getElem hv0)
    have h02 : w.cell? ⟨b, off, spot⟩ = some (vs[0]'hv0) := by simpa [Addr.add] using h01
    have hspot : spot = none := by simpa using World.cell?_spot h02
    subst hspot
    refine ⟨b, off, rfl, ?_, fun q v hv => ?_⟩
    · have h := h02
      unfold World.cell? at h
      split at h
      · rename_i hh
        exact (Array.getElem?_eq_some_iff.1 hh).1
      · cases h
    · have := g3 q v hv
      rwa [add_plain] at this
end
end Gl
end

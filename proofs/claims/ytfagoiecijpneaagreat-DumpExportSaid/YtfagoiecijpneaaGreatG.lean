/- A part of the proof of the statement of this seat: no condition. -/
import Derived.WalkKit
import Derived.Maps.AppendAt
import Derived.Laws.MakeOwn
import Derived.WalkSmall
import Derived.Lib.Hide
import Derived.Deep.RegionLaw
import Derived.Test.YtfagoiecijpneaaGreatXA
set_option linter.unusedVariables false
set_option linter.unusedSimpArgs false
section
/- What lies in memory: rows of cells, bytes; what a call leaves as it was. -/
namespace Gl
open Go Go.RowKit

/-- From w to w' all lies as it lay, but the blocks of S, and new ones. -/
structure Upd (S : Nat → Prop) (w w' : World) : Prop where
  os : w'.os = w.os
  output : w'.output = w.output
  tape : w'.tape = w.tape
  size : w.heap.size ≤ w'.heap.size
  block : ∀ c, c < w.heap.size → ¬ S c → w'.heap[c]? = w.heap[c]?
abbrev New (w w' : World) : Prop := Upd (fun _ => False) w w'

section
variable {S S' : Nat → Prop} {w w' w'' : World}
theorem Upd.refl (S : Nat → Prop) (w : World) : Upd S w w := ⟨rfl, rfl, rfl, Nat.le_refl _, fun _ _ _ => rfl⟩
theorem Upd.trans (h : Upd S w w') (h' : Upd S w' w'') : Upd S w w'' :=
  ⟨h'.os.trans h.os, h'.output.trans h.output, h'.tape.trans h.tape, Nat.le_trans h.size h'.size, fun c hc hn => (h'.block c (Nat.lt_of_lt_of_le hc h.size) hn).trans (h.block c hc hn)⟩
theorem Upd.mono (h : Upd S w w') (hs : ∀ c, c < w.heap.size → S c → S' c) : Upd S' w w' := ⟨h.os, h.output, h.tape, h.size, fun c hc hn => h.block c hc (fun hh => hn (hs c hc hh))⟩
/-- what is written is new to the first world -/
theorem Upd.then (h : Upd S w w') (h' : Upd S' w' w'') (hs : ∀ c, c < w.heap.size → S' c → S c) : Upd S w w'' :=
  ⟨h'.os.trans h.os, h'.output.trans h.output, h'.tape.trans h.tape, Nat.le_trans h.size h'.size, fun c hc hn => (h'.block c (Nat.lt_of_lt_of_le hc h.size) (fun hh => hn (hs c hc hh))).trans (h.block c hc hn)⟩
theorem Upd.drew (h : Upd S w w') : Upd S w w'.drew := ⟨h.os, h.output, h.tape, h.size, h.block⟩
theorem Upd.drewN (h : Upd S w w') (n : Nat) : Upd S w (w'.drewN n) := ⟨h.os, h.output, h.tape, h.size, h.block⟩
theorem Upd.of_drew (h : Upd S w.drew w') : Upd S w w' := ⟨h.os, h.output, h.tape, h.size, h.block⟩
theorem Upd.alloc (S : Nat → Prop) (w : World) (o : Obj) : Upd S w (w.alloc o) :=
  ⟨rfl, rfl, rfl, by show w.heap.size ≤ (w.heap.push o).size; simp, fun c hc _ => by show (w.heap.push o)[c]? = _; rw [Array.getElem?_push_lt hc]; simp [hc]⟩
theorem Upd.setCell {a : Addr} (w : World) (v : Value) (hs : S a.block) : Upd S w (w.setCell a v) :=
  ⟨rfl, rfl, rfl, by simp [World.setCell], fun c hc hn => by
    have hne : c ≠ a.block := fun e => hn (e ▸ hs)
    simp only [World.setCell, Array.getElem?_modify]
    rw [if_neg (Ne.symm hne)]⟩
theorem Upd.of_grown {r : Option Nat} (h : w.grownBy w' r) (hs : ∀ c, r = some c → S c) : Upd S w w' :=
  ⟨h.os, h.output, h.tape, h.size, fun c hc hn => h.block c hc (fun e => hn (hs c e.symm))⟩
theorem Upd.frozen (h : Upd S w w') {a : Addr} (ha : a.block < w.heap.size) (hn : ¬ S a.block) : w'.frozen? a = w.frozen? a := by
  simp only [World.frozen?, h.block _ ha hn]
theorem Upd.cell (h : Upd S w w') {a : Addr} (ha : a.block < w.heap.size) (hn : ¬ S a.block) : w'.cell? a = w.cell? a := by
  simp only [World.cell?, h.block _ ha hn]
end

/-- The cells from offset off of block b hold the list. -/
def Row (w : World) (b off : Nat) (xs : List Value) : Prop := b < w.heap.size ∧ ∀ i v, xs[i]? = some v → w.cell? ⟨b, off + i, none⟩ = some v
section
variable {S : Nat → Prop} {w w' : World} {b off : Nat} {xs : List Value}
theorem Row.upd (h : Row w b off xs) (hu : Upd S w w') (hn : ¬ S b) : Row w' b off xs := ⟨Nat.lt_of_lt_of_le h.1 hu.size, fun i v hv => (hu.cell (a := ⟨b, off + i, none⟩) h.1 hn).trans (h.2 i v hv)⟩
theorem Row.drop (h : Row w b off xs) (n : Nat) : Row w b (off + n) (xs.drop n) := ⟨h.1, fun i v hv => by rw [Nat.add_assoc]; exact h.2 _ v (by rwa [List.getElem?_drop] at hv)⟩
theorem Row.take (h : Row w b off xs) (n : Nat) : Row w b off (xs.take n) := ⟨h.1, fun i v hv => by
  rw [List.getElem?_take] at hv
  split at hv
  · exact h.2 i v hv
  · cases hv⟩
end

/-- A slice value that reads as the list of cells (elements of k cells). -/
structure Sl (k : Nat) (w : World) (A : Option Addr) (n c : Nat) (xs : List Value) : Prop where
  len : xs.length = n * k
  le : n ≤ c
  max : c ≤ maxLen
  row : 0 < n → ∃ b off, A = some ⟨b, off, none⟩ ∧ Row w b off xs
  nil : A = none → c = 0
/-- does the slice lie in a block of S? -/
def Away (S : Nat → Prop) (A : Option Addr) (n : Nat) : Prop := ∀ a, A = some a → 0 < n → ¬ S a.block
section
variable {S : Nat → Prop} {w w' : World} {A : Option Addr} {k n c : Nat} {xs : List Value}
theorem Sl.upd (h : Sl k w A n c xs) (hu : Upd S w w') (hn : Away S A n) : Sl k w' A n c xs :=
  ⟨h.len, h.le, h.max, fun h0 => let ⟨b, off, e, hr⟩ := h.row h0; ⟨b, off, e, hr.upd hu (hn _ e h0)⟩, h.nil⟩
theorem Sl.new (h : Sl k w A n c xs) (hu : New w w') : Sl k w' A n c xs := h.upd hu (fun _ _ _ => id)
theorem Sl.nilS (k : Nat) (w : World) : Sl k w none 0 0 [] := ⟨by simp, Nat.le_refl _, Nat.zero_le _, fun h => absurd h (by omega), fun _ => rfl⟩
theorem Sl.lt (h : Sl k w A n c xs) {a : Addr} (ha : A = some a) (hn : 0 < n) : a.block < w.heap.size := by
  obtain ⟨b, off, e, hr⟩ := h.row hn
  rw [ha] at e
  injection e with e
  subst e
  exact hr.1
theorem Sl.drewN (h : Sl k w A n c xs) (m : Nat) : Sl k (w.drewN m) A n c xs := ⟨h.len, h.le, h.max, fun h0 => let ⟨b, off, e, hr⟩ := h.row h0; ⟨b, off, e, hr.1, hr.2⟩, h.nil⟩
end

/-! ### Bytes -/
abbrev u8 (n : Nat) : Value := .int .u8 (n : Int)
abbrev u64 (n : Nat) : Value := .int .u64 (n : Int)
def Small (bs : List Nat) : Prop := ∀ b ∈ bs, b < 256
/-- the slice reads as the bytes -/
structure By (w : World) (A : Option Addr) (n c : Nat) (bs : List Nat) : Prop where
  sl : Sl 1 w A n c (bs.map u8)
  small : Small bs
section
variable {S : Nat → Prop} {w w' : World} {A : Option Addr} {n c : Nat} {bs : List Nat}
theorem By.len (h : By w A n c bs) : bs.length = n := by have := h.sl.len; simpa using this
theorem By.upd (h : By w A n c bs) (hu : Upd S w w') (hn : Away S A n) : By w' A n c bs := ⟨h.sl.upd hu hn, h.small⟩
theorem By.new (h : By w A n c bs) (hu : New w w') : By w' A n c bs := ⟨h.sl.new hu, h.small⟩
theorem By.nil (w : World) : By w none 0 0 [] := ⟨Sl.nilS 1 w, fun b hb => by cases hb⟩
theorem By.cell (h : By w A n c bs) {b off : Nat} (hA : A = some ⟨b, off, none⟩) (i : Nat) (hi : i < bs.length) : w.cell? ⟨b, off + i, none⟩ = some (u8 bs[i]) := by
  obtain ⟨b', off', e, hr⟩ := h.sl.row (by have := h.len; omega)
  rw [hA] at e
  injection e with e
  injection e with e1 e2
  subst e1 e2
  exact hr.2 i _ (by simp [hi])
theorem By.addr (h : By w A n c bs) (hn : 0 < n) : ∃ b off, A = some ⟨b, off, none⟩ ∧ b < w.heap.size := by
  obtain ⟨b, off, e, hr⟩ := h.sl.row hn
  exact ⟨b, off, e, hr.1⟩
end

theorem run_shr_nat {P : Program} (x m : Nat) (y : Int) (hy : y = (m : Int)) (hm : m ≤ 64) (w : World) : (Op.shift .shr .u64 (x : Int) .i64 y).run P w = .ok (.int .u64 ((x / 2 ^ m : Nat) : Int)) w := by
  subst hy
  have h1 : ¬ ((m : Int) < 0) := by omega
  have h2 : min m (IntKind.bits .u64) = m := by show min m 64 = m; omega
  have h3 : (x : Int).fdiv (2 ^ m) = ((x / 2 ^ m : Nat) : Int) := by
    rw [Int.fdiv_eq_ediv_of_nonneg _ (by exact Int.le_of_lt (Int.pow_pos (by decide)))]
    simp
  simp only [Op.shift, if_neg h1, Int.toNat_natCast, h2, h3]
  rfl
theorem wrap_u8_nat (y : Nat) : IntKind.u8.wrap (y : Int) = ((y % 256 : Nat) : Int) := by
  simp [IntKind.wrap, IntKind.bits, IntKind.signed]
theorem or_bytes {X v : Nat} (hX : X < 72057594037927936) (hv : v < 256) : bits .or .u64 (IntKind.u64.wrap ((X : Int) * 256)) (IntKind.u64.wrap (v : Int)) = ((X * 256 + v : Nat) : Int) := by
  have h1 : IntKind.u64.wrap ((X : Int) * 256) = ((X * 256 : Nat) : Int) := by simp [IntKind.wrap, IntKind.bits, IntKind.signed]; omega
  have h2 : IntKind.u64.wrap (v : Int) = (v : Int) := by simp [IntKind.wrap, IntKind.bits, IntKind.signed]; omega
  rw [h1, h2]
  have h3 : (BitVec.ofInt (IntKind.bits .u64) ((X * 256 : Nat) : Int) ||| BitVec.ofInt (IntKind.bits .u64) (v : Int)).toNat = X * 256 + v := by
    rw [BitVec.toNat_or, BitVec.toNat_ofInt, BitVec.toNat_ofInt]
    have e1 : (((X * 256 : Nat) : Int) % ((2 ^ IntKind.bits .u64 : Nat) : Int)).toNat = 2 ^ 8 * X := by simp [IntKind.bits]; omega
    have e2 : ((v : Int) % ((2 ^ IntKind.bits .u64 : Nat) : Int)).toNat = v := by simp [IntKind.bits]; omega
    rw [e1, e2, ← Nat.two_pow_add_eq_or_of_lt (i := 8) hv X]
    omega
  show IntKind.u64.wrap ((BitVec.ofInt (IntKind.bits .u64) ((X * 256 : Nat) : Int) ||| BitVec.ofInt (IntKind.bits .u64) (v : Int)).toNat : Int) = _
  rw [h3]
  simp [IntKind.wrap, IntKind.bits, IntKind.signed]; omega
/-- a number's n low bytes, the highest first -/
def be : Nat → Nat → List Nat
  | 0, _ => []
  | n + 1, x => x / 2 ^ (8 * n) % 256 :: be n x
theorem be_length : ∀ n x, (be n x).length = n
  | 0, _ => rfl
  | n + 1, x => by simp [be, be_length n x]
theorem be_small : ∀ n x, Small (be n x)
  | 0, _, b, hb => by cases hb
  | n + 1, x, b, hb => by
    simp only [be, List.mem_cons] at hb
    rcases hb with rfl | hb
    · exact Nat.mod_lt _ (by omega)
    · exact be_small n x b hb
theorem be_get : ∀ (n x i : Nat), i < n → (be n x)[i]? = some (x / 2 ^ (8 * (n - 1 - i)) % 256)
  | 0, x, i, h => by omega
  | n + 1, x, 0, _ => by simp [be]
  | n + 1, x, i + 1, h => by
    simp only [be, List.getElem?_cons_succ]
    rw [be_get n x i (by omega), show n + 1 - 1 - (i + 1) = n - 1 - i by omega]
theorem be_take {k j x : Nat} (h0 : 0 < j) (hj : j ≤ k) : (be k x).take (k - j) ++ [x / 2 ^ (8 * (j - 1)) % 256] = (be k x).take (k - (j - 1)) := by
  rw [show k - (j - 1) = (k - j) + 1 by omega, List.take_add_one, be_get k x (k - j) (by omega), show k - 1 - (k - j) = j - 1 by omega]
  rfl
theorem Small.append {a b : List Nat} (ha : Small a) (hb : Small b) : Small (a ++ b) := fun x hx => (List.mem_append.1 hx).elim (ha x) (hb x)
/-- the number that bytes make, the highest first -/
def num (bs : List Nat) : Nat := bs.foldl (fun x b => x * 256 + b) 0
end Gl
end
section
/- Appends to rows of the call's own. -/
namespace Gl
open Go Go.RowKit

/-- An owned row's slice is nil or lies at the head of a block. -/
theorem ownsRow_form {w : World} {base : Nat} {e : TypeId} {size : Nat} {v : Value} {n : Nat} {xs : List Value} (h : w.ownsRow base e size v n xs) : ∃ A c, v = .slice A n c := by
  rcases h.2 with ⟨e, h0⟩ | ⟨g, cap, cur, e, _⟩
  · subst h0; exact ⟨_, _, e⟩
  · exact ⟨_, _, e⟩

theorem ownsRow_keep {w w' : World} {base : Nat} {e : TypeId} {size : Nat} {v : Value} {n : Nat} {xs : List Value} (h : w.ownsRow base e size v n xs) (hk : ∀ c, v.ownBlock = some c → c < w.heap.size → w'.heap[c]? = w.heap[c]?) : w'.ownsRow base e size v n xs := by
  refine ⟨h.1, ?_⟩
  rcases h.2 with h0 | ⟨g, cap, cur, rfl, h2, h3, h4⟩
  · exact .inl h0
  · exact .inr ⟨g, cap, cur, rfl, h2, (hk g rfl (Array.getElem?_eq_some_iff.1 h3).1).trans h3, h4⟩
theorem ownsRow_alloc {w : World} {base : Nat} {e : TypeId} {size : Nat} {v : Value} {n : Nat} {xs : List Value} (h : w.ownsRow base e size v n xs) (o : Obj) {W : World} (hW : W.heap = w.heap.push o) : W.ownsRow base e size v n xs :=
  ownsRow_keep h fun c _ hc => by rw [hW, Array.getElem?_push_lt hc]; simp [hc]
theorem ownsRow_lt {w : World} {base : Nat} {e : TypeId} {size : Nat} {v : Value} {n : Nat} {xs : List Value} (h : w.ownsRow base e size v n xs) {c : Nat} (hc : v.ownBlock = some c) : c < w.heap.size ∧ base ≤ c := by
  rcases h.2 with ⟨rfl, _⟩ | ⟨g, cap, cur, rfl, h2, h3, h4⟩
  · cases hc
  · cases hc; exact ⟨(Array.getElem?_eq_some_iff.1 h3).1, h2⟩
theorem Sl.of_own {w : World} {base : Nat} {e : TypeId} {k : Nat} {A : Option Addr} {n c : Nat} {xs : List Value} (h : w.ownsRow base e k (.slice A n c) n xs) : Sl k w A n c xs := by
  rcases h.2 with ⟨e, h0⟩ | ⟨g, cap, cur, e, _, hh, hnc, hm, _, ht⟩
  · injection e with e1 e2 e3
    subst e1 h0 e3
    exact ⟨h.1, Nat.le_refl _, Nat.zero_le _, fun h => absurd h (by omega), fun _ => rfl⟩
  · injection e with e1 _ e3
    subst e1 e3
    refine ⟨h.1, hnc, hm, fun _ => ⟨g, 0, rfl, (Array.getElem?_eq_some_iff.1 hh).1, fun i v hv => ?_⟩, fun e => by cases e⟩
    rw [← ht, List.getElem?_take] at hv
    split at hv
    · simp only [World.cell?, hh, Nat.zero_add]; simpa using hv
    · cases hv
theorem By.of_own {w : World} {base : Nat} {e : TypeId} {A : Option Addr} {n c : Nat} {bs : List Nat} (h : w.ownsRow base e 1 (.slice A n c) n (bs.map u8)) (hs : Small bs) : By w A n c bs := ⟨Sl.of_own h, hs⟩
/-- Where the source of an append lies: nowhere, if it has no element. -/
def Src (w : World) (A : Option Addr) (m : Nat) (news : List Value) : Prop :=
  0 < m → ∃ b off, A = some ⟨b, off, none⟩ ∧ ∀ (j : Nat) (u : Value), news[j]? = some u → w.cell? ⟨b, off + j, none⟩ = some u

section
variable {P : Program} (w : World)

theorem Src.of_sl {k : Nat} {w : World} {A : Option Addr} {n c : Nat} {xs : List Value} (h : Sl k w A n c xs) : Src w A n xs := fun hn => by
  obtain ⟨b, off, e, hr⟩ := h.row hn
  exact ⟨b, off, e, fun j u hu => hr.2 j u hu⟩
theorem run_append_src (base : Nat) (t ty e : TypeId) (i : TypeInfo) (z : Value) (size bytes : Nat) (ht : P.underlying t = some (.slice e)) (hi : P.info? e = some i) (hz : i.zero = some z)
    (hsize : i.size = size) (hby : i.bytes = bytes) (hzs : z.cells.size = size) (hsz : 0 < size)
    (v : Value) (n : Nat) (xs : List Value) (hown : w.ownsRow base e size v n xs)
    (A : Option Addr) (m c : Nat) (news : List Value) (hl : news.length = m * size) (hsrc : Src w A m news) (h1 : ∀ u ∈ news, u.oneCell' = true)
    (h63 : n + m ≤ maxLen) (hbytes : (n + m) * bytes ≤ 140737488355328) (hbase : base ≤ w.heap.size) :
    ∃ v' w', (Builtin.append_ #[t, t] ty #[v, .slice A m c]).run P w = .ok v' w' ∧ w'.ownsRow base e size v' (n + m) (xs ++ news) ∧ w.grownBy w' v.ownBlock ∧
      (v'.ownBlock = v.ownBlock ∨ v'.ownBlock = some w.heap.size) := by
  cases A with
  | none =>
    have hm : m = 0 := by
      rcases Nat.eq_zero_or_pos m with h0 | h0
      · exact h0
      · obtain ⟨b, off, h, _⟩ := hsrc h0; cases h
    subst hm
    have hn : news = [] := List.eq_nil_of_length_eq_zero (by simpa using hl)
    subst hn
    refine ⟨v, w, ?_, by simpa using hown, ⟨rfl, rfl, rfl, Nat.le_refl _, fun _ _ _ => rfl⟩, .inl rfl⟩
    rcases hown.2 with ⟨rfl, rfl⟩ | ⟨g, cap, cur, rfl, _, _, hnc, _⟩
    · simp [Builtin.append_, run_underlying ht, Go.sizeOf, typeInfo, hi, Builtin.lenOf, Builtin.firstCells]
    · simp [Builtin.append_, run_underlying ht, Go.sizeOf, typeInfo, hi, Builtin.lenOf, Builtin.firstCells, hnc, storeCells]
  | some ad =>
    have hnews : ∀ j u, news[j]? = some u → w.cell? (ad.add j) = some u := by
      intro j u hu
      rcases Nat.eq_zero_or_pos m with h0 | h0
      · subst h0
        have hn : news = [] := List.eq_nil_of_length_eq_zero (by simpa using hl)
        subst hn; simp at hu
      · obtain ⟨b, off, h, hc⟩ := hsrc h0
        injection h with h
        subst h
        have := hc j u hu
        rwa [show (⟨b, off, none⟩ : Addr).add j = ⟨b, off + j, none⟩ from by unfold Addr.add; split <;> simp_all]
    obtain ⟨v', w', hr, h2, h3, _, h5⟩ := run_append_own_at (P := P) w base t ty e i z size bytes ht hi hz hsize hby hzs hsz v n xs hown ad m c news hl hnews h1 h63 hbytes hbase
    exact ⟨v', w', hr, h2, h3, h5⟩

theorem wpList_append_src {ops : Array Oper} {rest : List Oper} {o : Oper} {a : Act} {Q : Exit → Act → World → Prop} (hgd : o.guard = none) (s x : Operand) (t : TypeId)
    (ho : o.op = .call { callee := .builtin .append, args := #[s, x], argTypes := #[t, t] })
    (base : Nat) (e : TypeId) (i : TypeInfo) (z : Value) (size bytes : Nat) (ht : P.underlying t = some (.slice e)) (hi : P.info? e = some i) (hz : i.zero = some z)
    (hsize : i.size = size) (hby : i.bytes = bytes) (hzs : z.cells.size = size) (hsz : 0 < size)
    (v : Value) (n : Nat) (xs : List Value) (hs : a.eval s = v) (hown : w.ownsRow base e size v n xs)
    (A : Option Addr) (m c : Nat) (news : List Value) (hx : a.eval x = .slice A m c) (hl : news.length = m * size) (hsrc : Src w A m news) (h1 : ∀ u ∈ news, u.oneCell' = true)
    (h63 : n + m ≤ maxLen) (hbytes : (n + m) * bytes ≤ 140737488355328) (hbase : base ≤ w.heap.size)
    (h : ∀ A' c' w', w'.ownsRow base e size (.slice A' (n + m) c') (n + m) (xs ++ news) → w.grownBy w' v.ownBlock → ((Value.slice A' (n + m) c').ownBlock = v.ownBlock ∨ (Value.slice A' (n + m) c').ownBlock = some w.heap.size) → wpList P ops Q rest (a.put o.dst (.slice A' (n + m) c')) w') :
    wpList P ops Q (o :: rest) a w := by
  refine wpList_plain hgd fun K hK => ?_
  obtain ⟨v', w', hr, h2, h3, h4⟩ := run_append_src (P := P) w base t o.type e i z size bytes ht hi hz hsize hby hzs hsz v n xs hown A m c news hl hsrc h1 h63 hbytes hbase
  obtain ⟨A', c', rfl⟩ := ownsRow_form h2
  unfold Oper.wp execOp
  simp only [ho, resolve, invoke, builtin, Sem.run_bind, Sem.run_pure, Result.andThen_ok, List.map_toArray, List.map_cons, List.map_nil, hs, hx, hr]
  exact hK _ _ (h A' c' w' h2 h3 h4)
end


section
variable {P : Program}
theorem step_append_src {ops : Array Oper} {o : Oper} {a : Act} {w : World} {K : Act → World → Prop} {Q : Exit → Act → World → Prop} {E : Prop}
    (hg : o.guard = none) (s x : Operand) (t : TypeId) (hop : o.op = Op.call { callee := Callee.builtin Builtin.append, args := #[s, x], argTypes := #[t, t] })
    (base : Nat) (e : TypeId) (i : TypeInfo) (z : Value) (size bytes : Nat) (ht : P.underlying t = some (.slice e)) (hi : P.info? e = some i) (hz : i.zero = some z)
    (hsize : i.size = size) (hby : i.bytes = bytes) (hzs : z.cells.size = size) (hsz : 0 < size)
    (v : Value) (n : Nat) (xs : List Value) (hs : a.eval s = v) (hown : w.ownsRow base e size v n xs)
    (A : Option Addr) (m c : Nat) (news : List Value) (hx : a.eval x = .slice A m c) (hl : news.length = m * size) (hsrc : Src w A m news) (h1 : ∀ u ∈ news, u.oneCell' = true)
    (h63 : n + m ≤ maxLen) (hbytes : (n + m) * bytes ≤ 140737488355328) (hbase : base ≤ w.heap.size)
    (hK : ∀ A' c' w', w'.ownsRow base e size (.slice A' (n + m) c') (n + m) (xs ++ news) → w.grownBy w' v.ownBlock → ((Value.slice A' (n + m) c').ownBlock = v.ownBlock ∨ (Value.slice A' (n + m) c').ownBlock = some w.heap.size) → K (a.put o.dst (.slice A' (n + m) c')) w') :
    if Region.wanted o (yielded ops a.tmps) = true then Oper.wp P o a w K Q else E := by
  have hw : Region.wanted o (yielded ops a.tmps) = true := by simp [Region.wanted, hg]
  rw [if_pos hw]
  obtain ⟨v', w', hr, h2, h3, h4⟩ := run_append_src (P := P) w base t o.type e i z size bytes ht hi hz hsize hby hzs hsz v n xs hown A m c news hl hsrc h1 h63 hbytes hbase
  obtain ⟨A', c', rfl⟩ := ownsRow_form h2
  unfold Oper.wp execOp
  simp only [hop, resolve, invoke, builtin, Sem.run_bind, Sem.run_pure, Result.andThen_ok, List.map_toArray, List.map_cons, List.map_nil, hs, hx, hr]
  exact hK _ _ _ h2 h3 h4
end
end Gl
end
section
namespace Gl
open Go Go.RowKit
/-- the string of bytes -/
def strB (bs : List Nat) : ByteArray := (List.map (fun n : Nat => (n : Int)) bs).foldl (fun r n => r.push (UInt8.ofNat n.toNat)) ByteArray.empty
theorem strB_list (bs : List Nat) : (strB bs).data.toList = bs.map fun n => UInt8.ofNat n := by
  unfold strB
  rw [Ex.foldl_push, show ByteArray.empty.data.toList = [] from rfl, List.nil_append, List.map_map]
  rfl
theorem strB_inj {a b : List Nat} (ha : Small a) (hb : Small b) (h : strB a = strB b) : a = b := by
  have h1 := congrArg (fun s => s.data.toList.map UInt8.toNat) h
  simp only [strB_list, List.map_map] at h1
  have e : ∀ l : List Nat, Small l → l.map (UInt8.toNat ∘ fun n => UInt8.ofNat n) = l := fun l hl => by
    conv => rhs; rw [← List.map_id l]
    apply List.map_congr_left
    intro x hx
    have := hl x hx
    simp [UInt8.toNat_ofNat']
    omega
  rw [e a ha, e b hb] at h1
  exact h1
theorem conv_by {P : Program} {w : World} {A : Option Addr} {n c : Nat} {bs : List Nat} {s d e : TypeId} (h : By w A n c bs) (hu : P.underlying s = some (.slice e)) (he : P.underlying e = some (.int .u8)) (hd : P.underlying d = some .string) : (convert s d (.slice A n c)).run P w = .ok (.string (strB bs)) w := by
  rw [run_convert_bytes_string w s d e A n c hu he hd]
  have hlen := h.len
  cases A with
  | none =>
    have hc := h.sl.nil rfl
    have hn : n = 0 := by have := h.sl.le; omega
    subst hn
    have : bs = [] := List.length_eq_zero_iff.1 hlen
    subst this
    subst hc
    rfl
  | some a =>
    have hf : (Builtin.firstCells 1 n (.slice (some a) n c)).run P w = .ok ((List.map (fun n : Nat => (n : Int)) bs).map (Value.int .u8)).toArray w := by
      rcases Nat.eq_zero_or_pos n with h0 | h0
      · subst h0
        have : bs = [] := List.length_eq_zero_iff.1 hlen
        subst this; rfl
      · obtain ⟨b, off, e, hr⟩ := h.sl.row h0
        cases e
        have := Go.run_firstCells_some (P := P) (w := w) 1 n ⟨b, off, none⟩ n c (bs.map u8) (by simp [hlen]) (fun j v hv => by rw [Ex.addr_add]; exact hr.2 j v hv)
        rw [this]
        congr 2
        simp
    simp only [Builtin.firstCells, Nat.mul_one] at hf
    rw [run_bytesToString w a n c _ hf]
    rfl
end Gl
end

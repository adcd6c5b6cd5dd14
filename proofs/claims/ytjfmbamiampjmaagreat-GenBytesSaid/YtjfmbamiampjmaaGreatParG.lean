/- A part of the proof of the statement of this seat: no condition. -/
import Derived.Test.YtjfmbamiampjmaaGreatDecL
set_option linter.unusedVariables false
set_option linter.unusedSimpArgs false
namespace Go.Proofs.YtjfmbamiampjmaaGreat
open Go Go.RowKit Go.Proofs Gl

theorem num_append (a b : List Nat) : num (a ++ b) = num a * 256 ^ b.length + num b := by
  suffices h : ∀ (l : List Nat) (x : Nat), l.foldl (fun x b => x * 256 + b) x = x * 256 ^ l.length + l.foldl (fun x b => x * 256 + b) 0 by
    unfold num
    rw [List.foldl_append, h b]
  intro l
  induction l with
  | nil => intro x; simp
  | cons c l ih =>
    intro x
    simp only [List.foldl_cons, List.length_cons]
    rw [ih (x * 256 + c), ih (0 * 256 + c), Nat.pow_succ]
    rw [Nat.add_mul, Nat.zero_mul, Nat.zero_add, Nat.mul_assoc, Nat.mul_comm 256, Nat.add_assoc]
theorem num_be : ∀ (k x : Nat), num (be k x) = x % 256 ^ k
  | 0, x => by simp [be, num, Nat.mod_one]
  | k + 1, x => by
    rw [be, show (x / 2 ^ (8 * k) % 256 :: be k x) = [x / 2 ^ (8 * k) % 256] ++ be k x from rfl, num_append, num_be k x, be_length]
    have h8 : (2 : Nat) ^ (8 * k) = 256 ^ k := by rw [Nat.pow_mul]
    rw [h8]
    simp only [num, List.foldl_cons, List.foldl_nil, Nat.zero_mul, Nat.zero_add]
    rw [Nat.pow_succ, Nat.mod_mul, Nat.mul_comm (x / 256 ^ k % 256), Nat.add_comm]
theorem rd_be {k x : Nat} {rest : List Nat} (hx : x < 256 ^ k) : rV k (be k x ++ rest, 0) = x ∧ rU k (be k x ++ rest, 0) = (rest, 0) := by
  have hok : rOk k (be k x ++ rest) 0 = true := decide_eq_true ⟨rfl, by rw [List.length_append, be_length]; omega⟩
  unfold rV rU rv rb re
  rw [hok]
  have h1 : (be k x ++ rest).take k = be k x := by rw [List.take_append_of_le_length (by rw [be_length]; exact Nat.le_refl _), List.take_of_length_le (by rw [be_length]; exact Nat.le_refl _)]
  have h2 : (be k x ++ rest).drop k = rest := by rw [List.drop_append, be_length, Nat.sub_self, List.drop_eq_nil_of_le (by rw [be_length]; exact Nat.le_refl _)]; rfl
  simp only [if_pos, h1, h2, num_be, Nat.mod_eq_of_lt hx]
  exact ⟨trivial, trivial⟩
theorem items_be : ∀ (xs rest : List Nat), Big xs → items xs.length (xs.flatMap (be 8) ++ rest, 0) = (xs, (rest, 0))
  | [], rest, _ => rfl
  | x :: xs, rest, hb => by
    have h := rd_be (k := 8) (x := x) (rest := xs.flatMap (be 8) ++ rest) (hb x (by simp))
    simp only [List.length_cons, items, List.flatMap_cons, List.append_assoc]
    rw [h.1, h.2, items_be xs rest (fun y hy => hb y (by simp [hy]))]
theorem lloop_be (m : Nat) : ∀ (n : Nat) (xs rest acc : List Nat), xs.length = n * m → Big xs → lloop m n (xs.flatMap (be 8) ++ rest, 0) acc = (some (acc ++ xs), (rest, 0))
  | 0, xs, rest, acc, hl, _ => by
    have : xs = [] := List.length_eq_zero_iff.1 (by omega)
    subst this
    simp [lloop]
  | n + 1, xs, rest, acc, hl, hb => by
    have hsplit : xs.flatMap (be 8) ++ rest = (xs.take m).flatMap (be 8) ++ ((xs.drop m).flatMap (be 8) ++ rest) := by
      rw [← List.append_assoc, ← List.flatMap_append, List.take_append_drop]
    have hlm : (xs.take m).length = m := by rw [List.length_take, hl, Nat.succ_mul]; omega
    have hi := items_be (xs.take m) ((xs.drop m).flatMap (be 8) ++ rest) (fun x hx => hb x (List.mem_of_mem_take hx))
    rw [hlm] at hi
    simp only [lloop, if_pos]
    rw [hsplit, hi]
    simp only
    rw [lloop_be m n (xs.drop m) rest (acc ++ xs.take m) (by rw [List.length_drop, hl, Nat.succ_mul]; omega) (fun x hx => hb x (List.mem_of_mem_drop hx)), List.append_assoc, List.take_append_drop]
theorem lst_be {m most n : Nat} {xs rest : List Nat} (hn : n ≤ most) (hm : most ≤ 256) (hl : xs.length = n * m) (hb : Big xs) : lst m most (be 4 n ++ (xs.flatMap (be 8) ++ rest), 0) = (some xs, (rest, 0)) := by
  have h := rd_be (k := 4) (x := n) (rest := xs.flatMap (be 8) ++ rest) (by omega)
  unfold lst
  rw [h.1, h.2, if_pos hn, lloop_be m n xs rest [] hl hb]
  rfl

/-- what bytes decode to -/
def dec (bs : List Nat) : Option (List Nat × List Nat × List Nat) :=
  match lst 2 256 (items 10 (rU 4 (bs, 0))).2 with
  | (none, _) => none
  | (some xs, s3) => match lst 3 64 s3 with
    | (none, _) => none
    | (some ys, s4) => if s4.2 = 0 ∧ s4.1 = [] ∧ genBytes (items 10 (rU 4 (bs, 0))).1 xs ys (xs.length / 2) (ys.length / 3) = bs then some ((items 10 (rU 4 (bs, 0))).1, xs, ys) else none

theorem gen_read {ps xs ys rest : List Nat} {na nv : Nat} (hp : ps.length = 10) (hpb : Big ps) (hxb : Big xs) (hyb : Big ys) (hx : xs.length = na * 2) (hy : ys.length = nv * 3) (hna : na ≤ 256) (hnv : nv ≤ 64) :
    items 10 (rU 4 (genBytes ps xs ys na nv ++ rest, 0)) = (ps, (be 4 na ++ (xs.flatMap (be 8) ++ (be 4 nv ++ (ys.flatMap (be 8) ++ rest))), 0)) ∧
    lst 2 256 (be 4 na ++ (xs.flatMap (be 8) ++ (be 4 nv ++ (ys.flatMap (be 8) ++ rest))), 0) = (some xs, (be 4 nv ++ (ys.flatMap (be 8) ++ rest), 0)) ∧ lst 3 64 (be 4 nv ++ (ys.flatMap (be 8) ++ rest), 0) = (some ys, (rest, 0)) := by
  refine ⟨?_, lst_be hna (by omega) hx hxb, lst_be hnv (by omega) hy hyb⟩
  have e : genBytes ps xs ys na nv ++ rest = be 4 1196183089 ++ (ps.flatMap (be 8) ++ (be 4 na ++ (xs.flatMap (be 8) ++ (be 4 nv ++ (ys.flatMap (be 8) ++ rest))))) := by
    unfold genBytes; simp only [List.append_assoc]
  rw [e, (rd_be (k := 4) (by omega)).2, ← hp]
  exact items_be ps _ hpb
theorem dec_gen {ps xs ys : List Nat} {na nv : Nat} (hp : ps.length = 10) (hpb : Big ps) (hxb : Big xs) (hyb : Big ys) (hx : xs.length = na * 2) (hy : ys.length = nv * 3) (hna : na ≤ 256) (hnv : nv ≤ 64) : dec (genBytes ps xs ys na nv) = some (ps, xs, ys) := by
  obtain ⟨h1, h2, h3⟩ := gen_read (rest := []) hp hpb hxb hyb hx hy hna hnv
  rw [List.append_nil] at h1
  unfold dec
  rw [h1]
  simp only
  rw [h2]
  simp only
  rw [h3]
  simp only
  rw [if_pos ⟨trivial, trivial, by rw [hx, hy, Nat.mul_div_cancel _ (by omega), Nat.mul_div_cancel _ (by omega)]⟩]
theorem dec_more {ps xs ys : List Nat} {na nv z : Nat} (hp : ps.length = 10) (hpb : Big ps) (hxb : Big xs) (hyb : Big ys) (hx : xs.length = na * 2) (hy : ys.length = nv * 3) (hna : na ≤ 256) (hnv : nv ≤ 64) : dec (genBytes ps xs ys na nv ++ [z]) = none := by
  obtain ⟨h1, h2, h3⟩ := gen_read (rest := [z]) hp hpb hxb hyb hx hy hna hnv
  unfold dec
  rw [h1]
  simp only
  rw [h2]
  simp only
  rw [h3]
  simp only
  rw [if_neg (fun h => by have := h.2.1; cases this)]
theorem dec_back {bs ps xs ys : List Nat} (h : dec bs = some (ps, xs, ys)) : genBytes ps xs ys (xs.length / 2) (ys.length / 3) = bs := by
  unfold dec at h
  split at h
  · cases h
  · split at h
    · cases h
    · split at h
      · rename_i hh
        cases h
        exact hh.2.2
      · cases h
theorem flat_length (xs : List Nat) : (xs.flatMap (be 8)).length = 8 * xs.length := by
  induction xs with
  | nil => rfl
  | cons x xs ih => simp only [List.flatMap_cons, List.length_append, be_length, ih, List.length_cons]; omega
theorem gen_length {ps xs ys : List Nat} {na nv : Nat} : (genBytes ps xs ys na nv).length = 12 + 8 * (ps.length + xs.length + ys.length) := by
  unfold genBytes
  simp only [List.length_append, be_length, flat_length]
  omega
end Go.Proofs.YtjfmbamiampjmaaGreat

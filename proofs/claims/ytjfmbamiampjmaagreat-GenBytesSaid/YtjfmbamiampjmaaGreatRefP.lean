/- A part of the proof of the statement of this seat: no condition. -/
import Derived.Test.YtjfmbamiampjmaaGreatParG
set_option linter.unusedVariables false
set_option linter.unusedSimpArgs false
namespace Go.Proofs.YtjfmbamiampjmaaGreat
open Go Go.RowKit Go.Proofs Gl
/-- what bytes decode to, the reference's way -/
def refdec (bs : List Nat) : Option (List Nat × List Nat × List Nat) :=
  if rV 4 (bs, 0) ≠ 1196183089 ∨ (rU 4 (bs, 0)).1.length < 80 then none
  else if 256 < rV 4 ((rU 4 (bs, 0)).1.drop 80, 0) then none
  else if 64 < rV 4 (items (rV 4 ((rU 4 (bs, 0)).1.drop 80, 0) * 2) (rU 4 ((rU 4 (bs, 0)).1.drop 80, 0))).2 then none
  else if (items (rV 4 (items (rV 4 ((rU 4 (bs, 0)).1.drop 80, 0) * 2) (rU 4 ((rU 4 (bs, 0)).1.drop 80, 0))).2 * 3) (rU 4 (items (rV 4 ((rU 4 (bs, 0)).1.drop 80, 0) * 2) (rU 4 ((rU 4 (bs, 0)).1.drop 80, 0))).2)).2 = ([], 0) ∧
      genBytes (items 10 ((rU 4 (bs, 0)).1.take 80, 0)).1 (items (rV 4 ((rU 4 (bs, 0)).1.drop 80, 0) * 2) (rU 4 ((rU 4 (bs, 0)).1.drop 80, 0))).1 (items (rV 4 (items (rV 4 ((rU 4 (bs, 0)).1.drop 80, 0) * 2) (rU 4 ((rU 4 (bs, 0)).1.drop 80, 0))).2 * 3) (rU 4 (items (rV 4 ((rU 4 (bs, 0)).1.drop 80, 0) * 2) (rU 4 ((rU 4 (bs, 0)).1.drop 80, 0))).2)).1 (rV 4 ((rU 4 (bs, 0)).1.drop 80, 0)) (rV 4 (items (rV 4 ((rU 4 (bs, 0)).1.drop 80, 0) * 2) (rU 4 ((rU 4 (bs, 0)).1.drop 80, 0))).2) = bs then
    some ((items 10 ((rU 4 (bs, 0)).1.take 80, 0)).1, (items (rV 4 ((rU 4 (bs, 0)).1.drop 80, 0) * 2) (rU 4 ((rU 4 (bs, 0)).1.drop 80, 0))).1, (items (rV 4 (items (rV 4 ((rU 4 (bs, 0)).1.drop 80, 0) * 2) (rU 4 ((rU 4 (bs, 0)).1.drop 80, 0))).2 * 3) (rU 4 (items (rV 4 ((rU 4 (bs, 0)).1.drop 80, 0) * 2) (rU 4 ((rU 4 (bs, 0)).1.drop 80, 0))).2)).1)
  else none
theorem ritems_length : ∀ (m : Nat) (s : RS), (items m s).1.length = m
  | 0, _ => rfl
  | m + 1, s => by simp only [items, List.length_cons, ritems_length m]
theorem refdec_gen {ps xs ys : List Nat} {na nv : Nat} (hp : ps.length = 10) (hpb : Big ps) (hxb : Big xs) (hyb : Big ys) (hx : xs.length = na * 2) (hy : ys.length = nv * 3) (hna : na ≤ 256) (hnv : nv ≤ 64) : refdec (genBytes ps xs ys na nv) = some (ps, xs, ys) := by
  obtain ⟨bs, hbs⟩ : ∃ bs, bs = genBytes ps xs ys na nv := ⟨_, rfl⟩
  have e : genBytes ps xs ys na nv = be 4 1196183089 ++ (ps.flatMap (be 8) ++ (be 4 na ++ (xs.flatMap (be 8) ++ (be 4 nv ++ (ys.flatMap (be 8) ++ []))))) := by
    unfold genBytes; simp only [List.append_assoc, List.append_nil]
  have h4 : rV 4 (bs, 0) = 1196183089 ∧ rU 4 (bs, 0) = (ps.flatMap (be 8) ++ (be 4 na ++ (xs.flatMap (be 8) ++ (be 4 nv ++ (ys.flatMap (be 8) ++ [])))), 0) := by
    rw [hbs, e]; exact rd_be (by omega)
  have hpl : (ps.flatMap (be 8)).length = 80 := by rw [flat_length, hp]
  have ht : (rU 4 (bs, 0)).1.take 80 = ps.flatMap (be 8) := by
    rw [h4.2, List.take_append_of_le_length (by omega), List.take_of_length_le (by omega)]
  have hd : (rU 4 (bs, 0)).1.drop 80 = be 4 na ++ (xs.flatMap (be 8) ++ (be 4 nv ++ (ys.flatMap (be 8) ++ []))) := by
    rw [h4.2, List.drop_append, hpl, List.drop_eq_nil_of_le (by omega)]; rfl
  have hi : items 10 ((rU 4 (bs, 0)).1.take 80, 0) = (ps, ([], 0)) := by
    rw [ht]
    have := items_be ps [] hpb
    rw [hp, List.append_nil] at this
    exact this
  have h5 : rV 4 ((rU 4 (bs, 0)).1.drop 80, 0) = na ∧ rU 4 ((rU 4 (bs, 0)).1.drop 80, 0) = (xs.flatMap (be 8) ++ (be 4 nv ++ (ys.flatMap (be 8) ++ [])), 0) := by
    rw [hd]; exact rd_be (by omega)
  have hix : items (na * 2) (xs.flatMap (be 8) ++ (be 4 nv ++ (ys.flatMap (be 8) ++ [])), 0) = (xs, (be 4 nv ++ (ys.flatMap (be 8) ++ []), 0)) := by
    rw [← hx]; exact items_be xs _ hxb
  have h6 : rV 4 (be 4 nv ++ (ys.flatMap (be 8) ++ []), 0) = nv ∧ rU 4 (be 4 nv ++ (ys.flatMap (be 8) ++ []), 0) = (ys.flatMap (be 8) ++ [], 0) := rd_be (by omega)
  have hiy : items (nv * 3) (ys.flatMap (be 8) ++ [], 0) = (ys, ([], 0)) := by
    rw [← hy]; exact items_be ys _ hyb
  rw [← hbs]
  unfold refdec
  rw [hi, h5.1, h5.2, hix]
  simp only
  rw [h6.1, h6.2, hiy, ← hbs]
  have hlen : ¬ (rU 4 (bs, 0)).1.length < 80 := by rw [h4.2]; simp only [List.length_append]; omega
  rw [if_neg (by rintro (h | h); exact h h4.1; exact hlen h), if_neg (by omega), if_neg (by omega), if_pos ⟨rfl, rfl⟩]
theorem refdec_eq {bs : List Nat} (hs : Small bs) : refdec bs = dec bs := by
  cases hd : dec bs with
  | some t =>
    obtain ⟨ps, xs, ys⟩ := t
    have hb := dec_back hd
    have hd' := hd
    unfold dec at hd'
    split at hd'
    · cases hd'
    · rename_i xs' s3 h1
      split at hd'
      · cases hd'
      · rename_i ys' s4 h2
        split at hd'
        · rename_i hh
          cases hd'
          have hi10 := items_big 10 (rU 4 (bs, 0)) (small_rU (s := (bs, 0)) hs)
          have key : ∀ (m most : Nat) (s : RS) (l : List Nat) (s' : RS), Small s.1 → most ≤ 256 → lst m most s = (some l, s') → Big l ∧ (∃ n, n ≤ most ∧ l.length = n * m) ∧ Small s'.1 := fun m most s l s' h0 hm h => by
            unfold lst at h
            split at h
            · rename_i hle
              have aux : ∀ (n : Nat) (s : RS) (acc l : List Nat) (s' : RS), Small s.1 → Big acc → lloop m n s acc = (some l, s') → Big l ∧ l.length = acc.length + n * m ∧ Small s'.1 := by
                intro n
                induction n with
                | zero => intro s acc l s' h0 hb h; simp only [lloop, Prod.mk.injEq, Option.some.injEq] at h; obtain ⟨rfl, rfl⟩ := h; exact ⟨hb, by omega, h0⟩
                | succ n ih =>
                  intro s acc l s' h0 hb h
                  simp only [lloop] at h
                  split at h
                  · have hsm : ∀ (k : Nat) (s : RS), Small s.1 → Small (items k s).2.1 := by
                      intro k
                      induction k with
                      | zero => intro s h; exact h
                      | succ k ih => intro s h; exact ih _ (small_rU h)
                    obtain ⟨a, b, c⟩ := ih _ _ _ _ (hsm m s h0) (fun x hx => (List.mem_append.1 hx).elim (hb x) (items_big m s h0 x)) h
                    refine ⟨a, ?_, c⟩
                    rw [b, List.length_append, ritems_length, Nat.succ_mul]; omega
                  · cases h
              obtain ⟨a, b, c⟩ := aux _ _ _ _ _ (small_rU h0) (fun x hx => by cases hx) h
              exact ⟨a, ⟨_, hle, by simpa using b⟩, c⟩
            · cases h
          have hsm : ∀ (k : Nat) (s : RS), Small s.1 → Small (items k s).2.1 := by
            intro k
            induction k with
            | zero => intro s h; exact h
            | succ k ih => intro s h; exact ih _ (small_rU h)
          obtain ⟨b1, ⟨na, hna, l1⟩, sm3⟩ := key 2 256 _ _ _ (hsm 10 _ (small_rU (s := (bs, 0)) hs)) (by omega) h1
          obtain ⟨b2, ⟨nv, hnv, l2⟩, _⟩ := key 3 64 _ _ _ sm3 (by omega) h2
          rw [l1, l2, Nat.mul_div_cancel _ (by omega), Nat.mul_div_cancel _ (by omega)] at hb
          rw [← hb]
          have := refdec_gen (ritems_length 10 _) hi10 b1 b2 l1 l2 hna hnv
          rw [hb] at this ⊢
          exact this
        · cases hd'
  | none =>
    unfold refdec
    split
    · rfl
    · split
      · rfl
      · split
        · rfl
        · split
          · rename_i h1 h2 h3 h4
            exfalso
            have hsm : ∀ (k : Nat) (s : RS), Small s.1 → Small (items k s).2.1 := by
              intro k
              induction k with
              | zero => intro s h; exact h
              | succ k ih => intro s h; exact ih _ (small_rU h)
            have s1 : Small (rU 4 (bs, 0)).1 := small_rU (s := (bs, 0)) hs
            have s2 : Small ((rU 4 (bs, 0)).1.drop 80) := fun x hx => s1 x (List.mem_of_mem_drop hx)
            have s2' : Small (rU 4 ((rU 4 (bs, 0)).1.drop 80, 0)).1 := small_rU (s := ((rU 4 (bs, 0)).1.drop 80, 0)) s2
            have s3 := hsm (rV 4 ((rU 4 (bs, 0)).1.drop 80, 0) * 2) _ s2'
            have hg := dec_gen (na := rV 4 ((rU 4 (bs, 0)).1.drop 80, 0)) (nv := rV 4 (items (rV 4 ((rU 4 (bs, 0)).1.drop 80, 0) * 2) (rU 4 ((rU 4 (bs, 0)).1.drop 80, 0))).2) (ritems_length 10 ((rU 4 (bs, 0)).1.take 80, 0)) (items_big 10 ((rU 4 (bs, 0)).1.take 80, 0) (fun x hx => s1 x (List.mem_of_mem_take hx))) (items_big (rV 4 ((rU 4 (bs, 0)).1.drop 80, 0) * 2) _ s2') (items_big _ _ (small_rU (k := 4) s3)) (ritems_length _ _) (ritems_length _ _) (by omega) (by omega)
            rw [h4.2, hd] at hg
            cases hg
          · rfl
end Go.Proofs.YtjfmbamiampjmaaGreat

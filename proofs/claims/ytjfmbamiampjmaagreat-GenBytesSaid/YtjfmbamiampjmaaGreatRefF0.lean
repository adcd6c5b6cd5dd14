/- A part of the proof of the statement of this seat: no condition. -/
import Derived.Test.YtjfmbamiampjmaaGreatRefC
import Derived.Test.YtjfmbamiampjmaaGreatRefE
import Derived.Test.YtjfmbamiampjmaaGreatRefP
import Derived.Test.YtjfmbamiampjmaaGreatLC
set_option linter.unusedVariables false
set_option linter.unusedSimpArgs false
namespace Go.Proofs.YtjfmbamiampjmaaGreat
open Go Go.RowKit Go.Proofs Gl
theorem items_add : ∀ (a b : Nat) (s : RS), items (a + b) s = ((items a s).1 ++ (items b (items a s).2).1, (items b (items a s).2).2)
  | 0, b, s => by simp [items]
  | a + 1, b, s => by rw [show a + 1 + b = (a + b) + 1 by omega, items_step, items_add a b]; simp [items]
theorem items_two (j : Nat) (s : RS) : items (2 * (j + 1)) s = ((items (2 * j) s).1 ++ [rV 8 (items (2 * j) s).2, rV 8 (rU 8 (items (2 * j) s).2)], rU 8 (rU 8 (items (2 * j) s).2)) := by
  rw [show 2 * (j + 1) = 2 * j + 2 by omega, items_add]; rfl
theorem items_three (j : Nat) (s : RS) : items (3 * (j + 1)) s = ((items (3 * j) s).1 ++ [rV 8 (items (3 * j) s).2, rV 8 (rU 8 (items (3 * j) s).2), rV 8 (rU 8 (rU 8 (items (3 * j) s).2))], rU 8 (rU 8 (rU 8 (items (3 * j) s).2))) := by
  rw [show 3 * (j + 1) = 3 * j + 3 by omega, items_add]; rfl
theorem small_items : ∀ (k : Nat) (s : RS), Small s.1 → Small (items k s).2.1
  | 0, _, h => h
  | k + 1, s, h => small_items k _ (small_rU h)
set_option maxHeartbeats 400000 in
theorem putg10 {W : World} {b : Nat} {t : TypeId} {c0 c1 c2 c3 c4 c5 c6 c7 c8 c9 c10 c11 : Value} (h : W.heap[b]? = some (.cells #[c0, c1, c2, c3, c4, c5, c6, c7, c8, c9, c10, c11] t (0, 0))) (v0 v1 v2 v3 v4 v5 v6 v7 v8 v9 : Value) : ((((((((((W.setCell ⟨b, 0, none⟩ v0).setCell ⟨b, 1, none⟩ v1).setCell ⟨b, 2, none⟩ v2).setCell ⟨b, 3, none⟩ v3).setCell ⟨b, 4, none⟩ v4).setCell ⟨b, 5, none⟩ v5).setCell ⟨b, 6, none⟩ v6).setCell ⟨b, 7, none⟩ v7).setCell ⟨b, 8, none⟩ v8).setCell ⟨b, 9, none⟩ v9).heap[b]? = some (.cells #[v0, v1, v2, v3, v4, v5, v6, v7, v8, v9, c10, c11] t (0, 0)) ∧ Upd (fun c => c = b) W ((((((((((W.setCell ⟨b, 0, none⟩ v0).setCell ⟨b, 1, none⟩ v1).setCell ⟨b, 2, none⟩ v2).setCell ⟨b, 3, none⟩ v3).setCell ⟨b, 4, none⟩ v4).setCell ⟨b, 5, none⟩ v5).setCell ⟨b, 6, none⟩ v6).setCell ⟨b, 7, none⟩ v7).setCell ⟨b, 8, none⟩ v8).setCell ⟨b, 9, none⟩ v9) := by
  obtain ⟨h1, -⟩ := putc (i := 0) h (by simp) v0
  simp only [List.setIfInBounds_toArray, List.set_cons_succ, List.set_cons_zero] at h1
  obtain ⟨h2, -⟩ := putc (i := 1) h1 (by simp) v1
  simp only [List.setIfInBounds_toArray, List.set_cons_succ, List.set_cons_zero] at h2
  obtain ⟨h3, -⟩ := putc (i := 2) h2 (by simp) v2
  simp only [List.setIfInBounds_toArray, List.set_cons_succ, List.set_cons_zero] at h3
  obtain ⟨h4, -⟩ := putc (i := 3) h3 (by simp) v3
  simp only [List.setIfInBounds_toArray, List.set_cons_succ, List.set_cons_zero] at h4
  obtain ⟨h5, -⟩ := putc (i := 4) h4 (by simp) v4
  simp only [List.setIfInBounds_toArray, List.set_cons_succ, List.set_cons_zero] at h5
  obtain ⟨h6, -⟩ := putc (i := 5) h5 (by simp) v5
  simp only [List.setIfInBounds_toArray, List.set_cons_succ, List.set_cons_zero] at h6
  obtain ⟨h7, -⟩ := putc (i := 6) h6 (by simp) v6
  simp only [List.setIfInBounds_toArray, List.set_cons_succ, List.set_cons_zero] at h7
  obtain ⟨h8, -⟩ := putc (i := 7) h7 (by simp) v7
  simp only [List.setIfInBounds_toArray, List.set_cons_succ, List.set_cons_zero] at h8
  obtain ⟨h9, -⟩ := putc (i := 8) h8 (by simp) v8
  simp only [List.setIfInBounds_toArray, List.set_cons_succ, List.set_cons_zero] at h9
  obtain ⟨h10, -⟩ := putc (i := 9) h9 (by simp) v9
  simp only [List.setIfInBounds_toArray, List.set_cons_succ, List.set_cons_zero] at h10
  exact ⟨h10, ((((((((((Upd.refl _ W).trans (Upd.setCell (S := fun c => c = b) (a := ⟨b, 0, none⟩) _ _ rfl)).trans (Upd.setCell (S := fun c => c = b) (a := ⟨b, 1, none⟩) _ _ rfl)).trans (Upd.setCell (S := fun c => c = b) (a := ⟨b, 2, none⟩) _ _ rfl)).trans (Upd.setCell (S := fun c => c = b) (a := ⟨b, 3, none⟩) _ _ rfl)).trans (Upd.setCell (S := fun c => c = b) (a := ⟨b, 4, none⟩) _ _ rfl)).trans (Upd.setCell (S := fun c => c = b) (a := ⟨b, 5, none⟩) _ _ rfl)).trans (Upd.setCell (S := fun c => c = b) (a := ⟨b, 6, none⟩) _ _ rfl)).trans (Upd.setCell (S := fun c => c = b) (a := ⟨b, 7, none⟩) _ _ rfl)).trans (Upd.setCell (S := fun c => c = b) (a := ⟨b, 8, none⟩) _ _ rfl)).trans (Upd.setCell (S := fun c => c = b) (a := ⟨b, 9, none⟩) _ _ rfl)⟩
theorem by_zero {w : World} {A A' : Option Addr} {n c k : Nat} {bs : List Nat} (h : By w A n c bs) (hk : n - k = 0) (hA : A' ≠ none) : By w A' (n - k) 0 (bs.drop k) := by
  have e0 : bs.drop k = [] := List.drop_eq_nil_of_le (by have := h.len; omega)
  rw [e0, hk]
  exact ⟨⟨by simp, Nat.le_refl _, Nat.zero_le _, fun h => absurd h (by omega), fun _ => rfl⟩, fun x hx => by cases hx⟩
/-- the reference's Decode, all read -/
structure ED (w0 W : World) (G : Array Value) : Prop where
  g : W.heap[w0.heap.size + 1 + 1]? = some (.cells G 28 (0, 0))
  r : W.heap[w0.heap.size]? = some (.cells Z12 28 (0, 0))
  new : New w0 W
/-- the reference's Decode at work -/
structure DR (w0 W : World) (s : RS) (G : Array Value) : Prop where
  rd : Rs w0.heap.size (w0.heap.size + 1) W s
  g : W.heap[w0.heap.size + 1 + 1]? = some (.cells G 28 (0, 0))
  r : W.heap[w0.heap.size]? = some (.cells Z12 28 (0, 0))
  new : New w0 W
section
variable {w0 W W' : World} {s : RS} {G G' : Array Value}
theorem DR.upd {S : Nat → Prop} (h : DR w0 W s G) (hu : Upd S W W') (hS : ∀ b, b < w0.heap.size + 3 → ¬ S b) : DR w0 W' s G :=
  ⟨h.rd.upd hu (hS _ (by omega)) (fun b hb => hS b (by omega)), (hu.block _ (Array.getElem?_eq_some_iff.1 h.g).1 (hS _ (by omega))).trans h.g, (hu.block _ (Array.getElem?_eq_some_iff.1 h.r).1 (hS _ (by omega))).trans h.r, h.new.then hu (fun c hc e => hS c (by omega) e)⟩
theorem DR.fresh (h : DR w0 W s G) (hu : New W W') : DR w0 W' s G := h.upd hu (fun _ _ => id)
theorem DR.size (h : DR w0 W s G) : w0.heap.size + 3 ≤ W.heap.size := by have := (Array.getElem?_eq_some_iff.1 h.g).1; omega
theorem DR.put (h : DR w0 W s G) (i : Nat) (v : Value) (hi : i < G.size) (e : G.setIfInBounds i v = G') : DR w0 (W.setCell ⟨w0.heap.size + 1 + 1, i, none⟩ v) s G' := by
  subst e
  have hu : Upd (fun b => b = w0.heap.size + 1 + 1) W (W.setCell ⟨w0.heap.size + 1 + 1, i, none⟩ v) := Upd.setCell W v rfl
  exact ⟨h.rd.upd hu (by omega) (fun b hb => by omega), (putc h.g hi v).1, (hu.block _ (Array.getElem?_eq_some_iff.1 h.r).1 (by omega)).trans h.r, h.new.then hu (fun c hc e => by omega)⟩
theorem DR.num (h : DR w0 W s G) (k : Nat) (hk0 : 0 < k) (hk : k ≤ 8) : Calls Tryz.prog 27 #[.pointer (some ⟨w0.heap.size + 1, 0, none⟩), .int .i64 (k : Int)] W fun e w' => e = .returned (.int .u64 (rV k s : Int)) ∧ DR w0 w' (rU k s) G ∧ Upd (fun b => b = w0.heap.size + 1) W w' :=
  (h.rd.num k hk0 hk).mono fun e w' ⟨he, hu, hr⟩ => ⟨he, ⟨hr, (hu.block _ (Array.getElem?_eq_some_iff.1 h.g).1 (by omega)).trans h.g, (hu.block _ (Array.getElem?_eq_some_iff.1 h.r).1 (by omega)).trans h.r, h.new.then hu (fun c hc e => by omega)⟩, hu⟩
theorem DR.fin (h : DR w0 W s G) : Calls Tryz.prog 29 #[.pointer (some ⟨w0.heap.size + 1, 0, none⟩)] W fun e w' => e = .returned (.int .i64 ((if s.2 = 0 ∧ 0 < s.1.length then 43 else s.2 : Nat) : Int)) ∧ Upd (fun b => b = w0.heap.size + 1) W w' := by
  obtain ⟨A, n, c, hR, _⟩ := h.rd
  rw [hR.by_.len]
  exact endR_c hR
theorem DR.moved (h : DR w0 W s G) (hu : Upd (fun b => b = w0.heap.size + 1 + 1) W W') (hg : W'.heap[w0.heap.size + 1 + 1]? = some (.cells G' 28 (0, 0))) : DR w0 W' s G' :=
  ⟨h.rd.upd hu (by omega) (fun b hb => by omega), hg, (hu.block _ (Array.getElem?_eq_some_iff.1 h.r).1 (by omega)).trans h.r, h.new.then hu (fun c hc e => by omega)⟩
theorem DR.next (h : DR w0 W s G) {A : Option Addr} {n c : Nat} {l : List Nat} {err : Nat} (hR : Rq w0.heap.size (w0.heap.size + 1) W A n c l err) {A' : Option Addr} {n' c' : Nat} {l' : List Nat} (hb : By W A' n' c' l') (hn : n' ≤ 1073741824) (ho : ∀ a, A' = some a → 0 < n' → a.block < w0.heap.size) : DR w0 (W.setCell ⟨w0.heap.size + 1, 0, none⟩ (.slice A' n' c')) (l', err) G := by
  have hu : Upd (fun b => b = w0.heap.size + 1) W (W.setCell ⟨w0.heap.size + 1, 0, none⟩ (.slice A' n' c')) := Upd.setCell W _ rfl
  exact ⟨⟨A', n', c', hR.next hb ho, hn⟩, (hu.block _ (Array.getElem?_eq_some_iff.1 h.g).1 (by omega)).trans h.g, (hu.block _ (Array.getElem?_eq_some_iff.1 h.r).1 (by omega)).trans h.r, h.new.then hu (fun c hc e => by omega)⟩
theorem DR.ended (h : DR w0 W s G) (hu : Upd (fun b => b = w0.heap.size + 1) W W') : ED w0 W' G := ⟨(hu.block _ (Array.getElem?_eq_some_iff.1 h.g).1 (by omega)).trans h.g, (hu.block _ (Array.getElem?_eq_some_iff.1 h.r).1 (by omega)).trans h.r, h.new.then hu (fun c hc e => by omega)⟩
theorem ED.fresh (h : ED w0 W G) (hu : New W W') : ED w0 W' G := ⟨(hu.block _ (Array.getElem?_eq_some_iff.1 h.g).1 id).trans h.g, (hu.block _ (Array.getElem?_eq_some_iff.1 h.r).1 id).trans h.r, h.new.trans hu⟩
theorem ED.rz (h : ED w0 W G) : W.heap[w0.heap.size]? = some (.cells #[.int .u64 0, .int .u64 0, .int .u64 0, .int .u64 0, .int .u64 0, .int .u64 0, .int .u64 0, .int .u64 0, .int .u64 0, .int .u64 0, .slice none 0 0, .slice none 0 0] 28 (0, 0)) := h.r
theorem DR.rz (h : DR w0 W s G) : W.heap[w0.heap.size]? = some (.cells #[.int .u64 0, .int .u64 0, .int .u64 0, .int .u64 0, .int .u64 0, .int .u64 0, .int .u64 0, .int .u64 0, .int .u64 0, .int .u64 0, .slice none 0 0, .slice none 0 0] 28 (0, 0)) := h.r
end
end Go.Proofs.YtjfmbamiampjmaaGreat

/- A part of the proof of the statement of this seat: no condition. -/
import Derived.Test.YtjfmbamiampjmaaGreatDecD
import Derived.Test.YtjfmbamiampjmaaGreatSameG
import Derived.Test.YtjfmbamiampjmaaGreatKMok
set_option linter.unusedVariables false
set_option linter.unusedSimpArgs false
namespace Go.Proofs.YtjfmbamiampjmaaGreat
open Go Go.RowKit Go.Proofs Gl

theorem new_of_fresh {w w' : World} (h : Ex.Fresh w w') : New w w' := ⟨h.1, h.2.1, h.2.2.1, h.2.2.2.1, fun c hc _ => h.2.2.2.2 c hc⟩
theorem fresh_of_new {w w' : World} (h : New w w') : Ex.Fresh w w' := ⟨h.os, h.output, h.tape, h.size, fun c hc => h.block c hc id⟩
theorem c12 {W : World} {b : Nat} {t : TypeId} {v0 v1 v2 v3 v4 v5 v6 v7 v8 v9 v10 v11 : Value} (h : W.heap[b]? = some (.cells #[v0, v1, v2, v3, v4, v5, v6, v7, v8, v9, v10, v11] t (0, 0))) : (W.cell? ⟨b, 0, none⟩ = some v0 ∧ W.cell? ⟨b, 1, none⟩ = some v1 ∧ W.cell? ⟨b, 2, none⟩ = some v2 ∧ W.cell? ⟨b, 3, none⟩ = some v3 ∧ W.cell? ⟨b, 4, none⟩ = some v4 ∧ W.cell? ⟨b, 5, none⟩ = some v5 ∧ W.cell? ⟨b, 6, none⟩ = some v6 ∧ W.cell? ⟨b, 7, none⟩ = some v7 ∧ W.cell? ⟨b, 8, none⟩ = some v8 ∧ W.cell? ⟨b, 9, none⟩ = some v9 ∧ W.cell? ⟨b, 10, none⟩ = some v10 ∧ W.cell? ⟨b, 11, none⟩ = some v11) ∧ W.frozen? ⟨b, 0, none⟩ = false ∧ W.frozen? ⟨b, 1, none⟩ = false ∧ W.frozen? ⟨b, 2, none⟩ = false ∧ W.frozen? ⟨b, 3, none⟩ = false ∧ W.frozen? ⟨b, 4, none⟩ = false ∧ W.frozen? ⟨b, 5, none⟩ = false ∧ W.frozen? ⟨b, 6, none⟩ = false ∧ W.frozen? ⟨b, 7, none⟩ = false ∧ W.frozen? ⟨b, 8, none⟩ = false ∧ W.frozen? ⟨b, 9, none⟩ = false ∧ W.frozen? ⟨b, 10, none⟩ = false ∧ W.frozen? ⟨b, 11, none⟩ = false := by
  simp [World.cell?, World.frozen?, h]

set_option maxHeartbeats 4000000 in
set_option maxRecDepth 100000 in
theorem decode_long {w : World} {A : Option Addr} {n c : Nat} (h : 65536 < n) :
    Calls Tryz.prog 8 #[.slice A n c] w fun e w' => New w w' ∧ e = .returned (.tuple #[.agg Z12, .int .i64 211]) := by
  have hn3 : decide ((65536 : Int) < (n : Int)) = true := decide_eq_true (by omega)
  have h1 : (w.alloc (.cells Z12 28)).heap[w.heap.size]? = some (.cells Z12 28 (0, 0)) := Ex.alloc_new w _
  unfold Z12 at h1
  obtain ⟨⟨r0, r1, r2, r3, r4, r5, r6, r7, r8, r9, r10, r11⟩, z0, z1, z2, z3, z4, z5, z6, z7, z8, z9, z10, z11⟩ := c12 h1
  obtain ⟨q0, q1, q2, q3, q4, q5, q6, q7, q8, q9, q10, q11, hup⟩ := put12 (by rfl) h1 (.int .u64 0) (.int .u64 0) (.int .u64 0) (.int .u64 0) (.int .u64 0) (.int .u64 0) (.int .u64 0) (.int .u64 0) (.int .u64 0) (.int .u64 0) (.slice none 0 0) (.slice none 0 0)
  have hnew : New w (w.alloc (.cells Z12 28)) := Upd.alloc _ _ _
  have HU := Lib.hid hup; have HN := Lib.hid hnew
  clear hup hnew h1
  go_enter Tryz.func8, Tryz.ntmps8
  go_wp2
  refine bodyPost_ret (by simp [results, Tryz.results8, go_sem, r0, r1, r2, r3, r4, r5, r6, r7, r8, r9, r10, r11]; try rfl) rfl ?_
  exact ⟨HN.out, rfl⟩

theorem Decd.some_ {w w' : World} {bs ps xs ys : List Nat} {e : Ending} (h : Decd w bs e w') (hd : dec bs = some (ps, xs, ys)) : New w w' ∧ ∃ p0 p1 p2 p3 p4 p5 p6 p7 p8 p9 Aa na ca Av nv cv, ps = [p0, p1, p2, p3, p4, p5, p6, p7, p8, p9] ∧ e = .returned (.tuple #[.agg (gen p0 p1 p2 p3 p4 p5 p6 p7 p8 p9 Aa na ca Av nv cv), .int .i64 0]) ∧
      Sl 2 w' Aa na ca (xs.map u64) ∧ Sl 3 w' Av nv cv (ys.map u64) ∧ Big ps ∧ Big xs ∧ Big ys ∧ na ≤ 256 ∧ nv ≤ 256 ∧ (∀ a, Aa = some a → w.heap.size ≤ a.block) ∧ ∀ a, Av = some a → w.heap.size ≤ a.block := by
  unfold Decd at h
  rw [hd] at h
  exact h
theorem Decd.none_ {w w' : World} {bs : List Nat} {e : Ending} (h : Decd w bs e w') (hd : dec bs = none) : New w w' ∧ e = .returned (.tuple #[.agg Z12, .int .i64 210]) := by
  unfold Decd at h
  rw [hd] at h
  exact h

end Go.Proofs.YtjfmbamiampjmaaGreat

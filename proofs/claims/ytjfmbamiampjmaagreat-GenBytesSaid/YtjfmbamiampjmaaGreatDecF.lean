/- A part of the proof of the statement of this seat: no condition. -/
import Derived.Test.YtjfmbamiampjmaaGreatDecG
set_option linter.unusedVariables false
set_option linter.unusedSimpArgs false
namespace Go.Proofs.YtjfmbamiampjmaaGreat
open Go Go.RowKit Go.Proofs Gl

theorem three_cells {w : World} {b : Nat} {u v z x y x3 : Value} {t : TypeId} (h : w.heap[b]? = some (.cells #[u, v, z] t (0, 0))) : (w.setCell ⟨b, 0, none⟩ x).cell? ⟨b, 0, none⟩ = some x ∧ ((w.setCell ⟨b, 0, none⟩ x).setCell ⟨b, 1, none⟩ y).cell? ⟨b, 1, none⟩ = some y ∧
    (((w.setCell ⟨b, 0, none⟩ x).setCell ⟨b, 1, none⟩ y).setCell ⟨b, 2, none⟩ x3).cell? ⟨b, 2, none⟩ = some x3 := by
  simp [World.cell?, World.setCell, Array.getElem?_modify, h]
set_option maxHeartbeats 2000000 in
set_option maxRecDepth 100000 in
theorem founder_c {lo B br : Nat} {w : World} {s : RS} (h : At lo B br w s) (hB : B ≤ w.heap.size) :
    Calls Tryz.prog 24 #[.agg #[.pointer (some ⟨br, 0, none⟩)]] w fun e w' => e = .returned (.agg #[.int .u64 (rV 8 s : Int), .int .u64 (rV 8 (rU 8 s) : Int), .int .u64 (rV 8 (rU 8 (rU 8 s)) : Int)]) ∧ At lo B br w' (rU 8 (rU 8 (rU 8 s))) ∧ Upd (fun b => b = br) w w' := by
  have hA0 : At lo B br ((w.alloc (.cells #[.pointer (some ⟨br, 0, none⟩)] 63)).alloc (.cells #[.int .u64 0, .int .u64 0, .int .u64 0] 45)).drew s :=
    h.upd (S := fun _ => False) (((Upd.alloc _ w _).trans (Upd.alloc _ _ _)).drew) (fun _ _ _ => id)
  have hc1 := hA0.u64
  have hlt := h.lt
  have Hk : ∀ W', Upd (fun b => b = br) ((w.alloc (.cells #[.pointer (some ⟨br, 0, none⟩)] 63)).alloc (.cells #[.int .u64 0, .int .u64 0, .int .u64 0] 45)).drew W' →
      W'.cell? ⟨w.heap.size, 0, none⟩ = some (.pointer (some ⟨br, 0, none⟩)) ∧ W'.cell? ⟨w.heap.size + 1, 0, none⟩ = some (.int .u64 0) ∧ W'.cell? ⟨w.heap.size + 1, 1, none⟩ = some (.int .u64 0) ∧ W'.cell? ⟨w.heap.size + 1, 2, none⟩ = some (.int .u64 0) ∧ W'.frozen? ⟨w.heap.size + 1, 0, none⟩ = false ∧ W'.frozen? ⟨w.heap.size + 1, 1, none⟩ = false ∧ W'.frozen? ⟨w.heap.size + 1, 2, none⟩ = false ∧ Upd (fun b => b = br) w W' ∧ Hid (W'.heap[w.heap.size + 1]? = some (.cells #[.int .u64 0, .int .u64 0, .int .u64 0] 45 (0, 0))) := fun W' hu => by
    obtain ⟨h1, h2, h3⟩ := two_new hB hlt hu
    exact ⟨cells_at h1 0 _ rfl, cells_at h2 0 _ rfl, cells_at h2 1 _ rfl, cells_at h2 2 _ rfl, fz_at h2 0, fz_at h2 1, fz_at h2 2, h3, Lib.hid h2⟩
  have hres : ∀ W2 s, At lo B br W2 s → Upd (fun b => b = br) w W2 → ∀ x y z : Value, At lo B br (((W2.setCell ⟨w.heap.size + 1, 0, none⟩ x).setCell ⟨w.heap.size + 1, 1, none⟩ y).setCell ⟨w.heap.size + 1, 2, none⟩ z) s ∧ Upd (fun b => b = br) w (((W2.setCell ⟨w.heap.size + 1, 0, none⟩ x).setCell ⟨w.heap.size + 1, 1, none⟩ y).setCell ⟨w.heap.size + 1, 2, none⟩ z) := fun W2 s h1 h2 x y z => by
    have hu : Upd (fun b => b = w.heap.size + 1) W2 (((W2.setCell ⟨w.heap.size + 1, 0, none⟩ x).setCell ⟨w.heap.size + 1, 1, none⟩ y).setCell ⟨w.heap.size + 1, 2, none⟩ z) :=
      ((Upd.setCell (S := fun b => b = w.heap.size + 1) (a := ⟨w.heap.size + 1, 0, none⟩) W2 x rfl).trans (Upd.setCell (a := ⟨w.heap.size + 1, 1, none⟩) _ y rfl)).trans (Upd.setCell (a := ⟨w.heap.size + 1, 2, none⟩) _ z rfl)
    exact ⟨h1.upd hu (fun b _ hb e => by omega), h2.then hu (fun c hc e => by omega)⟩
  obtain ⟨x, hx⟩ : ∃ x, x = rV 8 s := ⟨_, rfl⟩
  obtain ⟨y, hy⟩ : ∃ y, y = rV 8 (rU 8 s) := ⟨_, rfl⟩
  obtain ⟨z, hz⟩ : ∃ z, z = rV 8 (rU 8 (rU 8 s)) := ⟨_, rfl⟩
  rw [← hx, ← hy, ← hz]
  rw [← hx] at hc1
  have HK := Lib.hid Hk; have HR := Lib.hid hres; have HY := Lib.hid hy; have HZ := Lib.hid hz; have HC := Lib.hid hc1
  clear h hx hy hz hB hA0 hlt Hk hres hc1
  go_enter Tryz.func24, Tryz.ntmps24
  go_wp2
  go_region_with (first
    | (go_at_call 20; refine HC.out.mono ?_; rintro e W1 ⟨rfl, hA1, hu1⟩; obtain ⟨f1, f2, f3, f4, f5, f6, f7, f8, f9⟩ := HK.out W1 hu1; have hc2 := Lib.hid hA1.u64; rw [← HY.out] at hc2)
    | (go_at_call 20; refine hc2.out.mono ?_; rintro e W2 ⟨rfl, hA2, hu2⟩; obtain ⟨g1, g2, g3, g4, g5, g6, g7, g8, g9⟩ := HK.out W2 (hu1.trans hu2); have hc3 := Lib.hid hA2.u64; rw [← HZ.out] at hc3)
    | (go_at_call 20; refine hc3.out.mono ?_; rintro e W3 ⟨rfl, hA3, hu3⟩; obtain ⟨k1, k2, k3, k4, k5, k6, k7, k8, k9⟩ := HK.out W3 ((hu1.trans hu2).trans hu3)))
  all_goals go_wp2
  all_goals
    obtain ⟨q1, q2, q3⟩ := three_cells (x := .int .u64 (x : Int)) (y := .int .u64 (y : Int)) (x3 := .int .u64 (z : Int)) k9.out
    refine bodyPost_ret (by simp [results, Tryz.results24, go_sem, q1, q2, q3]; try rfl) rfl ?_
    exact ⟨rfl, HR.out W3 _ hA3 k8 _ _ _⟩
end Go.Proofs.YtjfmbamiampjmaaGreat

/- A part of the proof of the statement of this seat: no condition. -/
import Derived.Test.YtjfmbamiampjmaaGreatLawA
set_option linter.unusedVariables false
set_option linter.unusedSimpArgs false
section
namespace Go.Proofs.YtjfmbamiampjmaaGreat
open Go Go.RowKit Go.Proofs Gl
/-- What the append and the second Decode leave as it was. -/
theorem after_app {w W1 W2 W3 W4 W5 : World} {A2 : Option Addr} {n2 c2 : Nat} {l : List Value} {o o2 og : Obj} (h1 : W1.heap[w.heap.size]? = some og) (h2 : New W1 W2) (ho : W2.ownsRow W1.heap.size 5 1 (.slice A2 n2 c2) n2 l) (h3 : New W2 W3) (h4 : ((W3.alloc o).alloc o2).grownBy W4 (Value.slice A2 n2 c2).ownBlock) (h5 : New W4 W5) (hw : w.heap.size < W1.heap.size) :
    W5.heap[W3.heap.size]? = some o ∧ W5.heap[w.heap.size]? = some og ∧ Upd (fun b => W1.heap.size ≤ b ∧ b < W2.heap.size) W3 W5 := by
  have hu4 := Upd.of_grown (S := fun b => W1.heap.size ≤ b ∧ b < W2.heap.size) h4 (fun c hc => ⟨(ownsRow_lt ho hc).2, (ownsRow_lt ho hc).1⟩)
  have hu5 : Upd (fun b => W1.heap.size ≤ b ∧ b < W2.heap.size) ((W3.alloc o).alloc o2) W5 := hu4.trans (h5.mono (fun _ _ h => h.elim))
  have hu : Upd (fun b => W1.heap.size ≤ b ∧ b < W2.heap.size) W3 W5 := ((Upd.alloc _ _ _).trans (Upd.alloc _ _ _)).trans hu5
  have s2 := h2.size
  have s3 := h3.size
  have hsz : W3.heap.size < ((W3.alloc o).alloc o2).heap.size := by
    show W3.heap.size < ((W3.heap.push o).push o2).size
    simp only [Array.size_push]; omega
  refine ⟨(hu5.block _ hsz (by omega)).trans (two_alloc W3 o o2).1, (hu.block _ (by omega) (by omega)).trans ((h3.block _ (by omega) id).trans ((h2.block _ hw id).trans h1)), hu⟩
end Go.Proofs.YtjfmbamiampjmaaGreat
end
section
namespace Go.Proofs.YtjfmbamiampjmaaGreat
open Go Go.RowKit Go.Proofs Gl
/-- Slices older than the call, and slices newer than the append's row, stay. -/
theorem sl_old {w W1 W2 W3 W5 : World} {k : Nat} {A : Option Addr} {n c : Nat} {l : List Value} (h : Sl k w A n c l) (h1 : New w W1) (h2 : New W1 W2) (h3 : New W2 W3) (hu : Upd (fun b => W1.heap.size ≤ b ∧ b < W2.heap.size) W3 W5) : Sl k W5 A n c l :=
  (((h.new h1).new h2).new h3).upd hu (fun a ha hn hS => by
    have := (h.new h1).lt ha hn
    omega)
theorem sl_new {W1 W2 W3 W5 : World} {k : Nat} {A : Option Addr} {n c : Nat} {l : List Value} (h : Sl k W3 A n c l) (hf : ∀ a, A = some a → W2.heap.size ≤ a.block) (hu : Upd (fun b => W1.heap.size ≤ b ∧ b < W2.heap.size) W3 W5) : Sl k W5 A n c l :=
  h.upd hu (fun a ha hn hS => by have := hf a ha; omega)
end Go.Proofs.YtjfmbamiampjmaaGreat
end
section
namespace Go.Proofs.YtjfmbamiampjmaaGreat
open Go Go.RowKit Go.Proofs Gl
theorem by_old {w W1 W2 W3 W5 : World} {A : Option Addr} {n c : Nat} {l : List Nat} (h : By w A n c l) (h1 : New w W1) (h2 : New W1 W2) (h3 : New W2 W3) (hu : Upd (fun b => W1.heap.size ≤ b ∧ b < W2.heap.size) W3 W5) : By W5 A n c l :=
  ⟨sl_old h.sl h1 h2 h3 hu, h.small⟩
end Go.Proofs.YtjfmbamiampjmaaGreat
end
section
namespace Go.Proofs.YtjfmbamiampjmaaGreat
open Go Go.RowKit Go.Proofs Gl
theorem Lrow {W1 W2 W3 : World} {t : TypeId} {A : Option Addr} {n c : Nat} {l : List Value} (h : W2.ownsRow W1.heap.size 5 1 (.slice A n c) n l) (h3 : New W2 W3) : (W3.alloc (.cells #[.int .u8 0] t)).ownsRow W1.heap.size 5 1 (.slice A n c) n l :=
  ownsRow_alloc (w := W3) (ownsRow_keep h (fun b _ hl => h3.block b hl id)) _ rfl
theorem Lsrc (W3 : World) (t : TypeId) : Gl.Src (W3.alloc (.cells #[.int .u8 0] t)) (some ⟨W3.heap.size, 0, none⟩) 1 ([0].map Gl.u8) := fun _ => ⟨_, _, rfl, fun i u hu => by
  refine cells_at (t := t) (cs := #[.int .u8 0]) (Ex.alloc_new W3 _) _ u ?_
  rw [Nat.zero_add]; simpa [Gl.u8] using hu⟩
theorem Lsrc2 (W3 : World) (o : Obj) (t : TypeId) : Gl.Src ((W3.alloc o).alloc (.cells #[.int .u8 0] t)) (some ⟨W3.heap.size + 1, 0, none⟩) 1 ([0].map Gl.u8) := by
  have h := Lsrc (W3.alloc o) t
  rwa [show (W3.alloc o).heap.size = W3.heap.size + 1 from by show (W3.heap.push _).size = _; simp] at h
theorem Lsz {W1 W2 W3 : World} (h2 : New W1 W2) (h3 : New W2 W3) (o : Obj) : W1.heap.size ≤ (W3.alloc o).heap.size := by
  have h1 := h2.size; have h2 := h3.size
  show _ ≤ (W3.heap.push _).size
  simp; omega
set_option maxHeartbeats 400000 in
theorem put12h {W : World} {b : Nat} {t : TypeId} {c0 c1 c2 c3 c4 c5 c6 c7 c8 c9 c10 c11 : Value} (h : W.heap[b]? = some (.cells #[c0, c1, c2, c3, c4, c5, c6, c7, c8, c9, c10, c11] t (0, 0))) (v0 v1 v2 v3 v4 v5 v6 v7 v8 v9 v10 v11 : Value) : ((((((((((((W.setCell ⟨b, 0, none⟩ v0).setCell ⟨b, 1, none⟩ v1).setCell ⟨b, 2, none⟩ v2).setCell ⟨b, 3, none⟩ v3).setCell ⟨b, 4, none⟩ v4).setCell ⟨b, 5, none⟩ v5).setCell ⟨b, 6, none⟩ v6).setCell ⟨b, 7, none⟩ v7).setCell ⟨b, 8, none⟩ v8).setCell ⟨b, 9, none⟩ v9).setCell ⟨b, 10, none⟩ v10).setCell ⟨b, 11, none⟩ v11).heap[b]? = some (.cells #[v0, v1, v2, v3, v4, v5, v6, v7, v8, v9, v10, v11] t (0, 0)) ∧ Upd (fun c => c = b) W ((((((((((((W.setCell ⟨b, 0, none⟩ v0).setCell ⟨b, 1, none⟩ v1).setCell ⟨b, 2, none⟩ v2).setCell ⟨b, 3, none⟩ v3).setCell ⟨b, 4, none⟩ v4).setCell ⟨b, 5, none⟩ v5).setCell ⟨b, 6, none⟩ v6).setCell ⟨b, 7, none⟩ v7).setCell ⟨b, 8, none⟩ v8).setCell ⟨b, 9, none⟩ v9).setCell ⟨b, 10, none⟩ v10).setCell ⟨b, 11, none⟩ v11) := by
  obtain ⟨h1, -⟩ := putc (i := 0) h (by simp) v0
  simp only [List.setIfInBounds_toArray, List.set_cons_succ, List.set_cons_zero] at h1
  obtain ⟨h2, -⟩ := putc (i := 1) h1 (by simp) v1
  simp only [List.setIfInBounds_toArray, List.set_cons_succ, List.set_cons_zero] at h2
  obtain ⟨h3, -⟩ := putc (i := 2) h2 (by simp) v2
  simp only [List.setIfInBounds_toArray, List.set_cons_succ, List.set_cons_zero] at h3
  obtain ⟨h4, -⟩ := putc (i := 3) h3 (by simp) v3
  simp only [List.setIfInBounds_toArray, List.set_cons_succ, List.set_cons_zero] at h4
  obtain ⟨h5, -⟩ := putc (i := 4) h4 (by simp) v4
  simp only [List.setIfInBounds_toArray, List.set_cons_succ, List.set_cons_zero] at h5
  obtain ⟨h6, -⟩ := putc (i := 5) h5 (by simp) v5
  simp only [List.setIfInBounds_toArray, List.set_cons_succ, List.set_cons_zero] at h6
  obtain ⟨h7, -⟩ := putc (i := 6) h6 (by simp) v6
  simp only [List.setIfInBounds_toArray, List.set_cons_succ, List.set_cons_zero] at h7
  obtain ⟨h8, -⟩ := putc (i := 7) h7 (by simp) v7
  simp only [List.setIfInBounds_toArray, List.set_cons_succ, List.set_cons_zero] at h8
  obtain ⟨h9, -⟩ := putc (i := 8) h8 (by simp) v8
  simp only [List.setIfInBounds_toArray, List.set_cons_succ, List.set_cons_zero] at h9
  obtain ⟨h10, -⟩ := putc (i := 9) h9 (by simp) v9
  simp only [List.setIfInBounds_toArray, List.set_cons_succ, List.set_cons_zero] at h10
  obtain ⟨h11, -⟩ := putc (i := 10) h10 (by simp) v10
  simp only [List.setIfInBounds_toArray, List.set_cons_succ, List.set_cons_zero] at h11
  obtain ⟨h12, -⟩ := putc (i := 11) h11 (by simp) v11
  simp only [List.setIfInBounds_toArray, List.set_cons_succ, List.set_cons_zero] at h12
  exact ⟨h12, ((((((((((((Upd.refl _ W).trans (Upd.setCell (S := fun c => c = b) (a := ⟨b, 0, none⟩) _ _ rfl)).trans (Upd.setCell (S := fun c => c = b) (a := ⟨b, 1, none⟩) _ _ rfl)).trans (Upd.setCell (S := fun c => c = b) (a := ⟨b, 2, none⟩) _ _ rfl)).trans (Upd.setCell (S := fun c => c = b) (a := ⟨b, 3, none⟩) _ _ rfl)).trans (Upd.setCell (S := fun c => c = b) (a := ⟨b, 4, none⟩) _ _ rfl)).trans (Upd.setCell (S := fun c => c = b) (a := ⟨b, 5, none⟩) _ _ rfl)).trans (Upd.setCell (S := fun c => c = b) (a := ⟨b, 6, none⟩) _ _ rfl)).trans (Upd.setCell (S := fun c => c = b) (a := ⟨b, 7, none⟩) _ _ rfl)).trans (Upd.setCell (S := fun c => c = b) (a := ⟨b, 8, none⟩) _ _ rfl)).trans (Upd.setCell (S := fun c => c = b) (a := ⟨b, 9, none⟩) _ _ rfl)).trans (Upd.setCell (S := fun c => c = b) (a := ⟨b, 10, none⟩) _ _ rfl)).trans (Upd.setCell (S := fun c => c = b) (a := ⟨b, 11, none⟩) _ _ rfl)⟩
theorem after_new {w W1 W2 W3 W4 W5 : World} {A2 : Option Addr} {n2 c2 : Nat} {l : List Value} {o o2 : Obj} (h1 : New w W1) (h2 : New W1 W2) (ho : W2.ownsRow W1.heap.size 5 1 (.slice A2 n2 c2) n2 l) (h3 : New W2 W3) (h4 : ((W3.alloc o).alloc o2).grownBy W4 (Value.slice A2 n2 c2).ownBlock) (h5 : New W4 W5) : New w W5 := by
  have hu4 := Upd.of_grown (S := fun b => W1.heap.size ≤ b ∧ b < W2.heap.size) h4 (fun c hc => ⟨(ownsRow_lt ho hc).2, (ownsRow_lt ho hc).1⟩)
  have h13 : New w ((W3.alloc o).alloc o2) := ((h1.trans h2).trans h3).trans ((Upd.alloc _ _ _).trans (Upd.alloc _ _ _))
  have hs := h1.size
  exact (h13.then hu4 (fun c hc e => by omega)).trans h5
end Go.Proofs.YtjfmbamiampjmaaGreat
end

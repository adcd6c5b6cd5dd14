/- A part of the proof of the statement of this seat: no condition. -/
import Derived.Test.YtjfmbamiampjmaaGreatRefD
import Derived.Test.YtjfmbamiampjmaaGreatDecD
import Derived.Test.YtjfmbamiampjmaaGreatSameG
set_option linter.unusedVariables false
set_option linter.unusedSimpArgs false
namespace Go.Proofs.YtjfmbamiampjmaaGreat
open Go Go.RowKit Go.Proofs Gl
/-- the reference's Reader in a state -/
def Rs (B0 br : Nat) (w : World) (s : RS) : Prop := ∃ A n c, Rq B0 br w A n c s.1 s.2 ∧ n ≤ 1073741824
theorem Rs.upd {B0 br : Nat} {w w' : World} {s : RS} {S : Nat → Prop} (h : Rs B0 br w s) (hu : Upd S w w') (h1 : ¬ S br) (h2 : ∀ b, b < B0 → ¬ S b) : Rs B0 br w' s :=
  let ⟨A, n, c, hR, hn⟩ := h; ⟨A, n, c, hR.upd hu h1 h2, hn⟩
theorem Rs.small {B0 br : Nat} {w : World} {s : RS} (h : Rs B0 br w s) : Small s.1 := let ⟨_, _, _, hR, _⟩ := h; hR.by_.small
theorem Rs.le {B0 br : Nat} {w : World} {s : RS} (h : Rs B0 br w s) : B0 ≤ br := let ⟨_, _, _, hR, _⟩ := h; hR.le
theorem Rs.num {B0 br : Nat} {w : World} {s : RS} (h : Rs B0 br w s) (k : Nat) (hk0 : 0 < k) (hk : k ≤ 8) :
    Calls Tryz.prog 27 #[.pointer (some ⟨br, 0, none⟩), .int .i64 (k : Int)] w fun e w' => e = .returned (.int .u64 (rV k s : Int)) ∧ Upd (fun b => b = br) w w' ∧ Rs B0 br w' (rU k s) :=
  let ⟨_, _, _, hR, hn⟩ := h
  (num_c hR k hk0 hk hn).mono fun e w' ⟨he, hu, A', n', c', h1, h2⟩ => ⟨he, hu, A', n', c', h1, h2⟩
theorem rU_ok {k : Nat} {l : List Nat} (h : k ≤ l.length) : rU k (l, 0) = (l.drop k, 0) := by
  unfold rU rb re
  have : rOk k l 0 = true := decide_eq_true ⟨rfl, h⟩
  simp [this]
theorem items_step {m : Nat} {s : RS} : items (m + 1) s = (rV 8 s :: (items m (rU 8 s)).1, (items m (rU 8 s)).2) := rfl
/-- the record at work -/
structure PR (w0 W : World) (s : RS) (G : Array Value) : Prop where
  rd : Rs w0.heap.size (w0.heap.size + 1) W s
  g : W.heap[w0.heap.size + 2]? = some (.cells G 24 (0, 0))
  r : W.heap[w0.heap.size]? = some (.cells #[.int .u64 0, .int .u64 0, .int .u64 0, .int .u64 0, .int .u64 0, .int .u64 0, .int .u64 0, .int .u64 0, .int .u64 0, .int .u64 0] 24 (0, 0))
  new : New w0 W
section
variable {w0 W W' : World} {s : RS} {G : Array Value}
theorem PR.put (h : PR w0 W s G) (i : Nat) (v : Value) (hi : i < G.size) : PR w0 (W.setCell ⟨w0.heap.size + 2, i, none⟩ v) s (G.setIfInBounds i v) := by
  have hu : Upd (fun b => b = w0.heap.size + 2) W (W.setCell ⟨w0.heap.size + 2, i, none⟩ v) := Upd.setCell W v rfl
  exact ⟨h.rd.upd hu (by omega) (fun b hb => by omega), (putc h.g hi v).1, (hu.block _ (Array.getElem?_eq_some_iff.1 h.r).1 (by omega)).trans h.r, h.new.then hu (fun c hc e => by omega)⟩
theorem PR.call (h : PR w0 W s G) : Calls Tryz.prog 27 #[.pointer (some ⟨w0.heap.size + 1, 0, none⟩), .int .i64 8] W fun e w' => e = .returned (.int .u64 (rV 8 s : Int)) ∧ PR w0 w' (rU 8 s) G :=
  (h.rd.num 8 (by omega) (by omega)).mono fun e w' ⟨he, hu, hr⟩ => ⟨he, hr, (hu.block _ (Array.getElem?_eq_some_iff.1 h.g).1 (by omega)).trans h.g, (hu.block _ (Array.getElem?_eq_some_iff.1 h.r).1 (by omega)).trans h.r, h.new.then hu (fun c hc e => by omega)⟩
end
set_option maxHeartbeats 400000 in
theorem put10h {W : World} {b : Nat} {t : TypeId} {c0 c1 c2 c3 c4 c5 c6 c7 c8 c9 : Value} (h : W.heap[b]? = some (.cells #[c0, c1, c2, c3, c4, c5, c6, c7, c8, c9] t (0, 0))) (v0 v1 v2 v3 v4 v5 v6 v7 v8 v9 : Value) : ((((((((((W.setCell ⟨b, 0, none⟩ v0).setCell ⟨b, 1, none⟩ v1).setCell ⟨b, 2, none⟩ v2).setCell ⟨b, 3, none⟩ v3).setCell ⟨b, 4, none⟩ v4).setCell ⟨b, 5, none⟩ v5).setCell ⟨b, 6, none⟩ v6).setCell ⟨b, 7, none⟩ v7).setCell ⟨b, 8, none⟩ v8).setCell ⟨b, 9, none⟩ v9).heap[b]? = some (.cells #[v0, v1, v2, v3, v4, v5, v6, v7, v8, v9] t (0, 0)) ∧ Upd (fun c => c = b) W ((((((((((W.setCell ⟨b, 0, none⟩ v0).setCell ⟨b, 1, none⟩ v1).setCell ⟨b, 2, none⟩ v2).setCell ⟨b, 3, none⟩ v3).setCell ⟨b, 4, none⟩ v4).setCell ⟨b, 5, none⟩ v5).setCell ⟨b, 6, none⟩ v6).setCell ⟨b, 7, none⟩ v7).setCell ⟨b, 8, none⟩ v8).setCell ⟨b, 9, none⟩ v9) := by
  obtain ⟨h1, -⟩ := putc (i := 0) h (by simp) v0
  simp only [List.setIfInBounds_toArray, List.set_cons_succ, List.set_cons_zero] at h1
  obtain ⟨h2, -⟩ := putc (i := 1) h1 (by simp) v1
  simp only [List.setIfInBounds_toArray, List.set_cons_succ, List.set_cons_zero] at h2
  obtain ⟨h3, -⟩ := putc (i := 2) h2 (by simp) v2
  simp only [List.setIfInBounds_toArray, List.set_cons_succ, List.set_cons_zero] at h3
  obtain ⟨h4, -⟩ := putc (i := 3) h3 (by simp) v3
  simp only [List.setIfInBounds_toArray, List.set_cons_succ, List.set_cons_zero] at h4
  obtain ⟨h5, -⟩ := putc (i := 4) h4 (by simp) v4
  simp only [List.setIfInBounds_toArray, List.set_cons_succ, List.set_cons_zero] at h5
  obtain ⟨h6, -⟩ := putc (i := 5) h5 (by simp) v5
  simp only [List.setIfInBounds_toArray, List.set_cons_succ, List.set_cons_zero] at h6
  obtain ⟨h7, -⟩ := putc (i := 6) h6 (by simp) v6
  simp only [List.setIfInBounds_toArray, List.set_cons_succ, List.set_cons_zero] at h7
  obtain ⟨h8, -⟩ := putc (i := 7) h7 (by simp) v7
  simp only [List.setIfInBounds_toArray, List.set_cons_succ, List.set_cons_zero] at h8
  obtain ⟨h9, -⟩ := putc (i := 8) h8 (by simp) v8
  simp only [List.setIfInBounds_toArray, List.set_cons_succ, List.set_cons_zero] at h9
  obtain ⟨h10, -⟩ := putc (i := 9) h9 (by simp) v9
  simp only [List.setIfInBounds_toArray, List.set_cons_succ, List.set_cons_zero] at h10
  exact ⟨h10, ((((((((((Upd.refl _ W).trans (Upd.setCell (S := fun c => c = b) (a := ⟨b, 0, none⟩) _ _ rfl)).trans (Upd.setCell (S := fun c => c = b) (a := ⟨b, 1, none⟩) _ _ rfl)).trans (Upd.setCell (S := fun c => c = b) (a := ⟨b, 2, none⟩) _ _ rfl)).trans (Upd.setCell (S := fun c => c = b) (a := ⟨b, 3, none⟩) _ _ rfl)).trans (Upd.setCell (S := fun c => c = b) (a := ⟨b, 4, none⟩) _ _ rfl)).trans (Upd.setCell (S := fun c => c = b) (a := ⟨b, 5, none⟩) _ _ rfl)).trans (Upd.setCell (S := fun c => c = b) (a := ⟨b, 6, none⟩) _ _ rfl)).trans (Upd.setCell (S := fun c => c = b) (a := ⟨b, 7, none⟩) _ _ rfl)).trans (Upd.setCell (S := fun c => c = b) (a := ⟨b, 8, none⟩) _ _ rfl)).trans (Upd.setCell (S := fun c => c = b) (a := ⟨b, 9, none⟩) _ _ rfl)⟩
theorem putarr {G G' : Array Value} {i : Nat} {v : Value} {w0 W : World} {s : RS} (h : PR w0 W s (G.setIfInBounds i v)) (e : G.setIfInBounds i v = G') : PR w0 W s G' := e ▸ h
set_option maxHeartbeats 8000000 in
set_option maxRecDepth 100000 in
theorem params_read {w : World} {A : Option Addr} {c : Nat} {bs : List Nat} (hb : By w A 80 c bs) :
    Calls Tryz.prog 28 #[.slice A 80 c] w fun e w' => New w w' ∧ ∃ q0 q1 q2 q3 q4 q5 q6 q7 q8 q9, (items 10 (bs, 0)) = ([q0, q1, q2, q3, q4, q5, q6, q7, q8, q9], ([], 0)) ∧ e = .returned (.tuple #[.agg #[.int .u64 (q0 : Int), .int .u64 (q1 : Int), .int .u64 (q2 : Int), .int .u64 (q3 : Int), .int .u64 (q4 : Int), .int .u64 (q5 : Int), .int .u64 (q6 : Int), .int .u64 (q7 : Int), .int .u64 (q8 : Int), .int .u64 (q9 : Int)], .int .i64 0]) := by
  obtain ⟨s0, hs0⟩ : ∃ s, s = (bs, 0) := ⟨_, rfl⟩
  obtain ⟨s1, hs1⟩ : ∃ s, s = rU 8 s0 := ⟨_, rfl⟩
  obtain ⟨s2, hs2⟩ : ∃ s, s = rU 8 s1 := ⟨_, rfl⟩
  obtain ⟨s3, hs3⟩ : ∃ s, s = rU 8 s2 := ⟨_, rfl⟩
  obtain ⟨s4, hs4⟩ : ∃ s, s = rU 8 s3 := ⟨_, rfl⟩
  obtain ⟨s5, hs5⟩ : ∃ s, s = rU 8 s4 := ⟨_, rfl⟩
  obtain ⟨s6, hs6⟩ : ∃ s, s = rU 8 s5 := ⟨_, rfl⟩
  obtain ⟨s7, hs7⟩ : ∃ s, s = rU 8 s6 := ⟨_, rfl⟩
  obtain ⟨s8, hs8⟩ : ∃ s, s = rU 8 s7 := ⟨_, rfl⟩
  obtain ⟨s9, hs9⟩ : ∃ s, s = rU 8 s8 := ⟨_, rfl⟩
  obtain ⟨s10, hs10⟩ : ∃ s, s = rU 8 s9 := ⟨_, rfl⟩
  obtain ⟨q0, hq0'⟩ : ∃ q, q = rV 8 s0 := ⟨_, rfl⟩
  have hq0 : rV 8 s0 = q0 := hq0'.symm
  clear hq0'
  obtain ⟨q1, hq1'⟩ : ∃ q, q = rV 8 s1 := ⟨_, rfl⟩
  have hq1 : rV 8 s1 = q1 := hq1'.symm
  clear hq1'
  obtain ⟨q2, hq2'⟩ : ∃ q, q = rV 8 s2 := ⟨_, rfl⟩
  have hq2 : rV 8 s2 = q2 := hq2'.symm
  clear hq2'
  obtain ⟨q3, hq3'⟩ : ∃ q, q = rV 8 s3 := ⟨_, rfl⟩
  have hq3 : rV 8 s3 = q3 := hq3'.symm
  clear hq3'
  obtain ⟨q4, hq4'⟩ : ∃ q, q = rV 8 s4 := ⟨_, rfl⟩
  have hq4 : rV 8 s4 = q4 := hq4'.symm
  clear hq4'
  obtain ⟨q5, hq5'⟩ : ∃ q, q = rV 8 s5 := ⟨_, rfl⟩
  have hq5 : rV 8 s5 = q5 := hq5'.symm
  clear hq5'
  obtain ⟨q6, hq6'⟩ : ∃ q, q = rV 8 s6 := ⟨_, rfl⟩
  have hq6 : rV 8 s6 = q6 := hq6'.symm
  clear hq6'
  obtain ⟨q7, hq7'⟩ : ∃ q, q = rV 8 s7 := ⟨_, rfl⟩
  have hq7 : rV 8 s7 = q7 := hq7'.symm
  clear hq7'
  obtain ⟨q8, hq8'⟩ : ∃ q, q = rV 8 s8 := ⟨_, rfl⟩
  have hq8 : rV 8 s8 = q8 := hq8'.symm
  clear hq8'
  obtain ⟨q9, hq9'⟩ : ∃ q, q = rV 8 s9 := ⟨_, rfl⟩
  have hq9 : rV 8 s9 = q9 := hq9'.symm
  clear hq9'
  have hl := hb.len
  have h10 : s10 = ([], 0) := by
    rw [hs10, hs9, hs8, hs7, hs6, hs5, hs4, hs3, hs2, hs1, hs0]
    rw [rU_ok (by omega), rU_ok (by simp; omega), rU_ok (by simp; omega), rU_ok (by simp; omega), rU_ok (by simp; omega), rU_ok (by simp; omega), rU_ok (by simp; omega), rU_ok (by simp; omega), rU_ok (by simp; omega), rU_ok (by simp; omega)]
    simp only [List.drop_drop]
    rw [List.drop_eq_nil_of_le (by omega)]
  have hit : items 10 s0 = ([q0, q1, q2, q3, q4, q5, q6, q7, q8, q9], ([], 0)) := by
    rw [items_step, ← hs1, items_step, ← hs2, items_step, ← hs3, items_step, ← hs4, items_step, ← hs5, items_step, ← hs6, items_step, ← hs7, items_step, ← hs8, items_step, ← hs9, items_step, ← hs10, hq0, hq1, hq2, hq3, hq4, hq5, hq6, hq7, hq8, hq9, h10]
    rfl
  have hend : ∀ W, Rs w.heap.size (w.heap.size + 1) W s10 → Calls Tryz.prog 51 #[.pointer (some ⟨w.heap.size + 1, 0, none⟩)] W fun e w' => e = .returned (.int .i64 0) ∧ Upd (fun b => b = w.heap.size + 1) W w' := fun W hW => by
    obtain ⟨A, n, c, hR, _⟩ := hW
    have hR0 := hR.by_.len
    rw [h10] at hR hR0
    have := ends_c hR
    rw [if_pos ⟨rfl, hR0.symm⟩] at this
    exact this
  have hP : PR w (((w.alloc (.cells #[.int .u64 0, .int .u64 0, .int .u64 0, .int .u64 0, .int .u64 0, .int .u64 0, .int .u64 0, .int .u64 0, .int .u64 0, .int .u64 0] 24)).alloc (.cells #[.slice A 80 c, .int .i64 0] 80)).alloc (.cells #[.int .u64 0, .int .u64 0, .int .u64 0, .int .u64 0, .int .u64 0, .int .u64 0, .int .u64 0, .int .u64 0, .int .u64 0, .int .u64 0] 24)) s0 #[.int .u64 0, .int .u64 0, .int .u64 0, .int .u64 0, .int .u64 0, .int .u64 0, .int .u64 0, .int .u64 0, .int .u64 0, .int .u64 0] := by
    have hn1 : New w (w.alloc (.cells #[.int .u64 0, .int .u64 0, .int .u64 0, .int .u64 0, .int .u64 0, .int .u64 0, .int .u64 0, .int .u64 0, .int .u64 0, .int .u64 0] 24)) := Upd.alloc _ _ _
    obtain ⟨h1, h2⟩ := two_alloc w (.cells #[.int .u64 0, .int .u64 0, .int .u64 0, .int .u64 0, .int .u64 0, .int .u64 0, .int .u64 0, .int .u64 0, .int .u64 0, .int .u64 0] 24) (.cells #[.slice A 80 c, .int .i64 0] 80)
    have hn2 : New ((w.alloc (.cells #[.int .u64 0, .int .u64 0, .int .u64 0, .int .u64 0, .int .u64 0, .int .u64 0, .int .u64 0, .int .u64 0, .int .u64 0, .int .u64 0] 24)).alloc (.cells #[.slice A 80 c, .int .i64 0] 80)) (((w.alloc (.cells #[.int .u64 0, .int .u64 0, .int .u64 0, .int .u64 0, .int .u64 0, .int .u64 0, .int .u64 0, .int .u64 0, .int .u64 0, .int .u64 0] 24)).alloc (.cells #[.slice A 80 c, .int .i64 0] 80)).alloc (.cells #[.int .u64 0, .int .u64 0, .int .u64 0, .int .u64 0, .int .u64 0, .int .u64 0, .int .u64 0, .int .u64 0, .int .u64 0, .int .u64 0] 24)) := Upd.alloc _ _ _
    have hn : New w (((w.alloc (.cells #[.int .u64 0, .int .u64 0, .int .u64 0, .int .u64 0, .int .u64 0, .int .u64 0, .int .u64 0, .int .u64 0, .int .u64 0, .int .u64 0] 24)).alloc (.cells #[.slice A 80 c, .int .i64 0] 80)).alloc (.cells #[.int .u64 0, .int .u64 0, .int .u64 0, .int .u64 0, .int .u64 0, .int .u64 0, .int .u64 0, .int .u64 0, .int .u64 0, .int .u64 0] 24)) := (hn1.trans (Upd.alloc _ _ _)).trans hn2
    have h3 := Ex.alloc_new ((w.alloc (.cells #[.int .u64 0, .int .u64 0, .int .u64 0, .int .u64 0, .int .u64 0, .int .u64 0, .int .u64 0, .int .u64 0, .int .u64 0, .int .u64 0] 24)).alloc (.cells #[.slice A 80 c, .int .i64 0] 80)) (.cells #[.int .u64 0, .int .u64 0, .int .u64 0, .int .u64 0, .int .u64 0, .int .u64 0, .int .u64 0, .int .u64 0, .int .u64 0, .int .u64 0] 24)
    rw [show ((w.alloc (.cells #[.int .u64 0, .int .u64 0, .int .u64 0, .int .u64 0, .int .u64 0, .int .u64 0, .int .u64 0, .int .u64 0, .int .u64 0, .int .u64 0] 24)).alloc (.cells #[.slice A 80 c, .int .i64 0] 80)).heap.size = w.heap.size + 2 by show ((w.heap.push _).push _).size = _; simp] at h3
    refine ⟨⟨A, 80, c, ⟨⟨80, ?_⟩, ?_, fun a ha h0 => hb.sl.lt ha h0, by omega⟩, by omega⟩, h3, (hn2.block _ (Array.getElem?_eq_some_iff.1 h1).1 id).trans h1, hn⟩
    · rw [hs0]; exact (hn2.block _ (Array.getElem?_eq_some_iff.1 h2).1 id).trans h2
    · rw [hs0]; exact hb.new hn
  have h0 := hP.call
  rw [hq0, ← hs1] at h0
  have HIT := Lib.hid hit; have HEND := Lib.hid hend; have HSB := Lib.hid hs0
  have HQ0 := Lib.hid hq0; have HS0 := Lib.hid hs1.symm
  have HQ1 := Lib.hid hq1; have HS1 := Lib.hid hs2.symm
  have HQ2 := Lib.hid hq2; have HS2 := Lib.hid hs3.symm
  have HQ3 := Lib.hid hq3; have HS3 := Lib.hid hs4.symm
  have HQ4 := Lib.hid hq4; have HS4 := Lib.hid hs5.symm
  have HQ5 := Lib.hid hq5; have HS5 := Lib.hid hs6.symm
  have HQ6 := Lib.hid hq6; have HS6 := Lib.hid hs7.symm
  have HQ7 := Lib.hid hq7; have HS7 := Lib.hid hs8.symm
  have HQ8 := Lib.hid hq8; have HS8 := Lib.hid hs9.symm
  have HQ9 := Lib.hid hq9; have HS9 := Lib.hid hs10.symm
  clear hit hend hP h10 hs0 hq0 hs1 hq1 hs2 hq2 hs3 hq3 hs4 hq4 hs5 hq5 hs6 hq6 hs7 hq7 hs8 hq8 hs9 hq9 hs10 hb hl
  rw [HSB.out] at HIT
  go_enter Tryz.func28, Tryz.ntmps28
  go_wp2_with (first
    | (go_at_call 27; refine h0.mono ?_; rintro e W0 ⟨rfl, hP0⟩; clear h0; have fz0 := fz_at hP0.g 0; have fc0 := cells_at hP0.g 0 _ rfl; have h1 := (putarr (hP0.put 0 (.int .u64 (q0 : Int)) (by simp)) (G' := #[.int .u64 (q0 : Int), .int .u64 0, .int .u64 0, .int .u64 0, .int .u64 0, .int .u64 0, .int .u64 0, .int .u64 0, .int .u64 0, .int .u64 0]) rfl).call; rw [HQ1.out, HS1.out] at h1; clear hP0)
    | (go_at_call 27; refine h1.mono ?_; rintro e W1 ⟨rfl, hP1⟩; clear h1; have fz1 := fz_at hP1.g 1; have fc1 := cells_at hP1.g 1 _ rfl; have h2 := (putarr (hP1.put 1 (.int .u64 (q1 : Int)) (by simp)) (G' := #[.int .u64 (q0 : Int), .int .u64 (q1 : Int), .int .u64 0, .int .u64 0, .int .u64 0, .int .u64 0, .int .u64 0, .int .u64 0, .int .u64 0, .int .u64 0]) rfl).call; rw [HQ2.out, HS2.out] at h2; clear hP1)
    | (go_at_call 27; refine h2.mono ?_; rintro e W2 ⟨rfl, hP2⟩; clear h2; have fz2 := fz_at hP2.g 2; have fc2 := cells_at hP2.g 2 _ rfl; have h3 := (putarr (hP2.put 2 (.int .u64 (q2 : Int)) (by simp)) (G' := #[.int .u64 (q0 : Int), .int .u64 (q1 : Int), .int .u64 (q2 : Int), .int .u64 0, .int .u64 0, .int .u64 0, .int .u64 0, .int .u64 0, .int .u64 0, .int .u64 0]) rfl).call; rw [HQ3.out, HS3.out] at h3; clear hP2)
    | (go_at_call 27; refine h3.mono ?_; rintro e W3 ⟨rfl, hP3⟩; clear h3; have fz3 := fz_at hP3.g 3; have fc3 := cells_at hP3.g 3 _ rfl; have h4 := (putarr (hP3.put 3 (.int .u64 (q3 : Int)) (by simp)) (G' := #[.int .u64 (q0 : Int), .int .u64 (q1 : Int), .int .u64 (q2 : Int), .int .u64 (q3 : Int), .int .u64 0, .int .u64 0, .int .u64 0, .int .u64 0, .int .u64 0, .int .u64 0]) rfl).call; rw [HQ4.out, HS4.out] at h4; clear hP3)
    | (go_at_call 27; refine h4.mono ?_; rintro e W4 ⟨rfl, hP4⟩; clear h4; have fz4 := fz_at hP4.g 4; have fc4 := cells_at hP4.g 4 _ rfl; have h5 := (putarr (hP4.put 4 (.int .u64 (q4 : Int)) (by simp)) (G' := #[.int .u64 (q0 : Int), .int .u64 (q1 : Int), .int .u64 (q2 : Int), .int .u64 (q3 : Int), .int .u64 (q4 : Int), .int .u64 0, .int .u64 0, .int .u64 0, .int .u64 0, .int .u64 0]) rfl).call; rw [HQ5.out, HS5.out] at h5; clear hP4)
    | (go_at_call 27; refine h5.mono ?_; rintro e W5 ⟨rfl, hP5⟩; clear h5; have fz5 := fz_at hP5.g 5; have fc5 := cells_at hP5.g 5 _ rfl; have h6 := (putarr (hP5.put 5 (.int .u64 (q5 : Int)) (by simp)) (G' := #[.int .u64 (q0 : Int), .int .u64 (q1 : Int), .int .u64 (q2 : Int), .int .u64 (q3 : Int), .int .u64 (q4 : Int), .int .u64 (q5 : Int), .int .u64 0, .int .u64 0, .int .u64 0, .int .u64 0]) rfl).call; rw [HQ6.out, HS6.out] at h6; clear hP5)
    | (go_at_call 27; refine h6.mono ?_; rintro e W6 ⟨rfl, hP6⟩; clear h6; have fz6 := fz_at hP6.g 6; have fc6 := cells_at hP6.g 6 _ rfl; have h7 := (putarr (hP6.put 6 (.int .u64 (q6 : Int)) (by simp)) (G' := #[.int .u64 (q0 : Int), .int .u64 (q1 : Int), .int .u64 (q2 : Int), .int .u64 (q3 : Int), .int .u64 (q4 : Int), .int .u64 (q5 : Int), .int .u64 (q6 : Int), .int .u64 0, .int .u64 0, .int .u64 0]) rfl).call; rw [HQ7.out, HS7.out] at h7; clear hP6)
    | (go_at_call 27; refine h7.mono ?_; rintro e W7 ⟨rfl, hP7⟩; clear h7; have fz7 := fz_at hP7.g 7; have fc7 := cells_at hP7.g 7 _ rfl; have h8 := (putarr (hP7.put 7 (.int .u64 (q7 : Int)) (by simp)) (G' := #[.int .u64 (q0 : Int), .int .u64 (q1 : Int), .int .u64 (q2 : Int), .int .u64 (q3 : Int), .int .u64 (q4 : Int), .int .u64 (q5 : Int), .int .u64 (q6 : Int), .int .u64 (q7 : Int), .int .u64 0, .int .u64 0]) rfl).call; rw [HQ8.out, HS8.out] at h8; clear hP7)
    | (go_at_call 27; refine h8.mono ?_; rintro e W8 ⟨rfl, hP8⟩; clear h8; have fz8 := fz_at hP8.g 8; have fc8 := cells_at hP8.g 8 _ rfl; have h9 := (putarr (hP8.put 8 (.int .u64 (q8 : Int)) (by simp)) (G' := #[.int .u64 (q0 : Int), .int .u64 (q1 : Int), .int .u64 (q2 : Int), .int .u64 (q3 : Int), .int .u64 (q4 : Int), .int .u64 (q5 : Int), .int .u64 (q6 : Int), .int .u64 (q7 : Int), .int .u64 (q8 : Int), .int .u64 0]) rfl).call; rw [HQ9.out, HS9.out] at h9; clear hP8)
    | (go_at_call 27; refine h9.mono ?_; rintro e W9 ⟨rfl, hP9⟩; clear h9; have fz9 := fz_at hP9.g 9; have fc9 := cells_at hP9.g 9 _ rfl; have hPe := putarr (hP9.put 9 (.int .u64 (q9 : Int)) (by simp)) (G' := #[.int .u64 (q0 : Int), .int .u64 (q1 : Int), .int .u64 (q2 : Int), .int .u64 (q3 : Int), .int .u64 (q4 : Int), .int .u64 (q5 : Int), .int .u64 (q6 : Int), .int .u64 (q7 : Int), .int .u64 (q8 : Int), .int .u64 (q9 : Int)]) rfl; have HPE := Lib.hid hPe; have h51 := HEND.out _ hPe.rd; clear hPe; clear hP9)
    | (go_at_call 51; refine h51.mono ?_; rintro e We ⟨rfl, hue⟩; clear h51; have hge := (hue.block _ (Array.getElem?_eq_some_iff.1 HPE.out.g).1 (by omega)).trans HPE.out.g; have hre := (hue.block _ (Array.getElem?_eq_some_iff.1 HPE.out.r).1 (by omega)).trans HPE.out.r; have HUE := Lib.hid hue; have HNE := Lib.hid (HPE.out.new.then hue (fun c hc e => by omega))
       have rg0 := cells_at hge 0 _ rfl; have rg1 := cells_at hge 1 _ rfl; have rg2 := cells_at hge 2 _ rfl; have rg3 := cells_at hge 3 _ rfl; have rg4 := cells_at hge 4 _ rfl; have rg5 := cells_at hge 5 _ rfl; have rg6 := cells_at hge 6 _ rfl; have rg7 := cells_at hge 7 _ rfl; have rg8 := cells_at hge 8 _ rfl; have rg9 := cells_at hge 9 _ rfl; have rr0 := cells_at hre 0 _ rfl; have rf0 := fz_at hre 0; have rr1 := cells_at hre 1 _ rfl; have rf1 := fz_at hre 1; have rr2 := cells_at hre 2 _ rfl; have rf2 := fz_at hre 2; have rr3 := cells_at hre 3 _ rfl; have rf3 := fz_at hre 3; have rr4 := cells_at hre 4 _ rfl; have rf4 := fz_at hre 4; have rr5 := cells_at hre 5 _ rfl; have rf5 := fz_at hre 5; have rr6 := cells_at hre 6 _ rfl; have rf6 := fz_at hre 6; have rr7 := cells_at hre 7 _ rfl; have rf7 := fz_at hre 7; have rr8 := cells_at hre 8 _ rfl; have rf8 := fz_at hre 8; have rr9 := cells_at hre 9 _ rfl; have rf9 := fz_at hre 9
       have HRE := Lib.hid hre; clear hue hge hre))
  obtain ⟨hh, hu⟩ := put10h HRE.out (.int .u64 (q0 : Int)) (.int .u64 (q1 : Int)) (.int .u64 (q2 : Int)) (.int .u64 (q3 : Int)) (.int .u64 (q4 : Int)) (.int .u64 (q5 : Int)) (.int .u64 (q6 : Int)) (.int .u64 (q7 : Int)) (.int .u64 (q8 : Int)) (.int .u64 (q9 : Int))
  have k0 := cells_at hh 0 _ rfl; have k1 := cells_at hh 1 _ rfl; have k2 := cells_at hh 2 _ rfl; have k3 := cells_at hh 3 _ rfl; have k4 := cells_at hh 4 _ rfl; have k5 := cells_at hh 5 _ rfl; have k6 := cells_at hh 6 _ rfl; have k7 := cells_at hh 7 _ rfl; have k8 := cells_at hh 8 _ rfl; have k9 := cells_at hh 9 _ rfl
  refine bodyPost_ret (by simp [results, Tryz.results28, go_sem, k0, k1, k2, k3, k4, k5, k6, k7, k8, k9]; try rfl) rfl ?_
  exact ⟨HNE.out.then hu (fun c hc e => by omega), q0, q1, q2, q3, q4, q5, q6, q7, q8, q9, HIT.out, rfl⟩
end Go.Proofs.YtjfmbamiampjmaaGreat

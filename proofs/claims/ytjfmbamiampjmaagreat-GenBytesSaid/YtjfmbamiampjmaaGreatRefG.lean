/- A part of the proof of the statement of this seat: no condition. -/
import Derived.Test.YtjfmbamiampjmaaGreatRefF
import Derived.Test.YtjfmbamiampjmaaGreatLC
set_option linter.unusedVariables false
set_option linter.unusedSimpArgs false
namespace Go.Proofs.YtjfmbamiampjmaaGreat
open Go Go.RowKit Go.Proofs Gl
theorem copy_c {w : World} {A : Option Addr} {n c : Nat} {bs : List Nat} (h : By w A n c bs) (hn : n ≤ 1073741824) :
    Calls Tryz.prog 7 #[.slice A n c] w fun e w' => ∃ A' c', e = .returned (.slice A' n c') ∧ By w' A' n c' bs ∧ New w w' := by
  obtain ⟨i0, hi0, hz0, hz1, hz2⟩ := info_parts info5
  have hs : Gl.Src w A n (bs.map u8) := Gl.Src.of_sl h.sl
  have hlen := h.len
  have HN := Lib.hid hn
  clear hn
  go_enter Tryz.func7, Tryz.ntmps7
  go_wp2_with (at_builtin
               refine wpList_append_src _ rfl _ _ _ rfl w.heap.size 5 i0 _ 1 1 Tryz.underlying29 hi0 hz0 hz1 hz2 rfl (by omega) (.slice none 0 0) 0 [] rfl (World.ownsRow_nil _ _ _ _) _ _ _ (bs.map u8) rfl (by simp [hlen]) hs (oneCell_u8 _) (by have := HN.out; simp only [maxLen]; omega) (by have := HN.out; omega) (Nat.le_refl _) ?_
               intro A' c' w1 hown1 hg1 hat1)
  go_ret
  simp only [Nat.zero_add, List.nil_append] at hown1 hat1
  exact ⟨A', c', by simp, By.of_own hown1 h.small, Upd.of_grown hg1 (fun c hc => by cases hc)⟩
theorem light_c {w : World} {p0 p1 p2 p3 p4 p5 p6 p7 p8 p9 : Nat} {Aa Av : Option Addr} {na ca nv cv : Nat} :
    Calls Tryz.prog 6 #[.agg (gen p0 p1 p2 p3 p4 p5 p6 p7 p8 p9 Aa na ca Av nv cv)] w fun e w' => e = .returned (.bool (decide (na ≤ 300) && decide (nv ≤ 70))) ∧ New w w' := by
  by_cases h1 : na ≤ 300
  · by_cases h2 : nv ≤ 70
    · have d1 : decide ((na : Int) ≤ 300) = true := decide_eq_true (by omega)
      have d2 : decide ((nv : Int) ≤ 70) = true := decide_eq_true (by omega)
      rw [decide_eq_true h1, decide_eq_true h2]
      unfold gen
      go_enter Tryz.func6, Tryz.ntmps6
      go_wp2
      go_ret
      exact ⟨rfl, Upd.alloc _ _ _⟩
    · have d1 : decide ((na : Int) ≤ 300) = true := decide_eq_true (by omega)
      have d2 : decide ((nv : Int) ≤ 70) = false := decide_eq_false (by omega)
      rw [decide_eq_true h1, decide_eq_false h2]
      unfold gen
      go_enter Tryz.func6, Tryz.ntmps6
      go_wp2
      go_ret
      exact ⟨rfl, Upd.alloc _ _ _⟩
  · have d1 : decide ((na : Int) ≤ 300) = false := decide_eq_false (by omega)
    rw [decide_eq_false h1]
    unfold gen
    go_enter Tryz.func6, Tryz.ntmps6
    go_wp2
    go_ret
    exact ⟨rfl, Upd.alloc _ _ _⟩
set_option maxHeartbeats 4000000 in
set_option maxRecDepth 100000 in
theorem refdecode_long {w : World} {A : Option Addr} {n c : Nat} (h : 65536 < n) :
    Calls Tryz.prog 9 #[.slice A n c] w fun e w' => New w w' ∧ e = .returned (.tuple #[.agg Z12, .int .i64 211]) := by
  have hn3 : decide ((65536 : Int) < (n : Int)) = true := decide_eq_true (by omega)
  have h1 : (w.alloc (.cells Z12 28)).heap[w.heap.size]? = some (.cells Z12 28 (0, 0)) := Ex.alloc_new w _
  unfold Z12 at h1
  obtain ⟨⟨r0, r1, r2, r3, r4, r5, r6, r7, r8, r9, r10, r11⟩, z0, z1, z2, z3, z4, z5, z6, z7, z8, z9, z10, z11⟩ := c12 h1
  obtain ⟨q0, q1, q2, q3, q4, q5, q6, q7, q8, q9, q10, q11, hup⟩ := put12 (by rfl) h1 (.int .u64 0) (.int .u64 0) (.int .u64 0) (.int .u64 0) (.int .u64 0) (.int .u64 0) (.int .u64 0) (.int .u64 0) (.int .u64 0) (.int .u64 0) (.slice none 0 0) (.slice none 0 0)
  have hnew : New w (w.alloc (.cells Z12 28)) := Upd.alloc _ _ _
  have HU := Lib.hid hup; have HN := Lib.hid hnew
  clear hup hnew h1
  go_enter Tryz.func9, Tryz.ntmps9
  go_wp2
  refine bodyPost_ret (by simp [results, Tryz.results9, go_sem, r0, r1, r2, r3, r4, r5, r6, r7, r8, r9, r10, r11]; try rfl) rfl ?_
  exact ⟨HN.out, rfl⟩
/-- what a Decode told -/
def Told (p0 p1 p2 p3 p4 p5 p6 p7 p8 p9 na nv : Nat) (xs ys : List Nat) (er : Nat) (w : World) (e : Ending) (w' : World) : Prop :=
  New w w' ∧ ∃ Aa ca Av cv, e = .returned (.tuple #[.agg (gen p0 p1 p2 p3 p4 p5 p6 p7 p8 p9 Aa na ca Av nv cv), .int .i64 (er : Int)]) ∧ Sl 2 w' Aa na ca (xs.map u64) ∧ Sl 3 w' Av nv cv (ys.map u64)
theorem told_of {bs : List Nat} {n : Nat} : ∃ p0 p1 p2 p3 p4 p5 p6 p7 p8 p9 na nv xs ys er, ∀ (w : World) (A : Option Addr) (c : Nat), By w A n c bs →
    Calls Tryz.prog 8 #[.slice A n c] w (Told p0 p1 p2 p3 p4 p5 p6 p7 p8 p9 na nv xs ys er w) ∧ Calls Tryz.prog 9 #[.slice A n c] w (Told p0 p1 p2 p3 p4 p5 p6 p7 p8 p9 na nv xs ys er w) := by
  by_cases hl : 65536 < n
  · refine ⟨0, 0, 0, 0, 0, 0, 0, 0, 0, 0, 0, 0, [], [], 211, fun w A c h => ⟨(decode_long hl).mono fun e w' h => ?_, (refdecode_long hl).mono fun e w' h => ?_⟩⟩ <;>
    exact ⟨h.1, none, 0, none, 0, h.2, Sl.nilS _ _, Sl.nilS _ _⟩
  · cases hd : dec bs with
    | none =>
      refine ⟨0, 0, 0, 0, 0, 0, 0, 0, 0, 0, 0, 0, [], [], 210, fun w A c h => ⟨(decode_c h (by omega)).mono fun e w' h => ?_, (refdecode_c h (by omega)).mono fun e w' h => ?_⟩⟩ <;>
      exact ⟨(h.none_ hd).1, none, 0, none, 0, (h.none_ hd).2, Sl.nilS _ _, Sl.nilS _ _⟩
    | some t =>
      obtain ⟨ps, xs, ys⟩ := t
      have key : ∀ {w w' : World} {e : Ending}, Decd w bs e w' → ∃ p0 p1 p2 p3 p4 p5 p6 p7 p8 p9, ps = [p0, p1, p2, p3, p4, p5, p6, p7, p8, p9] ∧ Told p0 p1 p2 p3 p4 p5 p6 p7 p8 p9 (xs.length / 2) (ys.length / 3) xs ys 0 w e w' := fun {w w' e} h => by
        obtain ⟨hn, s0, s1, s2, s3, s4, s5, s6, s7, s8, s9, Ca, ka, ea, Cv, kv, ev, hps, he, hsx, hsy, _⟩ := h.some_ hd
        have e1 := hsx.len
        have e2 := hsy.len
        rw [List.length_map] at e1 e2
        refine ⟨s0, s1, s2, s3, s4, s5, s6, s7, s8, s9, hps, hn, Ca, ea, Cv, ev, ?_⟩
        rw [e1, e2, Nat.mul_div_cancel _ (by omega), Nat.mul_div_cancel _ (by omega)]
        exact ⟨he, hsx, hsy⟩
      have hp10 : ps.length = 10 := by
        have h := hd
        unfold dec at h
        split at h
        · cases h
        · split at h
          · cases h
          · split at h
            · cases h; exact items_length 10 _
            · cases h
      match ps, hp10 with
      | [p0, p1, p2, p3, p4, p5, p6, p7, p8, p9], _ =>
        refine ⟨p0, p1, p2, p3, p4, p5, p6, p7, p8, p9, xs.length / 2, ys.length / 3, xs, ys, 0, fun w A c h => ⟨(decode_c h (by omega)).mono fun e w' h => ?_, (refdecode_c h (by omega)).mono fun e w' h => ?_⟩⟩ <;>
        · obtain ⟨s0, s1, s2, s3, s4, s5, s6, s7, s8, s9, hps, ht⟩ := key h
          simp only [List.cons.injEq, and_true] at hps
          obtain ⟨rfl, rfl, rfl, rfl, rfl, rfl, rfl, rfl, rfl, rfl⟩ := hps
          exact ht
end Go.Proofs.YtjfmbamiampjmaaGreat

/- A part of the proof of the statement of this seat: no condition. -/
import Derived.Test.YtjfmbamiampjmaaGreatEncG
import Derived.Deep.QuietTactic
import Derived.BigQuiet
set_option linter.unusedVariables false
set_option linter.unusedSimpArgs false
namespace Go.Proofs.YtjfmbamiampjmaaGreat
open Go Go.RowKit Go.Proofs Gl

theorem two_alloc (w : World) (o1 o2 : Obj) : ((w.alloc o1).alloc o2).heap[w.heap.size]? = some o1 ∧ ((w.alloc o1).alloc o2).heap[w.heap.size + 1]? = some o2 := by
  refine ⟨?_, ?_⟩
  · show ((w.heap.push o1).push o2)[w.heap.size]? = _
    rw [Array.getElem?_push_lt (by simp)]; simp
  · show ((w.heap.push o1).push o2)[w.heap.size + 1]? = _
    rw [show w.heap.size + 1 = (w.heap.push o1).size by simp]; simp only [Array.getElem?_push_size]
set_option maxHeartbeats 4000000 in
set_option maxRecDepth 100000 in
theorem same_c {w : World} {p0 p1 p2 p3 p4 p5 p6 p7 p8 p9 : Nat} {Aa Av Ba Bv : Option Addr} {na ca nv cv da dv : Nat} {xs ys : List Nat} (hx : Sl 2 w Aa na ca (xs.map u64)) (hy : Sl 3 w Av nv cv (ys.map u64)) (hx' : Sl 2 w Ba na da (xs.map u64)) (hy' : Sl 3 w Bv nv dv (ys.map u64)) :
    Calls Tryz.prog 13 #[.agg (gen p0 p1 p2 p3 p4 p5 p6 p7 p8 p9 Aa na ca Av nv cv), .agg (gen p0 p1 p2 p3 p4 p5 p6 p7 p8 p9 Ba na da Bv nv dv)] w fun e w' => e = .returned (.bool true) ∧ New w w' := by
  have HX := Lib.hid hx; have HY := Lib.hid hy; have HX' := Lib.hid hx'; have HY' := Lib.hid hy'
  have hna : (na : Int) ≤ 9223372036854775807 := by have h1 := hx.max; have h2 := hx.le; unfold maxLen at h1; omega
  have hnv : (nv : Int) ≤ 9223372036854775807 := by have h1 := hy.max; have h2 := hy.le; unfold maxLen at h1; omega
  clear hx hy hx' hy'
  unfold gen
  go_enter Tryz.func13, Tryz.ntmps13
  go_wp2
  obtain ⟨W0, hW0⟩ : ∃ W0, W0 = (w.alloc (.cells #[u64 p0, u64 p1, u64 p2, u64 p3, u64 p4, u64 p5, u64 p6, u64 p7, u64 p8, u64 p9, .slice Aa na ca, .slice Av nv cv] 28)).alloc (.cells #[u64 p0, u64 p1, u64 p2, u64 p3, u64 p4, u64 p5, u64 p6, u64 p7, u64 p8, u64 p9, .slice Ba na da, .slice Bv nv dv] 28) := ⟨_, rfl⟩
  have hcs : W0.cell? ⟨w.heap.size, 10, none⟩ = some (.slice Aa na ca) ∧ W0.cell? ⟨w.heap.size, 11, none⟩ = some (.slice Av nv cv) ∧ W0.cell? ⟨w.heap.size + 1, 10, none⟩ = some (.slice Ba na da) ∧ W0.cell? ⟨w.heap.size + 1, 11, none⟩ = some (.slice Bv nv dv) := by
    obtain ⟨h1, h2⟩ := two_alloc w (.cells #[u64 p0, u64 p1, u64 p2, u64 p3, u64 p4, u64 p5, u64 p6, u64 p7, u64 p8, u64 p9, .slice Aa na ca, .slice Av nv cv] 28) (.cells #[u64 p0, u64 p1, u64 p2, u64 p3, u64 p4, u64 p5, u64 p6, u64 p7, u64 p8, u64 p9, .slice Ba na da, .slice Bv nv dv] 28)
    rw [← hW0] at h1 h2
    exact ⟨by simp [World.cell?, h1], by simp [World.cell?, h1], by simp [World.cell?, h2], by simp [World.cell?, h2]⟩
  have hnew : New w W0 := by rw [hW0]; exact (Upd.alloc _ _ _).trans (Upd.alloc _ _ _)
  have HW0 := Lib.hid hW0; have HC := Lib.hid hcs; have HN := Lib.hid hnew
  clear hW0 hcs hnew
  go_loopw [5] (fun i wr => ∃ j : Nat, j ≤ na ∧ i = .int .i64 (j : Int) ∧ Hid (∃ q, wr = W0.drewN q)) (fun i _ => na - (intOf i).toNat)
  case atStart => exact ⟨0, Nat.zero_le _, rfl, Lib.hid ⟨0, HW0.out.symm⟩⟩
  case round =>
    obtain ⟨j, hj, rfl, hq⟩ := hrel
    have ha10 : wr.cell? ⟨w.heap.size, 10, none⟩ = some (.slice Aa na ca) := by obtain ⟨q, rfl⟩ := hq.out; exact HC.out.1
    have ha11 : wr.cell? ⟨w.heap.size, 11, none⟩ = some (.slice Av nv cv) := by obtain ⟨q, rfl⟩ := hq.out; exact HC.out.2.1
    have hb10 : wr.cell? ⟨w.heap.size + 1, 10, none⟩ = some (.slice Ba na da) := by obtain ⟨q, rfl⟩ := hq.out; exact HC.out.2.2.1
    have hb11 : wr.cell? ⟨w.heap.size + 1, 11, none⟩ = some (.slice Bv nv dv) := by obtain ⟨q, rfl⟩ := hq.out; exact HC.out.2.2.2
    by_cases hjn : j < na
    · obtain ⟨b1, o1, rfl, hr1⟩ := HX.out.row (by omega)
      obtain ⟨b2, o2, rfl, hr2⟩ := HX'.out.row (by omega)
      have hl := HX.out.len
      rw [List.length_map] at hl
      obtain ⟨x0, hx0⟩ : ∃ v, v = xs[2 * j]'(by omega) := ⟨_, rfl⟩
      obtain ⟨x1, hx1⟩ : ∃ v, v = xs[2 * j + 1]'(by omega) := ⟨_, rfl⟩
      have hs1 : Row wr b1 o1 (xs.map Gl.u64) := by obtain ⟨q, rfl⟩ := hq.out; exact hr1.upd ((HN.out).drewN q) id
      have hs2 : Row wr b2 o2 (xs.map Gl.u64) := by obtain ⟨q, rfl⟩ := hq.out; exact hr2.upd ((HN.out).drewN q) id
      have k10 : wr.cell? ⟨b1, o1 + j * 2, none⟩ = some (.int .u64 (x0 : Int)) := by rw [hx0, Nat.mul_comm j 2]; exact hs1.2 (2 * j) _ (by simp [show 2 * j < xs.length by omega])
      have k11 : wr.cell? ⟨b1, o1 + j * 2 + 1, none⟩ = some (.int .u64 (x1 : Int)) := by rw [hx1, Nat.mul_comm j 2, Nat.add_assoc]; exact hs1.2 (2 * j + 1) _ (by simp [show 2 * j + 1 < xs.length by omega])
      have k20 : wr.cell? ⟨b2, o2 + j * 2, none⟩ = some (.int .u64 (x0 : Int)) := by rw [hx0, Nat.mul_comm j 2]; exact hs2.2 (2 * j) _ (by simp [show 2 * j < xs.length by omega])
      have k21 : wr.cell? ⟨b2, o2 + j * 2 + 1, none⟩ = some (.int .u64 (x1 : Int)) := by rw [hx1, Nat.mul_comm j 2, Nat.add_assoc]; exact hs2.2 (2 * j + 1) _ (by simp [show 2 * j + 1 < xs.length by omega])
      have Kx0 := Lib.hid hx0; clear hx0
      have Kx1 := Lib.hid hx1; clear hx1
      clear hr1 hr2 hs1 hs2
      go_wp2_with fail
      go_quiet (fail)
      go_wp2
      exact ⟨⟨j + 1, by omega, by congr 1, Lib.hid (by obtain ⟨q, rfl⟩ := hq.out; exact ⟨_, World.drewN_drewN _ _ _⟩)⟩, by simp [intOf]; omega⟩
    · obtain rfl : na = j := by omega
      go_wp2
      go_loopw [6] (fun i wr => ∃ j : Nat, j ≤ nv ∧ i = .int .i64 (j : Int) ∧ Hid (∃ q, wr = W0.drewN q)) (fun i _ => nv - (intOf i).toNat)
      case atStart => exact ⟨0, Nat.zero_le _, rfl, hq⟩
      case round =>
        obtain ⟨j, hj, rfl, hq⟩ := hrel
        have ha10 : wr.cell? ⟨w.heap.size, 10, none⟩ = some (.slice Aa na ca) := by obtain ⟨q, rfl⟩ := hq.out; exact HC.out.1
        have ha11 : wr.cell? ⟨w.heap.size, 11, none⟩ = some (.slice Av nv cv) := by obtain ⟨q, rfl⟩ := hq.out; exact HC.out.2.1
        have hb10 : wr.cell? ⟨w.heap.size + 1, 10, none⟩ = some (.slice Ba na da) := by obtain ⟨q, rfl⟩ := hq.out; exact HC.out.2.2.1
        have hb11 : wr.cell? ⟨w.heap.size + 1, 11, none⟩ = some (.slice Bv nv dv) := by obtain ⟨q, rfl⟩ := hq.out; exact HC.out.2.2.2
        by_cases hjn : j < nv
        · obtain ⟨b1, o1, rfl, hr1⟩ := HY.out.row (by omega)
          obtain ⟨b2, o2, rfl, hr2⟩ := HY'.out.row (by omega)
          have hl := HY.out.len
          rw [List.length_map] at hl
          obtain ⟨x0, hx0⟩ : ∃ v, v = ys[3 * j]'(by omega) := ⟨_, rfl⟩
          obtain ⟨x1, hx1⟩ : ∃ v, v = ys[3 * j + 1]'(by omega) := ⟨_, rfl⟩
          obtain ⟨x2, hx2⟩ : ∃ v, v = ys[3 * j + 2]'(by omega) := ⟨_, rfl⟩
          have hs1 : Row wr b1 o1 (ys.map Gl.u64) := by obtain ⟨q, rfl⟩ := hq.out; exact hr1.upd ((HN.out).drewN q) id
          have hs2 : Row wr b2 o2 (ys.map Gl.u64) := by obtain ⟨q, rfl⟩ := hq.out; exact hr2.upd ((HN.out).drewN q) id
          have k10 : wr.cell? ⟨b1, o1 + j * 3, none⟩ = some (.int .u64 (x0 : Int)) := by rw [hx0, Nat.mul_comm j 3]; exact hs1.2 (3 * j) _ (by simp [show 3 * j < ys.length by omega])
          have k11 : wr.cell? ⟨b1, o1 + j * 3 + 1, none⟩ = some (.int .u64 (x1 : Int)) := by rw [hx1, Nat.mul_comm j 3, Nat.add_assoc]; exact hs1.2 (3 * j + 1) _ (by simp [show 3 * j + 1 < ys.length by omega])
          have k12 : wr.cell? ⟨b1, o1 + j * 3 + 2, none⟩ = some (.int .u64 (x2 : Int)) := by rw [hx2, Nat.mul_comm j 3, Nat.add_assoc]; exact hs1.2 (3 * j + 2) _ (by simp [show 3 * j + 2 < ys.length by omega])
          have k20 : wr.cell? ⟨b2, o2 + j * 3, none⟩ = some (.int .u64 (x0 : Int)) := by rw [hx0, Nat.mul_comm j 3]; exact hs2.2 (3 * j) _ (by simp [show 3 * j < ys.length by omega])
          have k21 : wr.cell? ⟨b2, o2 + j * 3 + 1, none⟩ = some (.int .u64 (x1 : Int)) := by rw [hx1, Nat.mul_comm j 3, Nat.add_assoc]; exact hs2.2 (3 * j + 1) _ (by simp [show 3 * j + 1 < ys.length by omega])
          have k22 : wr.cell? ⟨b2, o2 + j * 3 + 2, none⟩ = some (.int .u64 (x2 : Int)) := by rw [hx2, Nat.mul_comm j 3, Nat.add_assoc]; exact hs2.2 (3 * j + 2) _ (by simp [show 3 * j + 2 < ys.length by omega])
          have Kx0 := Lib.hid hx0; clear hx0
          have Kx1 := Lib.hid hx1; clear hx1
          have Kx2 := Lib.hid hx2; clear hx2
          clear hr1 hr2 hs1 hs2
          go_wp2_with fail
          go_quiet (fail)
          go_wp2
          exact ⟨⟨j + 1, by omega, by congr 1, Lib.hid (by obtain ⟨q, rfl⟩ := hq.out; exact ⟨_, World.drewN_drewN _ _ _⟩)⟩, by simp [intOf]; omega⟩
        · obtain rfl : nv = j := by omega
          go_wp2
          go_ret
          obtain ⟨q, rfl⟩ := hq.out
          exact ⟨rfl, HN.out.drewN _⟩
end Go.Proofs.YtjfmbamiampjmaaGreat

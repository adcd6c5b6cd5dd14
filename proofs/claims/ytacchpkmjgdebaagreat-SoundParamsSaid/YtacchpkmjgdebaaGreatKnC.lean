/- A part of the proof of the statement of this seat: no condition. -/
import Derived.Test.YtacchpkmjgdebaaGreatKnA
import Derived.WalkKit
import Derived.Lib.Walk
import Derived.Lib.MinMax
set_option linter.unusedVariables false
set_option linter.unusedSimpArgs false
namespace Go.Proofs.YtacchpkmjgdebaaGreat
open Go Go.RowKit Go.Proofs

theorem fresh_alloc (w : World) (o : Obj) : Ex.Fresh w (w.alloc o) := ⟨rfl, rfl, rfl, by show w.heap.size ≤ (w.heap.push o).size; simp, fun c hc => by
  show (w.heap.push o)[c]? = _
  rw [Array.getElem?_push_lt hc]; simp [hc]⟩
theorem run_max3 (x y z : Int) : ∃ M : Int, M = max (max x y) z ∧ ∀ ts t W, (Builtin.max_ ts t #[.int .u64 x, .int .u64 y, .int .u64 z]).run Tryz.prog W = .ok (.int .u64 M) W := by
  refine ⟨_, rfl, fun ts t W => ?_⟩
  have e : ∀ x y : Int, (if y > x then y else x) = max x y := fun x y => by rw [Int.max_def]; split <;> split <;> omega
  simp [Builtin.max_, Builtin.max2, e]
/-- what params are good -/
def goodP (a0 a1 a2 a3 a4 a5 a6 a7 a8 a9 : Int) : Bool := decide (1 ≤ a0 ∧ a0 ≤ 64 ∧ 1 ≤ a1 ∧ a1 ≤ 100000 ∧ 1 ≤ a2 ∧ a2 ≤ 16 ∧ (a3 ≤ 10000 ∧ a4 ≤ 10000 ∧ a5 ≤ 10000) ∧ (a6 ≤ 100000 ∧ a7 ≤ 100000) ∧ a8 ≤ 1000000000 ∧ 16 ≤ a9)
set_option maxHeartbeats 4000000 in
theorem p5_0 (w : World) (a0 a1 a2 a3 a4 a5 a6 a7 a8 a9 : Int)  (h0 : ¬ 1 ≤ a0) : Calls Tryz.prog 5 #[(.agg #[.int .u64 a0, .int .u64 a1, .int .u64 a2, .int .u64 a3, .int .u64 a4, .int .u64 a5, .int .u64 a6, .int .u64 a7, .int .u64 a8, .int .u64 a9])] w fun e w' => e = .returned (.bool false) ∧ Ex.Fresh w w' := by
  go_enter Tryz.func5, Tryz.ntmps5
  go_wp2
  all_goals go_ret
  all_goals exact ⟨rfl, fresh_alloc _ _⟩
set_option maxHeartbeats 4000000 in
theorem p5_1 (w : World) (a0 a1 a2 a3 a4 a5 a6 a7 a8 a9 : Int) (h0 : 1 ≤ a0) (h1 : ¬ a0 ≤ 64) : Calls Tryz.prog 5 #[(.agg #[.int .u64 a0, .int .u64 a1, .int .u64 a2, .int .u64 a3, .int .u64 a4, .int .u64 a5, .int .u64 a6, .int .u64 a7, .int .u64 a8, .int .u64 a9])] w fun e w' => e = .returned (.bool false) ∧ Ex.Fresh w w' := by
  go_enter Tryz.func5, Tryz.ntmps5
  go_wp2
  all_goals go_ret
  all_goals exact ⟨rfl, fresh_alloc _ _⟩
set_option maxHeartbeats 4000000 in
theorem p5_2 (w : World) (a0 a1 a2 a3 a4 a5 a6 a7 a8 a9 : Int) (h0 : 1 ≤ a0) (h1 : a0 ≤ 64) (h2 : ¬ 1 ≤ a1) : Calls Tryz.prog 5 #[(.agg #[.int .u64 a0, .int .u64 a1, .int .u64 a2, .int .u64 a3, .int .u64 a4, .int .u64 a5, .int .u64 a6, .int .u64 a7, .int .u64 a8, .int .u64 a9])] w fun e w' => e = .returned (.bool false) ∧ Ex.Fresh w w' := by
  go_enter Tryz.func5, Tryz.ntmps5
  go_wp2
  all_goals go_ret
  all_goals exact ⟨rfl, fresh_alloc _ _⟩
set_option maxHeartbeats 4000000 in
theorem p5_3 (w : World) (a0 a1 a2 a3 a4 a5 a6 a7 a8 a9 : Int) (h0 : 1 ≤ a0) (h1 : a0 ≤ 64) (h2 : 1 ≤ a1) (h3 : ¬ a1 ≤ 100000) : Calls Tryz.prog 5 #[(.agg #[.int .u64 a0, .int .u64 a1, .int .u64 a2, .int .u64 a3, .int .u64 a4, .int .u64 a5, .int .u64 a6, .int .u64 a7, .int .u64 a8, .int .u64 a9])] w fun e w' => e = .returned (.bool false) ∧ Ex.Fresh w w' := by
  go_enter Tryz.func5, Tryz.ntmps5
  go_wp2
  all_goals go_ret
  all_goals exact ⟨rfl, fresh_alloc _ _⟩
set_option maxHeartbeats 4000000 in
theorem p5_4 (w : World) (a0 a1 a2 a3 a4 a5 a6 a7 a8 a9 : Int) (h0 : 1 ≤ a0) (h1 : a0 ≤ 64) (h2 : 1 ≤ a1) (h3 : a1 ≤ 100000) (h4 : ¬ 1 ≤ a2) : Calls Tryz.prog 5 #[(.agg #[.int .u64 a0, .int .u64 a1, .int .u64 a2, .int .u64 a3, .int .u64 a4, .int .u64 a5, .int .u64 a6, .int .u64 a7, .int .u64 a8, .int .u64 a9])] w fun e w' => e = .returned (.bool false) ∧ Ex.Fresh w w' := by
  go_enter Tryz.func5, Tryz.ntmps5
  go_wp2
  all_goals go_ret
  all_goals exact ⟨rfl, fresh_alloc _ _⟩
set_option maxHeartbeats 4000000 in
theorem p5_5 (w : World) (a0 a1 a2 a3 a4 a5 a6 a7 a8 a9 : Int) (h0 : 1 ≤ a0) (h1 : a0 ≤ 64) (h2 : 1 ≤ a1) (h3 : a1 ≤ 100000) (h4 : 1 ≤ a2) (h5 : ¬ a2 ≤ 16) : Calls Tryz.prog 5 #[(.agg #[.int .u64 a0, .int .u64 a1, .int .u64 a2, .int .u64 a3, .int .u64 a4, .int .u64 a5, .int .u64 a6, .int .u64 a7, .int .u64 a8, .int .u64 a9])] w fun e w' => e = .returned (.bool false) ∧ Ex.Fresh w w' := by
  go_enter Tryz.func5, Tryz.ntmps5
  go_wp2
  all_goals go_ret
  all_goals exact ⟨rfl, fresh_alloc _ _⟩
set_option maxHeartbeats 4000000 in
theorem p5_6 (w : World) (a0 a1 a2 a3 a4 a5 a6 a7 a8 a9 : Int) {M : Int} (h0 : 1 ≤ a0) (h1 : a0 ≤ 64) (h2 : 1 ≤ a1) (h3 : a1 ≤ 100000) (h4 : 1 ≤ a2) (h5 : a2 ≤ 16) (h6 : ¬ M ≤ 10000) (hm3 : ∀ ts t W, (Builtin.max_ ts t #[.int .u64 a3, .int .u64 a4, .int .u64 a5]).run Tryz.prog W = .ok (.int .u64 M) W) : Calls Tryz.prog 5 #[(.agg #[.int .u64 a0, .int .u64 a1, .int .u64 a2, .int .u64 a3, .int .u64 a4, .int .u64 a5, .int .u64 a6, .int .u64 a7, .int .u64 a8, .int .u64 a9])] w fun e w' => e = .returned (.bool false) ∧ Ex.Fresh w w' := by
  go_enter Tryz.func5, Tryz.ntmps5
  go_wp2_with (simp only [hm3])
  all_goals go_ret
  all_goals exact ⟨rfl, fresh_alloc _ _⟩
set_option maxHeartbeats 4000000 in
theorem p5_7 (w : World) (a0 a1 a2 a3 a4 a5 a6 a7 a8 a9 : Int) {M : Int} (h0 : 1 ≤ a0) (h1 : a0 ≤ 64) (h2 : 1 ≤ a1) (h3 : a1 ≤ 100000) (h4 : 1 ≤ a2) (h5 : a2 ≤ 16) (h6 : M ≤ 10000) (h7 : ¬ max a6 a7 ≤ 100000) (hm3 : ∀ ts t W, (Builtin.max_ ts t #[.int .u64 a3, .int .u64 a4, .int .u64 a5]).run Tryz.prog W = .ok (.int .u64 M) W) : Calls Tryz.prog 5 #[(.agg #[.int .u64 a0, .int .u64 a1, .int .u64 a2, .int .u64 a3, .int .u64 a4, .int .u64 a5, .int .u64 a6, .int .u64 a7, .int .u64 a8, .int .u64 a9])] w fun e w' => e = .returned (.bool false) ∧ Ex.Fresh w w' := by
  go_enter Tryz.func5, Tryz.ntmps5
  go_wp2_with (simp only [hm3])
  all_goals go_ret
  all_goals exact ⟨rfl, fresh_alloc _ _⟩
set_option maxHeartbeats 4000000 in
theorem p5_8 (w : World) (a0 a1 a2 a3 a4 a5 a6 a7 a8 a9 : Int) {M : Int} (h0 : 1 ≤ a0) (h1 : a0 ≤ 64) (h2 : 1 ≤ a1) (h3 : a1 ≤ 100000) (h4 : 1 ≤ a2) (h5 : a2 ≤ 16) (h6 : M ≤ 10000) (h7 : max a6 a7 ≤ 100000) (h8 : ¬ a8 ≤ 1000000000) (hm3 : ∀ ts t W, (Builtin.max_ ts t #[.int .u64 a3, .int .u64 a4, .int .u64 a5]).run Tryz.prog W = .ok (.int .u64 M) W) : Calls Tryz.prog 5 #[(.agg #[.int .u64 a0, .int .u64 a1, .int .u64 a2, .int .u64 a3, .int .u64 a4, .int .u64 a5, .int .u64 a6, .int .u64 a7, .int .u64 a8, .int .u64 a9])] w fun e w' => e = .returned (.bool false) ∧ Ex.Fresh w w' := by
  go_enter Tryz.func5, Tryz.ntmps5
  go_wp2_with (simp only [hm3])
  all_goals go_ret
  all_goals exact ⟨rfl, fresh_alloc _ _⟩
set_option maxHeartbeats 4000000 in
theorem p5_9 (w : World) (a0 a1 a2 a3 a4 a5 a6 a7 a8 a9 : Int) {M : Int} (h0 : 1 ≤ a0) (h1 : a0 ≤ 64) (h2 : 1 ≤ a1) (h3 : a1 ≤ 100000) (h4 : 1 ≤ a2) (h5 : a2 ≤ 16) (h6 : M ≤ 10000) (h7 : max a6 a7 ≤ 100000) (h8 : a8 ≤ 1000000000) (h9 : ¬ 16 ≤ a9) (hm3 : ∀ ts t W, (Builtin.max_ ts t #[.int .u64 a3, .int .u64 a4, .int .u64 a5]).run Tryz.prog W = .ok (.int .u64 M) W) : Calls Tryz.prog 5 #[(.agg #[.int .u64 a0, .int .u64 a1, .int .u64 a2, .int .u64 a3, .int .u64 a4, .int .u64 a5, .int .u64 a6, .int .u64 a7, .int .u64 a8, .int .u64 a9])] w fun e w' => e = .returned (.bool false) ∧ Ex.Fresh w w' := by
  go_enter Tryz.func5, Tryz.ntmps5
  go_wp2_with (simp only [hm3])
  all_goals go_ret
  all_goals exact ⟨rfl, fresh_alloc _ _⟩
set_option maxHeartbeats 4000000 in
theorem p5_10 (w : World) (a0 a1 a2 a3 a4 a5 a6 a7 a8 a9 : Int) {M : Int} (h0 : 1 ≤ a0) (h1 : a0 ≤ 64) (h2 : 1 ≤ a1) (h3 : a1 ≤ 100000) (h4 : 1 ≤ a2) (h5 : a2 ≤ 16) (h6 : M ≤ 10000) (h7 : max a6 a7 ≤ 100000) (h8 : a8 ≤ 1000000000) (h9 : 16 ≤ a9) (hm3 : ∀ ts t W, (Builtin.max_ ts t #[.int .u64 a3, .int .u64 a4, .int .u64 a5]).run Tryz.prog W = .ok (.int .u64 M) W) : Calls Tryz.prog 5 #[(.agg #[.int .u64 a0, .int .u64 a1, .int .u64 a2, .int .u64 a3, .int .u64 a4, .int .u64 a5, .int .u64 a6, .int .u64 a7, .int .u64 a8, .int .u64 a9])] w fun e w' => e = .returned (.bool true) ∧ Ex.Fresh w w' := by
  go_enter Tryz.func5, Tryz.ntmps5
  go_wp2_with (simp only [hm3])
  all_goals go_ret
  all_goals exact ⟨rfl, fresh_alloc _ _⟩
theorem params5 (w : World) (a0 a1 a2 a3 a4 a5 a6 a7 a8 a9 : Int) : Calls Tryz.prog 5 #[(.agg #[.int .u64 a0, .int .u64 a1, .int .u64 a2, .int .u64 a3, .int .u64 a4, .int .u64 a5, .int .u64 a6, .int .u64 a7, .int .u64 a8, .int .u64 a9])] w fun e w' => e = .returned (.bool (goodP a0 a1 a2 a3 a4 a5 a6 a7 a8 a9)) ∧ Ex.Fresh w w' := by
  obtain ⟨M, hM, hm3⟩ := run_max3 a3 a4 a5
  by_cases h0 : 1 ≤ a0
  case neg => rw [show goodP a0 a1 a2 a3 a4 a5 a6 a7 a8 a9 = false from decide_eq_false (fun h => by omega)]; exact p5_0 w a0 a1 a2 a3 a4 a5 a6 a7 a8 a9 h0
  by_cases h1 : a0 ≤ 64
  case neg => rw [show goodP a0 a1 a2 a3 a4 a5 a6 a7 a8 a9 = false from decide_eq_false (fun h => by omega)]; exact p5_1 w a0 a1 a2 a3 a4 a5 a6 a7 a8 a9 h0 h1
  by_cases h2 : 1 ≤ a1
  case neg => rw [show goodP a0 a1 a2 a3 a4 a5 a6 a7 a8 a9 = false from decide_eq_false (fun h => by omega)]; exact p5_2 w a0 a1 a2 a3 a4 a5 a6 a7 a8 a9 h0 h1 h2
  by_cases h3 : a1 ≤ 100000
  case neg => rw [show goodP a0 a1 a2 a3 a4 a5 a6 a7 a8 a9 = false from decide_eq_false (fun h => by omega)]; exact p5_3 w a0 a1 a2 a3 a4 a5 a6 a7 a8 a9 h0 h1 h2 h3
  by_cases h4 : 1 ≤ a2
  case neg => rw [show goodP a0 a1 a2 a3 a4 a5 a6 a7 a8 a9 = false from decide_eq_false (fun h => by omega)]; exact p5_4 w a0 a1 a2 a3 a4 a5 a6 a7 a8 a9 h0 h1 h2 h3 h4
  by_cases h5 : a2 ≤ 16
  case neg => rw [show goodP a0 a1 a2 a3 a4 a5 a6 a7 a8 a9 = false from decide_eq_false (fun h => by omega)]; exact p5_5 w a0 a1 a2 a3 a4 a5 a6 a7 a8 a9 h0 h1 h2 h3 h4 h5
  by_cases h6 : M ≤ 10000
  case neg => rw [show goodP a0 a1 a2 a3 a4 a5 a6 a7 a8 a9 = false from decide_eq_false (fun h => by omega)]; exact p5_6 w a0 a1 a2 a3 a4 a5 a6 a7 a8 a9 h0 h1 h2 h3 h4 h5 h6 hm3
  by_cases h7 : max a6 a7 ≤ 100000
  case neg => rw [show goodP a0 a1 a2 a3 a4 a5 a6 a7 a8 a9 = false from decide_eq_false (fun h => by omega)]; exact p5_7 w a0 a1 a2 a3 a4 a5 a6 a7 a8 a9 h0 h1 h2 h3 h4 h5 h6 h7 hm3
  by_cases h8 : a8 ≤ 1000000000
  case neg => rw [show goodP a0 a1 a2 a3 a4 a5 a6 a7 a8 a9 = false from decide_eq_false (fun h => by omega)]; exact p5_8 w a0 a1 a2 a3 a4 a5 a6 a7 a8 a9 h0 h1 h2 h3 h4 h5 h6 h7 h8 hm3
  by_cases h9 : 16 ≤ a9
  case neg => rw [show goodP a0 a1 a2 a3 a4 a5 a6 a7 a8 a9 = false from decide_eq_false (fun h => by omega)]; exact p5_9 w a0 a1 a2 a3 a4 a5 a6 a7 a8 a9 h0 h1 h2 h3 h4 h5 h6 h7 h8 h9 hm3
  rw [show goodP a0 a1 a2 a3 a4 a5 a6 a7 a8 a9 = true from decide_eq_true (by omega)]; exact p5_10 w a0 a1 a2 a3 a4 a5 a6 a7 a8 a9 h0 h1 h2 h3 h4 h5 h6 h7 h8 h9 hm3
set_option maxHeartbeats 4000000 in
theorem p6_0 (w : World) (a0 a1 a2 a3 a4 a5 a6 a7 a8 a9 : Int)  (h0 : ¬ 1 ≤ a0) : Calls Tryz.prog 6 #[(.agg #[.int .u64 a0, .int .u64 a1, .int .u64 a2, .int .u64 a3, .int .u64 a4, .int .u64 a5, .int .u64 a6, .int .u64 a7, .int .u64 a8, .int .u64 a9])] w fun e w' => e = .returned (.bool false) ∧ Ex.Fresh w w' := by
  go_enter Tryz.func6, Tryz.ntmps6
  go_wp2
  all_goals go_ret
  all_goals exact ⟨rfl, fresh_alloc _ _⟩
set_option maxHeartbeats 4000000 in
theorem p6_1 (w : World) (a0 a1 a2 a3 a4 a5 a6 a7 a8 a9 : Int) (h0 : 1 ≤ a0) (h1 : ¬ a0 ≤ 64) : Calls Tryz.prog 6 #[(.agg #[.int .u64 a0, .int .u64 a1, .int .u64 a2, .int .u64 a3, .int .u64 a4, .int .u64 a5, .int .u64 a6, .int .u64 a7, .int .u64 a8, .int .u64 a9])] w fun e w' => e = .returned (.bool false) ∧ Ex.Fresh w w' := by
  go_enter Tryz.func6, Tryz.ntmps6
  go_wp2
  all_goals go_ret
  all_goals exact ⟨rfl, fresh_alloc _ _⟩
set_option maxHeartbeats 4000000 in
theorem p6_2 (w : World) (a0 a1 a2 a3 a4 a5 a6 a7 a8 a9 : Int) (h0 : 1 ≤ a0) (h1 : a0 ≤ 64) (h2 : ¬ 1 ≤ a1) : Calls Tryz.prog 6 #[(.agg #[.int .u64 a0, .int .u64 a1, .int .u64 a2, .int .u64 a3, .int .u64 a4, .int .u64 a5, .int .u64 a6, .int .u64 a7, .int .u64 a8, .int .u64 a9])] w fun e w' => e = .returned (.bool false) ∧ Ex.Fresh w w' := by
  go_enter Tryz.func6, Tryz.ntmps6
  go_wp2
  all_goals go_ret
  all_goals exact ⟨rfl, fresh_alloc _ _⟩
set_option maxHeartbeats 4000000 in
theorem p6_3 (w : World) (a0 a1 a2 a3 a4 a5 a6 a7 a8 a9 : Int) (h0 : 1 ≤ a0) (h1 : a0 ≤ 64) (h2 : 1 ≤ a1) (h3 : ¬ a1 ≤ 100000) : Calls Tryz.prog 6 #[(.agg #[.int .u64 a0, .int .u64 a1, .int .u64 a2, .int .u64 a3, .int .u64 a4, .int .u64 a5, .int .u64 a6, .int .u64 a7, .int .u64 a8, .int .u64 a9])] w fun e w' => e = .returned (.bool false) ∧ Ex.Fresh w w' := by
  go_enter Tryz.func6, Tryz.ntmps6
  go_wp2
  all_goals go_ret
  all_goals exact ⟨rfl, fresh_alloc _ _⟩
set_option maxHeartbeats 4000000 in
theorem p6_4 (w : World) (a0 a1 a2 a3 a4 a5 a6 a7 a8 a9 : Int) (h0 : 1 ≤ a0) (h1 : a0 ≤ 64) (h2 : 1 ≤ a1) (h3 : a1 ≤ 100000) (h4 : ¬ 1 ≤ a2) : Calls Tryz.prog 6 #[(.agg #[.int .u64 a0, .int .u64 a1, .int .u64 a2, .int .u64 a3, .int .u64 a4, .int .u64 a5, .int .u64 a6, .int .u64 a7, .int .u64 a8, .int .u64 a9])] w fun e w' => e = .returned (.bool false) ∧ Ex.Fresh w w' := by
  go_enter Tryz.func6, Tryz.ntmps6
  go_wp2
  all_goals go_ret
  all_goals exact ⟨rfl, fresh_alloc _ _⟩
set_option maxHeartbeats 4000000 in
theorem p6_5 (w : World) (a0 a1 a2 a3 a4 a5 a6 a7 a8 a9 : Int) (h0 : 1 ≤ a0) (h1 : a0 ≤ 64) (h2 : 1 ≤ a1) (h3 : a1 ≤ 100000) (h4 : 1 ≤ a2) (h5 : ¬ a2 ≤ 16) : Calls Tryz.prog 6 #[(.agg #[.int .u64 a0, .int .u64 a1, .int .u64 a2, .int .u64 a3, .int .u64 a4, .int .u64 a5, .int .u64 a6, .int .u64 a7, .int .u64 a8, .int .u64 a9])] w fun e w' => e = .returned (.bool false) ∧ Ex.Fresh w w' := by
  go_enter Tryz.func6, Tryz.ntmps6
  go_wp2
  all_goals go_ret
  all_goals exact ⟨rfl, fresh_alloc _ _⟩
set_option maxHeartbeats 4000000 in
theorem p6_6 (w : World) (a0 a1 a2 a3 a4 a5 a6 a7 a8 a9 : Int) (h0 : 1 ≤ a0) (h1 : a0 ≤ 64) (h2 : 1 ≤ a1) (h3 : a1 ≤ 100000) (h4 : 1 ≤ a2) (h5 : a2 ≤ 16) (h6 : ¬ a3 ≤ 10000) : Calls Tryz.prog 6 #[(.agg #[.int .u64 a0, .int .u64 a1, .int .u64 a2, .int .u64 a3, .int .u64 a4, .int .u64 a5, .int .u64 a6, .int .u64 a7, .int .u64 a8, .int .u64 a9])] w fun e w' => e = .returned (.bool false) ∧ Ex.Fresh w w' := by
  go_enter Tryz.func6, Tryz.ntmps6
  go_wp2
  all_goals go_ret
  all_goals exact ⟨rfl, fresh_alloc _ _⟩
set_option maxHeartbeats 4000000 in
theorem p6_7 (w : World) (a0 a1 a2 a3 a4 a5 a6 a7 a8 a9 : Int) (h0 : 1 ≤ a0) (h1 : a0 ≤ 64) (h2 : 1 ≤ a1) (h3 : a1 ≤ 100000) (h4 : 1 ≤ a2) (h5 : a2 ≤ 16) (h6 : a3 ≤ 10000) (h7 : ¬ a4 ≤ 10000) : Calls Tryz.prog 6 #[(.agg #[.int .u64 a0, .int .u64 a1, .int .u64 a2, .int .u64 a3, .int .u64 a4, .int .u64 a5, .int .u64 a6, .int .u64 a7, .int .u64 a8, .int .u64 a9])] w fun e w' => e = .returned (.bool false) ∧ Ex.Fresh w w' := by
  go_enter Tryz.func6, Tryz.ntmps6
  go_wp2
  all_goals go_ret
  all_goals exact ⟨rfl, fresh_alloc _ _⟩
set_option maxHeartbeats 4000000 in
theorem p6_8 (w : World) (a0 a1 a2 a3 a4 a5 a6 a7 a8 a9 : Int) (h0 : 1 ≤ a0) (h1 : a0 ≤ 64) (h2 : 1 ≤ a1) (h3 : a1 ≤ 100000) (h4 : 1 ≤ a2) (h5 : a2 ≤ 16) (h6 : a3 ≤ 10000) (h7 : a4 ≤ 10000) (h8 : ¬ a5 ≤ 10000) : Calls Tryz.prog 6 #[(.agg #[.int .u64 a0, .int .u64 a1, .int .u64 a2, .int .u64 a3, .int .u64 a4, .int .u64 a5, .int .u64 a6, .int .u64 a7, .int .u64 a8, .int .u64 a9])] w fun e w' => e = .returned (.bool false) ∧ Ex.Fresh w w' := by
  go_enter Tryz.func6, Tryz.ntmps6
  go_wp2
  all_goals go_ret
  all_goals exact ⟨rfl, fresh_alloc _ _⟩
set_option maxHeartbeats 4000000 in
theorem p6_9 (w : World) (a0 a1 a2 a3 a4 a5 a6 a7 a8 a9 : Int) (h0 : 1 ≤ a0) (h1 : a0 ≤ 64) (h2 : 1 ≤ a1) (h3 : a1 ≤ 100000) (h4 : 1 ≤ a2) (h5 : a2 ≤ 16) (h6 : a3 ≤ 10000) (h7 : a4 ≤ 10000) (h8 : a5 ≤ 10000) (h9 : ¬ a6 ≤ 100000) : Calls Tryz.prog 6 #[(.agg #[.int .u64 a0, .int .u64 a1, .int .u64 a2, .int .u64 a3, .int .u64 a4, .int .u64 a5, .int .u64 a6, .int .u64 a7, .int .u64 a8, .int .u64 a9])] w fun e w' => e = .returned (.bool false) ∧ Ex.Fresh w w' := by
  go_enter Tryz.func6, Tryz.ntmps6
  go_wp2
  all_goals go_ret
  all_goals exact ⟨rfl, fresh_alloc _ _⟩
set_option maxHeartbeats 4000000 in
theorem p6_10 (w : World) (a0 a1 a2 a3 a4 a5 a6 a7 a8 a9 : Int) (h0 : 1 ≤ a0) (h1 : a0 ≤ 64) (h2 : 1 ≤ a1) (h3 : a1 ≤ 100000) (h4 : 1 ≤ a2) (h5 : a2 ≤ 16) (h6 : a3 ≤ 10000) (h7 : a4 ≤ 10000) (h8 : a5 ≤ 10000) (h9 : a6 ≤ 100000) (h10 : ¬ a7 ≤ 100000) : Calls Tryz.prog 6 #[(.agg #[.int .u64 a0, .int .u64 a1, .int .u64 a2, .int .u64 a3, .int .u64 a4, .int .u64 a5, .int .u64 a6, .int .u64 a7, .int .u64 a8, .int .u64 a9])] w fun e w' => e = .returned (.bool false) ∧ Ex.Fresh w w' := by
  go_enter Tryz.func6, Tryz.ntmps6
  go_wp2
  all_goals go_ret
  all_goals exact ⟨rfl, fresh_alloc _ _⟩
set_option maxHeartbeats 4000000 in
theorem p6_11 (w : World) (a0 a1 a2 a3 a4 a5 a6 a7 a8 a9 : Int) (h0 : 1 ≤ a0) (h1 : a0 ≤ 64) (h2 : 1 ≤ a1) (h3 : a1 ≤ 100000) (h4 : 1 ≤ a2) (h5 : a2 ≤ 16) (h6 : a3 ≤ 10000) (h7 : a4 ≤ 10000) (h8 : a5 ≤ 10000) (h9 : a6 ≤ 100000) (h10 : a7 ≤ 100000) (h11 : ¬ a8 ≤ 1000000000) : Calls Tryz.prog 6 #[(.agg #[.int .u64 a0, .int .u64 a1, .int .u64 a2, .int .u64 a3, .int .u64 a4, .int .u64 a5, .int .u64 a6, .int .u64 a7, .int .u64 a8, .int .u64 a9])] w fun e w' => e = .returned (.bool false) ∧ Ex.Fresh w w' := by
  go_enter Tryz.func6, Tryz.ntmps6
  go_wp2
  all_goals go_ret
  all_goals exact ⟨rfl, fresh_alloc _ _⟩
set_option maxHeartbeats 4000000 in
theorem p6_12 (w : World) (a0 a1 a2 a3 a4 a5 a6 a7 a8 a9 : Int) (h0 : 1 ≤ a0) (h1 : a0 ≤ 64) (h2 : 1 ≤ a1) (h3 : a1 ≤ 100000) (h4 : 1 ≤ a2) (h5 : a2 ≤ 16) (h6 : a3 ≤ 10000) (h7 : a4 ≤ 10000) (h8 : a5 ≤ 10000) (h9 : a6 ≤ 100000) (h10 : a7 ≤ 100000) (h11 : a8 ≤ 1000000000) (h12 : ¬ 16 ≤ a9) : Calls Tryz.prog 6 #[(.agg #[.int .u64 a0, .int .u64 a1, .int .u64 a2, .int .u64 a3, .int .u64 a4, .int .u64 a5, .int .u64 a6, .int .u64 a7, .int .u64 a8, .int .u64 a9])] w fun e w' => e = .returned (.bool false) ∧ Ex.Fresh w w' := by
  go_enter Tryz.func6, Tryz.ntmps6
  go_wp2
  all_goals go_ret
  all_goals exact ⟨rfl, fresh_alloc _ _⟩
set_option maxHeartbeats 4000000 in
theorem p6_13 (w : World) (a0 a1 a2 a3 a4 a5 a6 a7 a8 a9 : Int) (h0 : 1 ≤ a0) (h1 : a0 ≤ 64) (h2 : 1 ≤ a1) (h3 : a1 ≤ 100000) (h4 : 1 ≤ a2) (h5 : a2 ≤ 16) (h6 : a3 ≤ 10000) (h7 : a4 ≤ 10000) (h8 : a5 ≤ 10000) (h9 : a6 ≤ 100000) (h10 : a7 ≤ 100000) (h11 : a8 ≤ 1000000000) (h12 : 16 ≤ a9) : Calls Tryz.prog 6 #[(.agg #[.int .u64 a0, .int .u64 a1, .int .u64 a2, .int .u64 a3, .int .u64 a4, .int .u64 a5, .int .u64 a6, .int .u64 a7, .int .u64 a8, .int .u64 a9])] w fun e w' => e = .returned (.bool true) ∧ Ex.Fresh w w' := by
  go_enter Tryz.func6, Tryz.ntmps6
  go_wp2
  all_goals go_ret
  all_goals exact ⟨rfl, fresh_alloc _ _⟩
theorem params6 (w : World) (a0 a1 a2 a3 a4 a5 a6 a7 a8 a9 : Int) : Calls Tryz.prog 6 #[(.agg #[.int .u64 a0, .int .u64 a1, .int .u64 a2, .int .u64 a3, .int .u64 a4, .int .u64 a5, .int .u64 a6, .int .u64 a7, .int .u64 a8, .int .u64 a9])] w fun e w' => e = .returned (.bool (goodP a0 a1 a2 a3 a4 a5 a6 a7 a8 a9)) ∧ Ex.Fresh w w' := by
  by_cases h0 : 1 ≤ a0
  case neg => rw [show goodP a0 a1 a2 a3 a4 a5 a6 a7 a8 a9 = false from decide_eq_false (fun h => by omega)]; exact p6_0 w a0 a1 a2 a3 a4 a5 a6 a7 a8 a9 h0
  by_cases h1 : a0 ≤ 64
  case neg => rw [show goodP a0 a1 a2 a3 a4 a5 a6 a7 a8 a9 = false from decide_eq_false (fun h => by omega)]; exact p6_1 w a0 a1 a2 a3 a4 a5 a6 a7 a8 a9 h0 h1
  by_cases h2 : 1 ≤ a1
  case neg => rw [show goodP a0 a1 a2 a3 a4 a5 a6 a7 a8 a9 = false from decide_eq_false (fun h => by omega)]; exact p6_2 w a0 a1 a2 a3 a4 a5 a6 a7 a8 a9 h0 h1 h2
  by_cases h3 : a1 ≤ 100000
  case neg => rw [show goodP a0 a1 a2 a3 a4 a5 a6 a7 a8 a9 = false from decide_eq_false (fun h => by omega)]; exact p6_3 w a0 a1 a2 a3 a4 a5 a6 a7 a8 a9 h0 h1 h2 h3
  by_cases h4 : 1 ≤ a2
  case neg => rw [show goodP a0 a1 a2 a3 a4 a5 a6 a7 a8 a9 = false from decide_eq_false (fun h => by omega)]; exact p6_4 w a0 a1 a2 a3 a4 a5 a6 a7 a8 a9 h0 h1 h2 h3 h4
  by_cases h5 : a2 ≤ 16
  case neg => rw [show goodP a0 a1 a2 a3 a4 a5 a6 a7 a8 a9 = false from decide_eq_false (fun h => by omega)]; exact p6_5 w a0 a1 a2 a3 a4 a5 a6 a7 a8 a9 h0 h1 h2 h3 h4 h5
  by_cases h6 : a3 ≤ 10000
  case neg => rw [show goodP a0 a1 a2 a3 a4 a5 a6 a7 a8 a9 = false from decide_eq_false (fun h => by omega)]; exact p6_6 w a0 a1 a2 a3 a4 a5 a6 a7 a8 a9 h0 h1 h2 h3 h4 h5 h6
  by_cases h7 : a4 ≤ 10000
  case neg => rw [show goodP a0 a1 a2 a3 a4 a5 a6 a7 a8 a9 = false from decide_eq_false (fun h => by omega)]; exact p6_7 w a0 a1 a2 a3 a4 a5 a6 a7 a8 a9 h0 h1 h2 h3 h4 h5 h6 h7
  by_cases h8 : a5 ≤ 10000
  case neg => rw [show goodP a0 a1 a2 a3 a4 a5 a6 a7 a8 a9 = false from decide_eq_false (fun h => by omega)]; exact p6_8 w a0 a1 a2 a3 a4 a5 a6 a7 a8 a9 h0 h1 h2 h3 h4 h5 h6 h7 h8
  by_cases h9 : a6 ≤ 100000
  case neg => rw [show goodP a0 a1 a2 a3 a4 a5 a6 a7 a8 a9 = false from decide_eq_false (fun h => by omega)]; exact p6_9 w a0 a1 a2 a3 a4 a5 a6 a7 a8 a9 h0 h1 h2 h3 h4 h5 h6 h7 h8 h9
  by_cases h10 : a7 ≤ 100000
  case neg => rw [show goodP a0 a1 a2 a3 a4 a5 a6 a7 a8 a9 = false from decide_eq_false (fun h => by omega)]; exact p6_10 w a0 a1 a2 a3 a4 a5 a6 a7 a8 a9 h0 h1 h2 h3 h4 h5 h6 h7 h8 h9 h10
  by_cases h11 : a8 ≤ 1000000000
  case neg => rw [show goodP a0 a1 a2 a3 a4 a5 a6 a7 a8 a9 = false from decide_eq_false (fun h => by omega)]; exact p6_11 w a0 a1 a2 a3 a4 a5 a6 a7 a8 a9 h0 h1 h2 h3 h4 h5 h6 h7 h8 h9 h10 h11
  by_cases h12 : 16 ≤ a9
  case neg => rw [show goodP a0 a1 a2 a3 a4 a5 a6 a7 a8 a9 = false from decide_eq_false (fun h => by omega)]; exact p6_12 w a0 a1 a2 a3 a4 a5 a6 a7 a8 a9 h0 h1 h2 h3 h4 h5 h6 h7 h8 h9 h10 h11 h12
  rw [show goodP a0 a1 a2 a3 a4 a5 a6 a7 a8 a9 = true from decide_eq_true (by omega)]; exact p6_13 w a0 a1 a2 a3 a4 a5 a6 a7 a8 a9 h0 h1 h2 h3 h4 h5 h6 h7 h8 h9 h10 h11 h12
end Go.Proofs.YtacchpkmjgdebaaGreat

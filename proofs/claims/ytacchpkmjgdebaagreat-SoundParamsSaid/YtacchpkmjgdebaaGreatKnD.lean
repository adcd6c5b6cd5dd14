/- A part of the proof of the statement of this seat: no condition. -/
import Derived.Test.YtacchpkmjgdebaaGreatKnC
import Derived.Test.YtacchpkmjgdebaaGreatKnB
import Derived.Deep.RegionWith
set_option linter.unusedSimpArgs false
open Go Go.RowKit Go.Proofs
set_option linter.unusedVariables false
namespace Go.Proofs.YtacchpkmjgdebaaGreat
theorem veq_true {v : Value} (h : Ex.veq v (.bool true) = true) : v = .bool true := by
  cases v <;> first
    | (rename_i x; cases x <;> first | rfl | cases h)
    | cases h
    | simp [Ex.veq] at h
def bodyB (o : Option Func) : Bool := match o with
  | some fn => fn.body.isSome
  | none => false
theorem of_bodyB {o : Option Func} (h : bodyB o = true) : ∃ fn c, o = some fn ∧ fn.body = some c := by
  cases o with
  | none => cases h
  | some fn =>
    cases hb : fn.body with
    | none => simp only [bodyB, hb] at h; cases h
    | some c => exact ⟨fn, c, rfl, hb⟩
theorem body4 : bodyB (E1.ft.get none 4) = true := by decide +kernel
theorem known_true (w : World) : Calls Tryz.prog 4 #[] w fun e w' => e = .returned (.bool true) ∧ Ex.Fresh w w' := by
  have hk := known_ok
  cases hc : Ex.callA E1 (Ex.run E1 100000) (Ex.wide 13 3) 4 [] with
  | bad => rw [hc] at hk; cases hk
  | ok v H =>
    rw [hc] at hk
    have hv : v = .bool true := veq_true hk
    subst hv
    exact Ex.closed_sound good1 (by rfl) (of_bodyB body4) rfl hc w
theorem Fresh_cell {w w' : World} (h : Ex.Fresh w w') {a : Addr} (ha : a.block < w.heap.size) : w'.cell? a = w.cell? a := by
  simp only [World.cell?, h.2.2.2.2 _ ha]
theorem cells_of {w W : World} {a0 a1 a2 a3 a4 a5 a6 a7 a8 a9 : Int} (h : Ex.Fresh (w.alloc (.cells #[.int .u64 a0, .int .u64 a1, .int .u64 a2, .int .u64 a3, .int .u64 a4, .int .u64 a5, .int .u64 a6, .int .u64 a7, .int .u64 a8, .int .u64 a9] 24)) W) : W.cell? ⟨w.heap.size, 0, none⟩ = some (.int .u64 a0) ∧ W.cell? ⟨w.heap.size, 1, none⟩ = some (.int .u64 a1) ∧ W.cell? ⟨w.heap.size, 2, none⟩ = some (.int .u64 a2) ∧ W.cell? ⟨w.heap.size, 3, none⟩ = some (.int .u64 a3) ∧ W.cell? ⟨w.heap.size, 4, none⟩ = some (.int .u64 a4) ∧ W.cell? ⟨w.heap.size, 5, none⟩ = some (.int .u64 a5) ∧ W.cell? ⟨w.heap.size, 6, none⟩ = some (.int .u64 a6) ∧ W.cell? ⟨w.heap.size, 7, none⟩ = some (.int .u64 a7) ∧ W.cell? ⟨w.heap.size, 8, none⟩ = some (.int .u64 a8) ∧ W.cell? ⟨w.heap.size, 9, none⟩ = some (.int .u64 a9) := by
  have hl : w.heap.size < (w.alloc (.cells #[.int .u64 a0, .int .u64 a1, .int .u64 a2, .int .u64 a3, .int .u64 a4, .int .u64 a5, .int .u64 a6, .int .u64 a7, .int .u64 a8, .int .u64 a9] 24)).heap.size := by show w.heap.size < (w.heap.push _).size; simp
  refine ⟨?_, ?_, ?_, ?_, ?_, ?_, ?_, ?_, ?_, ?_⟩
  all_goals rw [Fresh_cell h hl]
  all_goals simp only [World.cell?, Ex.alloc_new]
  all_goals rfl
set_option maxHeartbeats 4000000 in
theorem f3 (w : World) (a0 a1 a2 a3 a4 a5 a6 a7 a8 a9 : Int) : Calls Tryz.prog 3 #[.agg #[.int .u64 a0, .int .u64 a1, .int .u64 a2, .int .u64 a3, .int .u64 a4, .int .u64 a5, .int .u64 a6, .int .u64 a7, .int .u64 a8, .int .u64 a9]] w fun e w' => e = .returned (.bool true) ∧ Ex.Fresh w w' := by
  obtain ⟨g, hg⟩ : ∃ g, g = goodP a0 a1 a2 a3 a4 a5 a6 a7 a8 a9 := ⟨_, rfl⟩
  have p5 := fun w => params5 w a0 a1 a2 a3 a4 a5 a6 a7 a8 a9
  have p6 := fun w => params6 w a0 a1 a2 a3 a4 a5 a6 a7 a8 a9
  rw [← hg] at p5 p6
  go_enter Tryz.func3, Tryz.ntmps3
  go_wp2_with fail
  go_region_with (first
    | (go_at_call 4; refine (known_true _).mono ?_; rintro e W1 ⟨rfl, hF1⟩; have hF1 : Ex.Fresh (w.alloc (.cells #[.int .u64 a0, .int .u64 a1, .int .u64 a2, .int .u64 a3, .int .u64 a4, .int .u64 a5, .int .u64 a6, .int .u64 a7, .int .u64 a8, .int .u64 a9] 24)) W1 := hF1; obtain ⟨h0, h1, h2, h3, h4, h5, h6, h7, h8, h9⟩ := cells_of hF1)
    | (go_at_call 5; refine (p5 _).mono ?_; rintro e W2 ⟨rfl, hF2⟩; have hF2 : Ex.Fresh W1 W2 := hF2; have hF12 := hF1.trans hF2; obtain ⟨k0, k1, k2, k3, k4, k5, k6, k7, k8, k9⟩ := cells_of hF12)
    | (go_at_call 6; refine (p6 _).mono ?_; rintro e W3 ⟨rfl, hF3⟩; have hF3 : Ex.Fresh W2 W3 := hF3; have hF123 := hF12.trans hF3))
  all_goals go_wp2
  all_goals go_ret
  all_goals exact ⟨rfl, (fresh_alloc w _).trans hF123⟩
end Go.Proofs.YtacchpkmjgdebaaGreat

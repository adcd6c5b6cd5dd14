/- A part of the proof of the statement of this seat: no condition. -/
import Derived.Test.YtfagoiecijpneaaGreatKMrun
import Derived.Test.YtfagoiecijpneaaGreatKM1
import Derived.Test.YtfagoiecijpneaaGreatKM2
import Derived.Test.YtfagoiecijpneaaGreatKM3
import Derived.Test.YtfagoiecijpneaaGreatKM4
import Derived.Test.YtfagoiecijpneaaGreatKM5
import Derived.Test.YtfagoiecijpneaaGreatKM6
import Derived.Test.YtfagoiecijpneaaGreatKM7
import Derived.Test.YtfagoiecijpneaaGreatKM8
import Derived.Test.YtfagoiecijpneaaGreatKM9
import Derived.Test.YtfagoiecijpneaaGreatKM10
import Derived.Test.YtfagoiecijpneaaGreatKM11
import Derived.Test.YtfagoiecijpneaaGreatKM12
import Derived.Test.YtfagoiecijpneaaGreatKM13
import Derived.Test.YtfagoiecijpneaaGreatKM14
import Derived.Test.YtfagoiecijpneaaGreatKM15
import Derived.Test.YtfagoiecijpneaaGreatKM16
import Derived.Test.YtfagoiecijpneaaGreatKM17
import Derived.Test.YtfagoiecijpneaaGreatKM18
import Derived.Test.YtfagoiecijpneaaGreatKM19
import Derived.Test.YtfagoiecijpneaaGreatKM20
import Derived.Test.YtfagoiecijpneaaGreatKM21
import Derived.Test.YtfagoiecijpneaaGreatKM22
import Derived.Test.YtfagoiecijpneaaGreatKM23
import Derived.Test.YtfagoiecijpneaaGreatKM24
import Derived.Test.YtfagoiecijpneaaGreatKM25
import Derived.Test.YtfagoiecijpneaaGreatKMdefs
import Derived.Test.YtfagoiecijpneaaGreatIB
set_option linter.unusedVariables false
set_option linter.unusedSimpArgs false
section
set_option maxRecDepth 100000
open Go Ex
namespace Go.Proofs.YtfagoiecijpneaaGreat
theorem memo1_sem : CallSemF E1 memo1 := Memo.semF (E := E1) (N := 1000000) (d := 14) good1 (by decide +kernel) memo1_runs
theorem memo2_sem : CallSemF E1 memo2 := Memo.semF (E := (E1.knowF [memo1])) (N := 1000000) (d := 14) (knowF_good good1 (by
      intro m hm
      simp only [List.mem_cons, List.not_mem_nil, or_false] at hm
      rcases hm with rfl <;> first | exact memo1_sem)) (by decide +kernel) memo2_runs
theorem memo3_sem : CallSemF E1 memo3 := Memo.semF (E := E1) (N := 1000000) (d := 14) good1 (by decide +kernel) memo3_runs
theorem memo4_sem : CallSemF E1 memo4 := Memo.semF (E := E1) (N := 1000000) (d := 14) good1 (by decide +kernel) memo4_runs
theorem memo5_sem : CallSemF E1 memo5 := Memo.semF (E := E1) (N := 1000000) (d := 14) good1 (by decide +kernel) memo5_runs
theorem memo6_sem : CallSemF E1 memo6 := Memo.semF (E := E1) (N := 1000000) (d := 14) good1 (by decide +kernel) memo6_runs
theorem memo7_sem : CallSemF E1 memo7 := Memo.semF (E := E1) (N := 1000000) (d := 14) good1 (by decide +kernel) memo7_runs
theorem memo8_sem : CallSemF E1 memo8 := Memo.semF (E := E1) (N := 1000000) (d := 14) good1 (by decide +kernel) memo8_runs
theorem memo9_sem : CallSemF E1 memo9 := Memo.semF (E := (E1.knowF [memo4, memo5, memo6, memo7, memo8])) (N := 1000000) (d := 14) (knowF_good good1 (by
      intro m hm
      simp only [List.mem_cons, List.not_mem_nil, or_false] at hm
      rcases hm with rfl | rfl | rfl | rfl | rfl <;> first | exact memo4_sem | exact memo5_sem | exact memo6_sem | exact memo7_sem | exact memo8_sem)) (by decide +kernel) memo9_runs
theorem memo10_sem : CallSemF E1 memo10 := Memo.semFB (E := E1) (N := 1000000) (d := 14) good1 (by decide +kernel) memo10_runs
theorem memo11_sem : CallSemF E1 memo11 := Memo.semFB (E := E1) (N := 1000000) (d := 14) good1 (by decide +kernel) memo11_runs
theorem memo12_sem : CallSemF E1 memo12 := Memo.semFB (E := E1) (N := 1000000) (d := 14) good1 (by decide +kernel) memo12_runs
theorem memo13_sem : CallSemF E1 memo13 := Memo.semFB (E := E1) (N := 1000000) (d := 14) good1 (by decide +kernel) memo13_runs
theorem memo14_sem : CallSemF E1 memo14 := Memo.semF (E := (E1.knowF [memo9, memo10, memo11, memo12, memo13])) (N := 1000000) (d := 14) (knowF_good good1 (by
      intro m hm
      simp only [List.mem_cons, List.not_mem_nil, or_false] at hm
      rcases hm with rfl | rfl | rfl | rfl | rfl <;> first | exact memo9_sem | exact memo10_sem | exact memo11_sem | exact memo12_sem | exact memo13_sem)) (by decide +kernel) memo14_runs
theorem memo15_sem : CallSemF E1 memo15 := Memo.semF (E := E1) (N := 1000000) (d := 14) good1 (by decide +kernel) memo15_runs
theorem memo16_sem : CallSemF E1 memo16 := Memo.semF (E := E1) (N := 1000000) (d := 14) good1 (by decide +kernel) memo16_runs
theorem memo17_sem : CallSemF E1 memo17 := Memo.semF (E := E1) (N := 1000000) (d := 14) good1 (by decide +kernel) memo17_runs
theorem memo18_sem : CallSemF E1 memo18 := Memo.semF (E := E1) (N := 1000000) (d := 14) good1 (by decide +kernel) memo18_runs
theorem memo19_sem : CallSemF E1 memo19 := Memo.semF (E := E1) (N := 1000000) (d := 14) good1 (by decide +kernel) memo19_runs
theorem memo20_sem : CallSemF E1 memo20 := Memo.semF (E := (E1.knowF [memo15, memo16, memo17, memo18, memo19])) (N := 1000000) (d := 14) (knowF_good good1 (by
      intro m hm
      simp only [List.mem_cons, List.not_mem_nil, or_false] at hm
      rcases hm with rfl | rfl | rfl | rfl | rfl <;> first | exact memo15_sem | exact memo16_sem | exact memo17_sem | exact memo18_sem | exact memo19_sem)) (by decide +kernel) memo20_runs
theorem memo21_sem : CallSemF E1 memo21 := Memo.semFB (E := E1) (N := 1000000) (d := 14) good1 (by decide +kernel) memo21_runs
theorem memo22_sem : CallSemF E1 memo22 := Memo.semFB (E := E1) (N := 1000000) (d := 14) good1 (by decide +kernel) memo22_runs
theorem memo23_sem : CallSemF E1 memo23 := Memo.semFB (E := E1) (N := 1000000) (d := 14) good1 (by decide +kernel) memo23_runs
theorem memo24_sem : CallSemF E1 memo24 := Memo.semFB (E := E1) (N := 1000000) (d := 14) good1 (by decide +kernel) memo24_runs
theorem memo25_sem : CallSemF E1 memo25 := Memo.semF (E := (E1.knowF [memo20, memo21, memo22, memo23, memo24])) (N := 1000000) (d := 14) (knowF_good good1 (by
      intro m hm
      simp only [List.mem_cons, List.not_mem_nil, or_false] at hm
      rcases hm with rfl | rfl | rfl | rfl | rfl <;> first | exact memo20_sem | exact memo21_sem | exact memo22_sem | exact memo23_sem | exact memo24_sem)) (by decide +kernel) memo25_runs
theorem worked_true (w : World) : Calls Tryz.prog 16 #[] w fun e w' => e = .returned (.bool true) ∧ Fresh w w' := closed_out (E := (E1.knowF [memo2, memo3, memo14, memo25])) (knowF_good good1 (by
    intro m hm
    simp only [List.mem_cons, List.not_mem_nil, or_false] at hm
    rcases hm with rfl | rfl | rfl | rfl <;> first | exact memo2_sem | exact memo3_sem | exact memo14_sem | exact memo25_sem)) (of_bodied (by decide +kernel)) rfl worked_runs w
end Go.Proofs.YtfagoiecijpneaaGreat
end
section
set_option maxRecDepth 100000
open Go Ex
namespace Go.Proofs.YtfagoiecijpneaaGreat
/-- known(), with worked() known -/
noncomputable def EK : Env := E1.free 16 true
theorem known_runs : outIs (callA EK (runC 4 ⟨.bool true, 187, 14, []⟩ EK 1000000) (wide 14 3) 4 []) (.bool true) 187 [] = true := by decide +kernel
end Go.Proofs.YtfagoiecijpneaaGreat
end
section
open Go Ex
namespace Go.Proofs.YtfagoiecijpneaaGreat
theorem known_true (w : World) : Calls Tryz.prog 4 #[] w fun e w' => e = .returned (.bool true) ∧ Fresh w w' :=
  closed_outC (E := EK) (free_good good1 (by decide +kernel) worked_true) (of_bodied (by decide +kernel)) rfl known_runs w
end Go.Proofs.YtfagoiecijpneaaGreat
end

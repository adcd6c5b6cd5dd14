/- A part of the proof of the statement of this seat: no condition. -/
import Derived.Test.YtjfmbamiampjmaaGreatKMrun
import Derived.Test.YtjfmbamiampjmaaGreatKM1
import Derived.Test.YtjfmbamiampjmaaGreatKM2
import Derived.Test.YtjfmbamiampjmaaGreatKM3
import Derived.Test.YtjfmbamiampjmaaGreatKM4
import Derived.Test.YtjfmbamiampjmaaGreatKM5
import Derived.Test.YtjfmbamiampjmaaGreatKM6
set_option linter.unusedVariables false
set_option linter.unusedSimpArgs false
set_option maxRecDepth 100000
open Go Ex
namespace Go.Proofs.YtjfmbamiampjmaaGreat
theorem memo1_sem : CallSem E1 memo1.f (lit 13 memo1.n memo1.L) memo1.args memo1.v (lit 13 memo1.n' memo1.L') := Memo.sem (E := E1) (d := 13) (d' := 13) good1 (by decide +kernel) memo1_runs
theorem memo2_sem : CallSem E1 memo2.f (lit 13 memo2.n memo2.L) memo2.args memo2.v (lit 13 memo2.n' memo2.L') := Memo.sem (E := E1) (d := 13) (d' := 13) good1 (by decide +kernel) memo2_runs
theorem memo3_sem : CallSem E1 memo3.f (lit 13 memo3.n memo3.L) memo3.args memo3.v (lit 13 memo3.n' memo3.L') := Memo.sem (E := (E1.know 13 [memo1, memo2])) (d := 13) (d' := 13) (know_good good1 (by
      intro m hm
      simp only [List.mem_cons, List.not_mem_nil, or_false] at hm
      rcases hm with rfl | rfl <;> first | exact memo1_sem | exact memo2_sem)) (by decide +kernel) memo3_runs
theorem memo4_sem : CallSem E1 memo4.f (lit 13 memo4.n memo4.L) memo4.args memo4.v (lit 13 memo4.n' memo4.L') := Memo.sem (E := E1) (d := 13) (d' := 13) good1 (by decide +kernel) memo4_runs
theorem memo5_sem : CallSem E1 memo5.f (lit 13 memo5.n memo5.L) memo5.args memo5.v (lit 13 memo5.n' memo5.L') := Memo.sem (E := E1) (d := 13) (d' := 13) good1 (by decide +kernel) memo5_runs
theorem memo6_sem : CallSem E1 memo6.f (lit 13 memo6.n memo6.L) memo6.args memo6.v (lit 13 memo6.n' memo6.L') := Memo.sem (E := E1) (d := 13) (d' := 13) good1 (by decide +kernel) memo6_runs
theorem known_true (w : World) : Calls Tryz.prog 5 #[] w fun e w' => e = .returned (.bool true) ∧ Fresh w w' := closed_out (E := (E1.know 13 [memo3, memo4, memo5, memo6])) (know_good good1 (by
    intro m hm
    simp only [List.mem_cons, List.not_mem_nil, or_false] at hm
    rcases hm with rfl | rfl | rfl | rfl <;> first | exact memo3_sem | exact memo4_sem | exact memo5_sem | exact memo6_sem)) (of_bodied (by decide +kernel)) rfl known_runs w
end Go.Proofs.YtjfmbamiampjmaaGreat

/- A part of the proof of the statement of this seat: no condition. -/
import Derived.Test.YtbhnjkegkadodaaGreatDoorKMrun
import Derived.Test.YtbhnjkegkadodaaGreatDoorKM1
import Derived.Test.YtbhnjkegkadodaaGreatDoorKM2
import Derived.Test.YtbhnjkegkadodaaGreatDoorKM3
import Derived.Test.YtbhnjkegkadodaaGreatDoorKM4
import Derived.Test.YtbhnjkegkadodaaGreatDoorKM5
set_option linter.unusedVariables false
set_option linter.unusedSimpArgs false
set_option maxRecDepth 100000
set_option maxHeartbeats 8000000
section
open Go Ex
namespace Go.Proofs.YtbhnjkegkadodaaGreatDoor
theorem memo1_sem:CallSemF E1 memo1:=Memo.semF (E:=E1) (N:=1000000) (d:=14) good1 (by decide +kernel) memo1_runs
theorem memo2_sem:CallSemF E1 memo2:=Memo.semF (E:=E1) (N:=1000000) (d:=14) good1 (by decide +kernel) memo2_runs
theorem memo3_sem:CallSemF E1 memo3:=Memo.semF (E:=E1) (N:=1000000) (d:=14) good1 (by decide +kernel) memo3_runs
theorem memo4_sem:CallSemF E1 memo4:=Memo.semF (E:=E1) (N:=1000000) (d:=14) good1 (by decide +kernel) memo4_runs
theorem memo5_sem:CallSemF E1 memo5:=Memo.semF (E:=E1) (N:=1000000) (d:=14) good1 (by decide +kernel) memo5_runs
theorem known_true (w:World) {t:TypeId} (hw:w.heap[3]?=some (.cells pow10s.toArray t (0,0))):Calls Tryz.prog 9 #[] w fun e w'=>e=.returned (.bool true)/\Fresh w w':=closed_outG (E:=(E1.knowF [memo1,memo2,memo3,memo4,memo5])) (knowF_good good1 (by
 intro m hm
 simp only[List.mem_cons,List.not_mem_nil,or_false]at hm
 rcases hm with rfl|rfl|rfl|rfl|rfl<;>first|exact memo1_sem|exact memo2_sem|exact memo3_sem|exact memo4_sem|exact memo5_sem)) (of_bodied (by decide +kernel)) rfl (by decide) (by decide +kernel) known_runs w hw pow10s_LR
end Go.Proofs.YtbhnjkegkadodaaGreatDoor
end

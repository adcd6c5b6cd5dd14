/- A part of the proof of the statement of this seat: no condition. -/
import Derived.Test.YtbhnjkegkadodaaGreatDoorLsK
import Derived.Test.YtbhnjkegkadodaaGreatDoorLsFd
import Derived.Test.YtbhnjkegkadodaaGreatDoorCards
import Derived.Test.YtbhnjkegkadodaaGreatDoorTie
import Derived.SevenTiedAt
set_option linter.unusedVariables false
set_option linter.unusedSimpArgs false
set_option maxRecDepth 100000
set_option maxHeartbeats 8000000
section
open Go Go.Proofs
namespace Go.Proofs.YtbhnjkegkadodaaGreatDoor
open Go.ChangeShapes Go.WideShapes Go.ChangeAt Go.RowKit
theorem f1Split_said:Rows.F1SplitSaid:=
 OpenClaim.holds_of_cond 7 Tryz.f7 rfl rfl rfl rfl rfl rfl rfl ⟨rfl,rfl,rfl,rfl,rfl⟩ rfl rfl rfl rfl rfl (by kernel_rfl) Tryz.func7 facts7
  (of_decide_eq_true (by kernel_rfl)) (by unfold Func.isWrapper;first|(rw[if_pos (by decide +kernel)];kernel_rfl)|(rw[if_neg (by decide +kernel)];exact⟨rfl,rfl⟩))
  (fun os started H enc _ F=>by rw[OpenClaim.pre_eq_preRow];exact lifted7 os started H enc F)
theorem plain7 (f:FuncId) (fn:Func) (hf:Tryz.pinned.checked.prog.funcNamed "glean/gleanlaw13.F1Split" = some f) (hfn:Tryz.pinned.checked.prog.funcs[f]?=some fn):
 false=Tryz.pinned.checked.prog.looks []/\∀(j:Nat) t,fn.params[j]?=some t->Tryz.pinned.checked.prog.wantsStandIn t=false:=by
 obtain rfl:f=7:=Option.some.inj ((show Tryz.prog.funcNamed "glean/gleanlaw13.F1Split" = some 7 by kernel_rfl).symm.trans hf) |>.symm
 obtain rfl:fn=Tryz.f7:=(Option.some.inj (Tryz.func7.symm.trans hfn)).symm
 refine⟨by kernel_rfl,fun j t ht=>?_⟩
 rw[Tryz.params7]at ht
 have hm:t=22\/t=62:=by simpa using Array.mem_of_getElem? ht
 rcases hm with rfl|rfl
 · exact(show Tryz.prog.wantsStandIn 22=false by kernel_rfl)
 · exact(show Tryz.prog.wantsStandIn 62=false by kernel_rfl)
theorem f1Split_card:Rows.F1SplitCardSaid:=
 Claim7.holds_tied_plain_at .later [] _ _ _ _ f1Split_said (fun _ h=>by cases h) (by kernel_rfl) (fun _ h=>by cases h) f1Split_row_tie rfl ⟨rfl,rfl⟩ (by kernel_rfl) rfl plain7 (by kernel_rfl)
#print axioms f1Split_card
end Go.Proofs.YtbhnjkegkadodaaGreatDoor
end

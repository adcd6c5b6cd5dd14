/- Part of the proof. -/
import Derived.Test.YtbhnjkegkadodaaGreatDoorLmK
import Derived.Test.YtbhnjkegkadodaaGreatDoorG47
import Derived.Test.YtbhnjkegkadodaaGreatDoorCards
import Derived.Test.YtbhnjkegkadodaaGreatDoorTie
set_option linter.all false
set_option maxRecDepth 100000
set_option maxHeartbeats 8000000
section
open Go Go.Proofs
namespace Go.Proofs.YtbhnjkegkadodaaGreatDoor
open Gz
open Go.ChangeShapes Go.WideShapes Go.ChangeAt Go.RowKit
theorem f1Sums_said:Rows.F1SumsSaid:=
 OpenClaim.holds_of_cond 6 Tryz.f6 rfl rfl rfl rfl rfl rfl rfl ⟨rfl,rfl,rfl,rfl,rfl⟩ rfl rfl rfl rfl rfl (by kernel_rfl) Tryz.func6 facts6
  (of_decide_eq_true (by kernel_rfl)) (by unfold Func.isWrapper;first|(rw[if_pos (by decide +kernel)];kernel_rfl)|(rw[if_neg (by decide +kernel)];exact⟨rfl,rfl⟩))
  (fun os started H enc _ F=>by rw[OpenClaim.pre_eq_preRow];exact lifted6 os started H enc F)
theorem plain6 (f:FuncId) (fn:Func) (hf:Tryz.pinned.checked.prog.funcNamed "glean/gleanlaw13.F1Sums" = some f) (hfn:Tryz.pinned.checked.prog.funcs[f]?=some fn):
 false=Tryz.pinned.checked.prog.looks []/\∀(j:Nat) t,fn.params[j]?=some t->Tryz.pinned.checked.prog.wantsStandIn t=false:=by
 obtain rfl:f=6:=Option.some.inj ((show Tryz.prog.funcNamed "glean/gleanlaw13.F1Sums" = some 6 by kernel_rfl).symm.trans hf) |>.symm
 obtain rfl:fn=Tryz.f6:=(Option.some.inj (Tryz.func6.symm.trans hfn)).symm;refine⟨by kernel_rfl,fun j t ht=>?_⟩;rw[Tryz.params6]at ht;have hm:t=22\/t=29:=by simpa using Array.mem_of_getElem? ht
 rcases hm with rfl|rfl
 · exact(show Tryz.prog.wantsStandIn 22=false by kernel_rfl)
 · exact(show Tryz.prog.wantsStandIn 29=false by kernel_rfl)
theorem f1Sums_card:Rows.F1SumsCardSaid:=
 Claim7.holds_tied_plain_at .later [] _ _ _ _ f1Sums_said (fun _ h=>by cases h) (by kernel_rfl) (fun _ h=>by cases h) f1Sums_row_tie rfl ⟨rfl,rfl⟩ (by kernel_rfl) rfl plain6 (by kernel_rfl)
#print axioms f1Sums_card
end Go.Proofs.YtbhnjkegkadodaaGreatDoor
end

/- Part of the proof. -/
import Derived.Test.YtbhnjkegkadodaaGreatDoorLaK
import Derived.Test.YtbhnjkegkadodaaGreatDoorG49
import Derived.Test.YtbhnjkegkadodaaGreatDoorCards
import Derived.Test.YtbhnjkegkadodaaGreatDoorTie
set_option linter.all false
set_option maxRecDepth 100000
set_option maxHeartbeats 8000000
section
open Go Go.Proofs
namespace Go.Proofs.YtbhnjkegkadodaaGreatDoor
open Go.ChangeShapes Go.WideShapes Go.ChangeAt Go.RowKit
theorem f1Alike_said:Rows.F1AlikeSaid:=
 OpenClaim.holds_of_cond 8 Tryz.f8 rfl rfl rfl rfl rfl rfl rfl ⟨rfl,rfl,rfl,rfl,rfl⟩ rfl rfl rfl rfl rfl (by kernel_rfl) Tryz.func8 facts8
  (of_decide_eq_true (by kernel_rfl)) (by unfold Func.isWrapper;first|(rw[if_pos (by decide +kernel)];kernel_rfl)|(rw[if_neg (by decide +kernel)];exact⟨rfl,rfl⟩))
  (fun os started H enc _ F=>by rw[OpenClaim.pre_eq_preRow];exact lifted8 os started H enc F)
theorem plain8 (f:FuncId) (fn:Func) (hf:Tryz.pinned.checked.prog.funcNamed "glean/gleanlaw13.F1Alike" = some f) (hfn:Tryz.pinned.checked.prog.funcs[f]?=some fn):
 false=Tryz.pinned.checked.prog.looks []/\∀(j:Nat) t,fn.params[j]?=some t->Tryz.pinned.checked.prog.wantsStandIn t=false:=by
 obtain rfl:f=8:=Option.some.inj ((show Tryz.prog.funcNamed "glean/gleanlaw13.F1Alike" = some 8 by kernel_rfl).symm.trans hf) |>.symm
 obtain rfl:fn=Tryz.f8:=(Option.some.inj (Tryz.func8.symm.trans hfn)).symm
 refine⟨by kernel_rfl,fun j t ht=>?_⟩
 rw[Tryz.params8]at ht
 have hm:t=22\/t=62\/t=4:=by simpa using Array.mem_of_getElem? ht
 rcases hm with rfl|rfl|rfl
 · exact(show Tryz.prog.wantsStandIn 22=false by kernel_rfl)
 · exact(show Tryz.prog.wantsStandIn 62=false by kernel_rfl)
 · exact(show Tryz.prog.wantsStandIn 4=false by kernel_rfl)
theorem f1Alike_card:Rows.F1AlikeCardSaid:=
 Claim7.holds_tied_plain_at .later [] _ _ _ _ f1Alike_said (fun _ h=>by cases h) (by kernel_rfl) (fun _ h=>by cases h) f1Alike_row_tie rfl ⟨rfl,rfl⟩ (by kernel_rfl) rfl plain8 (by kernel_rfl)
#print axioms f1Alike_card
end Go.Proofs.YtbhnjkegkadodaaGreatDoor
end

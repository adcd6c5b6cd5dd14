/- A part of the proof of the statement of this seat: no condition. -/
import Derived.Test.YtbhnjkegkadodaaGreatDoorQ00
set_option linter.unusedVariables false
set_option linter.unusedSimpArgs false
set_option maxRecDepth 100000
set_option maxHeartbeats 8000000
section
open Go Go.Proofs
namespace Go.Proofs.YtbhnjkegkadodaaGreatDoor
open Go.ChangeShapes Go.WideShapes Go.ChangeAt Go.RowKit Go.Joins Go.Deep Gl
noncomputable def args7:Array Value:=#[.int .u64 0,.int .u64 0,.slice none 0 0,.slice none 0 0]
theorem laid_met7 (os:Os):laidMet Tryz.prog Rows.f1SplitRow.laid ((laidWorld #[] os).forCall (fun _ _=>0) ⟨#[],args7,[]⟩).memory:=
 laidMet_of_run' 8 (by kernel_rfl) (by kernel_rfl)
theorem reads7 (os:Os) {H:Type} (enc:TypeId × Value->H):∃places,DataW.whole enc Tryz.prog ((laidWorld #[] os).forCall (fun _ _=>0) ⟨#[],args7,[]⟩).memory Tryz.f7.params.toList Rows.f1SplitSpec.vars false args7.toList 8=some ([.lit (.int .u64 0),.lit (.int .u64 0),.nil,.nil],[],places):=
 ⟨[],by kernel_rfl⟩
end Go.Proofs.YtbhnjkegkadodaaGreatDoor
end

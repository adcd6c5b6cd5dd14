/- A part of the proof of the statement of this seat: no condition. -/
import Derived.Test.YtbhnjkegkadodaaGreatDoorQ00
set_option linter.unusedVariables false
set_option linter.unusedSimpArgs false
set_option maxRecDepth 100000
set_option maxHeartbeats 8000000
section
open Go Go.Proofs
namespace Go.Proofs.YtbhnjkegkadodaaGreatDoor
open Go.ChangeShapes Go.WideShapes Go.ChangeAt Go.RowKit Go.Joins Go.Deep Gl
noncomputable def args4:Array Value:=#[.int .u64 0,.agg #[.slice none 0 0],.slice none 0 0]
theorem laid_met (os:Os):laidMet Tryz.prog Rows.f1ExactRow.laid ((laidWorld #[] os).forCall (fun _ _=>0) ⟨#[],args4,[]⟩).memory:=
 laidMet_of_run' 8 (by kernel_rfl) (by kernel_rfl)
theorem reads4 (os:Os) {H:Type} (enc:TypeId × Value->H):∃places,DataW.whole enc Tryz.prog ((laidWorld #[] os).forCall (fun _ _=>0) ⟨#[],args4,[]⟩).memory Tryz.f4.params.toList Rows.f1ExactSpec.vars false args4.toList 8=some ([.lit (.int .u64 0),.agg [.nil],.nil],[],places):=
 ⟨[],by kernel_rfl⟩
end Go.Proofs.YtbhnjkegkadodaaGreatDoor
end

/- A part of the proof of the statement of this seat: no condition. -/
import Derived.Test.YtbhnjkegkadodaaGreatDoorXG07
import Derived.Test.YtbhnjkegkadodaaGreatDoorKP03
import Derived.Test.YtbhnjkegkadodaaGreatDoorKP01
set_option linter.unusedVariables false
set_option linter.unusedSimpArgs false
set_option maxRecDepth 100000
set_option maxHeartbeats 8000000
namespace Ex
open Go
variable {E:Env} {ρ ρ':Rho} {H H':Heap} {w w':World} {ex:Ex}
def plain:Value->Bool
 | .int _ _=>true
 | .bool _=>true
 | .slice none 0 0=>true
 | .pointer none=>true
 | _=>false
theorem plain_VR {v:Value} (h:plain v=true) (ρ:Rho):VR ρ v v:=by
 unfold plain at h
 split at h
 · exact .int _ _
 · exact .bool _
 · exact .snil
 · exact .pnil
 · cases h
theorem plain_LR:∀ {l:List Value},l.all plain=true->∀ρ:Rho,LR ρ l l
 | [],_,ρ=>LR.nil ρ
 | v :: l,h,ρ=>by
   rw[List.all_cons,Bool.and_eq_true]at h
   exact LR.cons (plain_VR h.1 ρ) (plain_LR h.2 ρ)
theorem closed_args (hG:EnvGood E) {n d:Nat} {f:FuncId} {args:List Value} {v':Value} (ha:args.all plain=true) (hb:∃fn c,E.ft.get none f=some fn/\fn.body=some c) (hf:free v'=true) (hc:callA E (run E n) (wide d E.ng) f args=.ok v' H') (w:World):
 Calls E.P f ⟨args⟩ w fun e w'=>e=.returned v'/\Fresh w w':=by
 let ρ0:Rho:=fun g=>if g<E.ng then some ⟨g,0,0,0⟩ else none
 have h0:HR E.ng ρ0 (wide d E.ng) w:=wide_HR w (fun b hb=>if_neg (by omega)) (fun g hg=>⟨0,if_pos hg⟩)
 refine(call_sound hG (run_sound hG n) hb hc h0 (plain_LR ha ρ0)).mono fun e w' ⟨ρ',v,he,hv,_,hx⟩=>?_
 rw[free_eq hv hf]at he
 exact⟨he,hx.os,hx.output,hx.tape,hx.size,fun c hc=>hx.keep c hc wide_held⟩
end Ex
namespace Ex
open Go
def outV (r:Out) (v:Value):Bool:=match r with
 | .ok u _=>veq u v
 | .bad=>false
theorem args_out {E:Env} (hG:EnvGood E) {n d:Nat} {f:FuncId} {args:List Value} {v':Value} (ha:args.all plain=true) (hb:∃fn c,E.ft.get none f=some fn/\fn.body=some c) (hf:free v'=true) (h:outV (callA E (run E n) (wide d E.ng) f args) v'=true) (w:World):
 Calls E.P f ⟨args⟩ w fun e w'=>e=.returned v'/\Fresh w w':=by
 unfold outV at h
 cases hc:callA E (run E n) (wide d E.ng) f args with
 | bad=>rw[hc]at h;cases h
 | ok u H1=>
   rw[hc]at h
   rw[veq_eq h]at hc
   exact closed_args hG ha hb hf hc w
end Ex
namespace Go.Proofs.YtbhnjkegkadodaaGreatDoor
open Go Go.RowKit Go.Proofs Gl Ex
theorem new_of_fresh {w w':World} (h:Ex.Fresh w w'):New w w':=⟨h.1,h.2.1,h.2.2.1,h.2.2.2.1,fun c hc _=>h.2.2.2.2 c hc⟩
theorem form7 (w:World):Calls Tryz.prog 173 #[.int .i64 7] w fun e w'=>e=.returned (.tuple #[.agg #[.int .u8 118,.int .u8 104,.bool true,.bool true,.bool false],.bool true])/\Fresh w w':=
 args_out (E:=E1) (n:=3000) (d:=10) good1 (args:=[.int .i64 7]) rfl (of_bodied (by decide +kernel)) rfl (by decide +kernel) w
theorem form8 (w:World):Calls Tryz.prog 173 #[.int .i64 8] w fun e w'=>e=.returned (.tuple #[.agg #[.int .u8 118,.int .u8 115,.bool true,.bool true,.bool false],.bool true])/\Fresh w w':=
 args_out (E:=E1) (n:=3000) (d:=10) good1 (args:=[.int .i64 8]) rfl (of_bodied (by decide +kernel)) rfl (by decide +kernel) w
theorem history_nil (w:World):Calls Tryz.prog 112 #[.slice none 0 0] w fun e w'=>e=.returned (.tuple #[.agg #[.slice none 0 0,.int .u64 0],.int .i64 80])/\Fresh w w':=
 args_out (E:=E1) (n:=5000) (d:=10) good1 (args:=[.slice none 0 0]) rfl (of_bodied (by decide +kernel)) rfl (by decide +kernel) w
end Go.Proofs.YtbhnjkegkadodaaGreatDoor

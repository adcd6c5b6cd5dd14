/- Part of the proof. -/
import Derived.Test.YtbhnjkegkadodaaGreatDoorRnS
set_option linter.all false
set_option maxRecDepth 100000
set_option maxHeartbeats 8000000
section
open Go Go.Proofs
namespace Go.Proofs.YtbhnjkegkadodaaGreatDoor
open Gz
open Go.ChangeShapes Go.WideShapes Go.ChangeAt Go.RowKit Go.Joins Go.Deep Gl
theorem fresh_of_new6 {w w':World} (h:New w w'):Ex.Fresh w w':=⟨h.os,h.output,h.tape,h.size,fun c hc=>h.block c hc id⟩
theorem contract6 (H:Type) (enc:TypeId × Value->H) (W:World) (base:Nat) (args:Array Value) (ds gs:List (DataW H)) (before:List MemPlace)
 (hval:∀(j:Nat) t v,Tryz.f6.params[j]?=some t->args[j]?=some v->Value.okWide Tryz.prog W .any base t v)
 (hW:DataW.Whole enc Tryz.prog Tryz.f6.params.toList Rows.f1SumsSpec.vars false W args.toList ds gs before) (hL:laidMetH Tryz.prog Rows.f1SumsRow.laid W):
 Calls Tryz.prog 6 args W fun e W'=>∃v,e=.returned v/\Rows.f1SumsSpec.post enc Tryz.prog Tryz.f6 false true false false W args v W':=by
 have a1:=hW;obtain⟨p,q,a6,hV,rfl,b7,b8⟩:=hW;have hA:DataW.TrodAll enc Tryz.prog W 0 (fun _=>true) true Tryz.f6.params.toList args.toList ds p:=a6;rw[Tryz.params6]at hA hval;obtain⟨v0,v1,d0,d1,p0,p1,rfl,rfl,rfl,h0,h1⟩:=trodAll_two hA;obtain⟨rfl,rfl⟩:=trodVars_none hV;obtain⟨t0,rfl,rfl,rfl,a3⟩:=open_int Tryz.underlying22 (hval 0 22 v0 rfl rfl) h0;obtain⟨A1,n1,c1,rfl⟩:=okWide_slice Tryz.underlying29 (hval 1 29 v1 rfl rfl);obtain⟨a8,h1⟩:=h1;obtain⟨d6,d7,d8,a9,a4⟩:=open_steps h1;cases a9;simp only[List.append_nil]at a1;have a5:Laid3 W:=laid3_of hL;have b5:=bounds_u64 a3;obtain⟨k0,rfl⟩:=Int.eq_ofNat_of_zero_le (bounds_u64 a3).1;have a2:Calls Tryz.prog 6 #[.int .u64 (k0:Int),.slice A1 n1 c1] W fun e w'=>e=.returned (.bool true)/\New W w':=sums_c (by omega) a5 a4
 refine a2.mono fun e W' ⟨he,hF⟩=>?_
 subst he;exact⟨_,rfl,post_fresh a1 rfl kids full (by rw[Tryz.params6];intro t ht;simp only[List.mem_cons,List.not_mem_nil,or_false]at ht;rcases ht with rfl|rfl<;>exact of_decide_eq_true (by kernel_rfl)) rfl rfl (fun _ _ _=>trodAll_mk1 (shut_bool Tryz.underlying4 _)) (fresh_of_new6 hF) (ok_one (by kernel_rfl) rfl (okWide_bool_mk Tryz.underlying4 _))⟩
theorem lifted6 (os:Os) (started:os.Started) (H:Type) (enc:TypeId × Value->H) (F:Stop.Interp):
 ReturnsInHanded {} Tryz.checked os 6 .any ((OpenSpec.ofChange Rows.f1SumsSpec).preRow enc Tryz.prog Tryz.f6 Rows.f1SumsRow.domain false Rows.f1SumsRow.laid) (((OpenSpec.ofChange Rows.f1SumsSpec).at F).post enc Tryz.prog Tryz.f6 false true false false):=by
 obtain⟨places,hx⟩:=reads6 os enc;refine returnsInHanded_of_row (C:=Tryz.checked) (s:=OpenSpec.ofChange Rows.f1SumsSpec) own started (by kernel_rfl) Tryz.func6
  (witness_row_at (enc:=enc) (C:=Tryz.checked) false (laidWorld #[] os) args6 rfl (by kernel_rfl) (by kernel_rfl) (by kernel_rfl)
    (OpenSpec.preRow_of_cond 8 hx (by kernel_rfl) (fun k hk=>by cases hk) (by kernel_rfl) (laid_met6 os))) ?_
 intro W base args ds gs before hval hW _ _ _ hL _ _;exact contract6 H enc W base args ds gs before hval hW hL
end Go.Proofs.YtbhnjkegkadodaaGreatDoor
end

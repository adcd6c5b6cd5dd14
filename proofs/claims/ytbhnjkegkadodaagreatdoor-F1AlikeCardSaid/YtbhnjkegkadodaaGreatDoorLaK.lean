/- Part of the proof. -/
import Derived.Test.YtbhnjkegkadodaaGreatDoorLwT
set_option linter.all false
set_option maxRecDepth 100000
set_option maxHeartbeats 8000000
section
open Go Go.Proofs
namespace Go.Proofs.YtbhnjkegkadodaaGreatDoor
open Go.ChangeShapes Go.WideShapes Go.ChangeAt Go.RowKit Go.Joins Go.Deep Gl
theorem fresh_of_new8 {w w':World} (h:New w w'):Ex.Fresh w w':=⟨h.os,h.output,h.tape,h.size,fun c hc=>h.block c hc id⟩
theorem contract8 (H:Type) (enc:TypeId × Value->H) (W:World) (base:Nat) (args:Array Value) (ds gs:List (DataW H)) (before:List MemPlace)
 (hval:∀(j:Nat) t v,Tryz.f8.params[j]?=some t->args[j]?=some v->Value.okWide Tryz.prog W .any base t v)
 (hW:DataW.Whole enc Tryz.prog Tryz.f8.params.toList Rows.f1AlikeSpec.vars false W args.toList ds gs before) (hL:laidMetH Tryz.prog Rows.f1AlikeRow.laid W):
 Calls Tryz.prog 8 args W fun e W'=>∃v,e=.returned v/\Rows.f1AlikeSpec.post enc Tryz.prog Tryz.f8 false true false false W args v W':=by
 have hW':=hW
 obtain⟨p,q,hA0,hV,rfl,hfz,hnd⟩:=hW
 have hA:DataW.TrodAll enc Tryz.prog W 0 (fun _=>true) true Tryz.f8.params.toList args.toList ds p:=hA0
 rw[Tryz.params8]at hA hval
 obtain⟨v0,v1,v2,v3,v4,d0,d1,d2,d3,d4,p0,p1,p2,p3,p4,rfl,rfl,rfl,h0,h1,h2,h3,h4⟩:=trodAll_five hA
 obtain⟨rfl,rfl⟩:=trodVars_none hV
 obtain⟨t0,rfl,rfl,rfl,ht0⟩:=open_int Tryz.underlying22 (hval 0 22 v0 rfl rfl) h0
 obtain⟨t1,rfl,rfl,rfl,ht1⟩:=open_int Tryz.underlying22 (hval 1 22 v1 rfl rfl) h1
 obtain⟨A2,n2,c2,rfl⟩:=okWide_slice Tryz.underlying62 (hval 2 62 v2 rfl rfl)
 obtain⟨fuel2,h2⟩:=h2
 obtain⟨A2',n2',c2',hc2,hgv2⟩:=open_given h2
 cases hc2
 obtain⟨A3,n3,c3,rfl⟩:=okWide_slice Tryz.underlying62 (hval 3 62 v3 rfl rfl)
 obtain⟨fuel3,h3⟩:=h3
 obtain⟨A3',n3',c3',hc3,hgv3⟩:=open_given h3
 cases hc3
 obtain⟨b4,rfl,rfl,rfl⟩:=open_bool Tryz.underlying4 (hval 4 4 v4 rfl rfl) h4
 simp only[List.append_nil]at hW'
 have hL3:Laid3 W:=laid3_of hL
 have hk0:=bounds_u64 ht0
 have hk1:=bounds_u64 ht1
 obtain⟨k0,rfl⟩:=Int.eq_ofNat_of_zero_le (bounds_u64 ht0).1
 obtain⟨k1,rfl⟩:=Int.eq_ofNat_of_zero_le (bounds_u64 ht1).1
 have hlaw:Calls Tryz.prog 8 #[.int .u64 (k0:Int),.int .u64 (k1:Int),.slice A2 n2 c2,.slice A3 n3 c3,.bool b4] W fun e w'=>e=.returned (.bool true)/\New W w':=alike_c (by omega) (by omega) hL3 hgv2 hgv3
 refine hlaw.mono fun e W' ⟨he,hF⟩=>?_
 subst he
 exact⟨_,rfl,post_fresh hW' rfl kids full (by rw[Tryz.params8];intro t ht;simp only[List.mem_cons,List.not_mem_nil,or_false]at ht;rcases ht with rfl|rfl|rfl|rfl|rfl<;>exact of_decide_eq_true (by kernel_rfl)) rfl rfl (fun _ _ _=>trodAll_mk1 (shut_bool Tryz.underlying4 _)) (fresh_of_new8 hF) (ok_one (by kernel_rfl) rfl (okWide_bool_mk Tryz.underlying4 _))⟩
theorem lifted8 (os:Os) (started:os.Started) (H:Type) (enc:TypeId × Value->H) (F:Stop.Interp):
 ReturnsInHanded {} Tryz.checked os 8 .any ((OpenSpec.ofChange Rows.f1AlikeSpec).preRow enc Tryz.prog Tryz.f8 Rows.f1AlikeRow.domain false Rows.f1AlikeRow.laid) (((OpenSpec.ofChange Rows.f1AlikeSpec).at F).post enc Tryz.prog Tryz.f8 false true false false):=by
 obtain⟨places,hx⟩:=reads8 os enc
 refine returnsInHanded_of_row (C:=Tryz.checked) (s:=OpenSpec.ofChange Rows.f1AlikeSpec) own started (by kernel_rfl) Tryz.func8
  (witness_row_at (enc:=enc) (C:=Tryz.checked) false (laidWorld #[] os) args8 rfl (by kernel_rfl) (by kernel_rfl) (by kernel_rfl)
    (OpenSpec.preRow_of_cond 8 hx (by kernel_rfl) (fun k hk=>by cases hk) (by kernel_rfl) (laid_met8 os))) ?_
 intro W base args ds gs before hval hW _ _ _ hL _ _
 exact contract8 H enc W base args ds gs before hval hW hL
end Go.Proofs.YtbhnjkegkadodaaGreatDoor
end

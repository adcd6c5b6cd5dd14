/- A part of the proof of the statement of this seat: no condition. -/
import Derived.Test.YtbhnjkegkadodaaGreatDoorLawK0
import Derived.Test.YtbhnjkegkadodaaGreatDoorLwB
set_option linter.unusedVariables false
set_option linter.unusedSimpArgs false
set_option maxRecDepth 100000
set_option maxHeartbeats 8000000
section
open Go Go.Proofs
namespace Go.Proofs.YtbhnjkegkadodaaGreatDoor
open Go.ChangeShapes Go.WideShapes Go.ChangeAt Go.RowKit Go.Joins Go.Deep Gl
theorem fresh_of_new {w w':World} (h:New w w'):Ex.Fresh w w':=⟨h.os,h.output,h.tape,h.size,fun c hc=>h.block c hc id⟩
theorem contract4 (H:Type) (enc:TypeId × Value->H) (W:World) (base:Nat) (args:Array Value) (ds gs:List (DataW H)) (before:List MemPlace)
 (hval:∀(j:Nat) t v,Tryz.f4.params[j]?=some t->args[j]?=some v->Value.okWide Tryz.prog W .any base t v)
 (hW:DataW.Whole enc Tryz.prog Tryz.f4.params.toList Rows.f1ExactSpec.vars false W args.toList ds gs before) (hL:laidMetH Tryz.prog Rows.f1ExactRow.laid W):
 Calls Tryz.prog 4 args W fun e W'=>∃v,e=.returned v/\Rows.f1ExactSpec.post enc Tryz.prog Tryz.f4 false true false false W args v W':=by
 have hW':=hW
 obtain⟨p,q,hA0,hV,rfl,hfz,hnd⟩:=hW
 have hA:DataW.TrodAll enc Tryz.prog W 0 (fun _=>true) true Tryz.f4.params.toList args.toList ds p:=hA0
 rw[Tryz.params4]at hA hval
 obtain⟨v0,v1,v2,d0,d1,d2,p0,p1,p2,rfl,rfl,rfl,h0,h1,h2⟩:=trodAll_three hA
 obtain⟨rfl,rfl⟩:=trodVars_none hV
 obtain⟨tok,rfl,rfl,rfl,htok⟩:=open_int Tryz.underlying22 (hval 0 22 v0 rfl rfl) h0
 obtain⟨cs,rfl,_⟩:=okWide_struct Tryz.underlying26 (hval 1 26 v1 rfl rfl)
 obtain⟨A',n',c',rfl⟩:=okWide_slice Tryz.underlying62 (hval 2 62 v2 rfl rfl)
 obtain⟨fuel1,h1⟩:=h1
 obtain⟨fuel2,h2⟩:=h2
 obtain⟨A1,n1,c1,hcs,hsh⟩:=open_num h1
 obtain⟨Ag,ng,cg,hcg,hgv⟩:=open_given h2
 cases hcg
 have hcs':cs=#[.slice A1 n1 c1]:=Array.ext' hcs
 subst hcs'
 simp only[List.append_nil]at hW'
 have hL3:Laid3 W:=laid3_of hL
 have hb:=bounds_u64 htok
 obtain⟨tk,rfl⟩:=Int.eq_ofNat_of_zero_le hb.1
 have hlaw:Calls Tryz.prog 4 #[.int .u64 (tk:Int),.agg #[.slice A1 n1 c1],.slice A' n' c'] W fun e w'=>e=.returned (.bool true)/\New W w':=by
  by_cases hn:n1<=3
  · obtain⟨g,hg⟩:=hsh (by omega)
    exact exact_c (tok:=tk) (sh:=g) (by omega) hL3 (fun _=>hg) hgv
  · exact exact_c (tok:=tk) (sh:=0) (by omega) hL3 (fun h=>absurd h hn) hgv
 refine hlaw.mono fun e W' ⟨he,hF⟩=>?_
 subst he
 exact⟨_,rfl,post_fresh hW' rfl kids full (by rw[Tryz.params4];intro t ht;simp only[List.mem_cons,List.not_mem_nil,or_false]at ht;rcases ht with rfl|rfl|rfl<;>exact of_decide_eq_true (by kernel_rfl)) rfl rfl (fun _ _ _=>trodAll_mk1 (shut_bool Tryz.underlying4 _)) (fresh_of_new hF) (ok_one (by kernel_rfl) rfl (okWide_bool_mk Tryz.underlying4 _))⟩
theorem lifted4 (os:Os) (started:os.Started) (H:Type) (enc:TypeId × Value->H) (F:Stop.Interp):
 ReturnsInHanded {} Tryz.checked os 4 .any ((OpenSpec.ofChange Rows.f1ExactSpec).preRow enc Tryz.prog Tryz.f4 Rows.f1ExactRow.domain false Rows.f1ExactRow.laid) (((OpenSpec.ofChange Rows.f1ExactSpec).at F).post enc Tryz.prog Tryz.f4 false true false false):=by
 obtain⟨places,hx⟩:=reads4 os enc
 refine returnsInHanded_of_row (C:=Tryz.checked) (s:=OpenSpec.ofChange Rows.f1ExactSpec) own started (by kernel_rfl) Tryz.func4
  (witness_row_at (enc:=enc) (C:=Tryz.checked) false (laidWorld #[] os) args4 rfl (by kernel_rfl) (by kernel_rfl) (by kernel_rfl)
    (OpenSpec.preRow_of_cond 8 hx (by kernel_rfl) (fun k hk=>by cases hk) (by kernel_rfl) (laid_met os))) ?_
 intro W base args ds gs before hval hW _ _ _ hL _ _
 exact contract4 H enc W base args ds gs before hval hW hL
end Go.Proofs.YtbhnjkegkadodaaGreatDoor
end

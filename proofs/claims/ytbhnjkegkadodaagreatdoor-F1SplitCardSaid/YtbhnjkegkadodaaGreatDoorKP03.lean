/- A part of the proof of the statement of this seat: no condition. -/
import Derived.Test.YtbhnjkegkadodaaGreatDoorKP02
import Derived.Test.YtbhnjkegkadodaaGreatDoorXG07
set_option linter.unusedVariables false
set_option linter.unusedSimpArgs false
set_option maxRecDepth 100000
set_option maxHeartbeats 8000000
namespace Go.Proofs.YtbhnjkegkadodaaGreatDoor
open Go Go.Shelf Go.RowKit Go.Lib Go.Proofs Ex
theorem walks197:InsWalks Tryz.prog 197 2 251 where
 shift w c q n cap i vb vo m vc cells e fr old new h1 h2 h3 h4 h5 h6 h7 h8 h9 h10 h11 h12 h13 h14 tA tB kA kB h15 h16 h17 h18 h19:=
  ins197_shift w h1 h2 h3 h4 h5 h6 h7 h8 h9 h10 h11 h12 h13 h14 tA tB kA kB h15 h16 h17 h18 h19
 grow w c q n cap i vb vo m vc cells e fr old new h1 h2 h3 h4 h5 h6 h7 h8 h9 h10 h11 h12:=
  (ins197_grow w (vc:=vc) h1 h2 h3 h4 h5 h6 h7 h8 h9 h10 h11 h12).mono fun x w' ⟨ROW,G,_,a⟩=>⟨ROW,G,182,a⟩
 atEnd w w1 c q n cap vb vo m vc r h1 h2 h3:=ins197_end w w1 h1 h2 h3
theorem walks199:InsWalks Tryz.prog 199 1 170 where
 shift w c q n cap i vb vo m vc cells e fr old new h1 h2 h3 h4 h5 h6 h7 h8 h9 h10 h11 h12 h13 h14 tA tB kA kB h15 h16 h17 h18 h19:=by
  simp only[Nat.mul_one]at *
  exact ins199_shift w h1 h2 h3 h4 h5 h6 h7 h8 h9 h10 h11 h12 h13 h14 tA tB kA kB h15 h16 h17 h18 h19
 grow w c q n cap i vb vo m vc cells e fr old new h1 h2 h3 h4 h5 h6 h7 h8 h9 h10 h11 h12:=by
  simp only[Nat.mul_one]at *
  exact(ins199_grow w (vc:=vc) h1 h2 h3 h4 h5 h6 h7 h8 h9 h10 h11 h12).mono fun x w' ⟨ROW,G,_,a⟩=>⟨ROW,G,251,a⟩
 atEnd w w1 c q n cap vb vo m vc r h1 h2 h3:=ins199_end w w1 h1 h2 h3
theorem ovr_of_calls {P:Program} {f:FuncId} {args:List Value} {w:World} {Q:World->World->Value->Prop} (hf:(callFunc f ⟨args⟩).run P w=.ok (.enter f ⟨args⟩) w)
 (h:Calls P f ⟨args⟩ w fun x w'=>∃v,x=.returned v/\Q w w' v):
 (callFunc f ⟨args⟩).run P w=.ok (.enter f ⟨args⟩) w/\∀cs,∃v w' fr,Steps P (lone (Frame.enter P f ⟨args⟩ .normal) cs w) (lone fr cs w')/\fr.fn=f/\fr.leaving P w' (.returned v)/\Q w w' v:=by
 refine⟨hf,fun cs=>?_⟩
 obtain⟨e,w',fr,⟨v,rfl,hq⟩,h1,h2,h3⟩:=h cs
 exact⟨v,w',fr,h1,h2,h3,hq⟩
theorem enters {P:Program} {f:FuncId} {fn:Func} (hf:P.funcs[f]?=some fn) (hn:(fn.name == "runtime.NumGoroutine")=false) (hb:fn.body.isNone=false) (args:List Value) (w:World):(callFunc f ⟨args⟩).run P w=.ok (.enter f ⟨args⟩) w:=by
 have h1:fn.name ≠ "runtime.NumGoroutine":=by simpa using hn
 have h2:fn.body≠none:=fun e=>by rw[e]at hb;cases hb
 simp[callFunc,hf,h1,h2]
theorem E1ok:EnvOk E1:=envOf_ok _ _ _ _ _ _
theorem size197:appSize E1.tt 251=some 2:=by decide +kernel
theorem size199:appSize E1.tt 170=some 1:=by decide +kernel
theorem nint197:isInt (E1.tt.und 251)=some false:=by decide +kernel
theorem nint199:isInt (E1.tt.und 170)=some false:=by decide +kernel
theorem good1:EnvGood E1 where
 toEnvOk:=E1ok
 nog f fn h:=envOf_nog (m:=12) nogs f fn h
 cmp f h a b w w' v hr:=cmp_run f h a b w w' v hr
 add f h a b w w' v hr:=add_run f h a b w w' v hr
 ovr f g hg args args' ρ H w v' H' h ha hc:=by
  have hg:ovr1 f=some g:=hg
  unfold ovr1 at hg
  split at hg
  · cases hg
    obtain⟨a,b⟩:=ovr_of_calls (Q:=fun w w' v=>∃ρ',VR ρ' v v'/\HR E1.ng ρ' H' w'/\Ext ρ H w ρ' H' w') (enters Tryz.func197 (by kernel_rfl) (by kernel_rfl) _ _) ((insert_sound E1ok walks197 size197 nint197 h ha hc).mono fun x w1 ⟨ρ',v,a,b⟩=>⟨v,a,ρ',b⟩)
    exact⟨a,fun cs=>let ⟨v,w',fr,c1,c2,c3,ρ',c4⟩:=b cs;⟨ρ',v,w',fr,c1,c2,c3,c4⟩⟩
  · cases hg
    obtain⟨a,b⟩:=ovr_of_calls (Q:=fun w w' v=>∃ρ',VR ρ' v v'/\HR E1.ng ρ' H' w'/\Ext ρ H w ρ' H' w') (enters Tryz.func199 (by kernel_rfl) (by kernel_rfl) _ _) ((insert_sound E1ok walks199 size199 nint199 h ha hc).mono fun x w1 ⟨ρ',v,a,b⟩=>⟨v,a,ρ',b⟩)
    exact⟨a,fun cs=>let ⟨v,w',fr,c1,c2,c3,ρ',c4⟩:=b cs;⟨ρ',v,w',fr,c1,c2,c3,c4⟩⟩
  · cases hg
end Go.Proofs.YtbhnjkegkadodaaGreatDoor
namespace Ex
open Go
variable {E:Env} {ρ ρ':Rho} {H H':Heap} {w w':World} {ex:Ex}
theorem laid_HR {ng d g:Nat} {cs:List Value} {cells:Array Value} {t:TypeId} (hg:g<ng) (hn:∀b,ng<=b->ρ b=none) (hall:∀x,x<ng->∃z,ρ x=some ⟨x,0,z,0⟩) (hρ:ρ g=some ⟨g,0,cells.size,0⟩) (hw:w.heap[g]?=some (.cells cells t (0,0))) (hl:LR ρ cells.toList cs):
 HR ng ρ (lit d ng [(g,.cells cs 0)]) w where
 obj b:=by
  rcases lit_get d ng [(g,.cells cs 0)] b with e|⟨o,h1,h2⟩
  · rw[e];trivial
  · simp only[List.mem_cons,List.not_mem_nil,or_false,Prod.mk.injEq]at h1
    obtain⟨rfl,rfl⟩:=h1
    rw[h2]
    refine⟨_,hρ,rfl,?_⟩
    have:=Pl.exactCells (ρ:=ρ) (arr:=cells.toList) (c:=b) (e:=t) (cs:=cs) (w:=w) (by simpa using hw) hl
    simpa using this
 inj b b' p p' h1 h2 _ _ _:=by
  rcases lit_get d ng [(g,.cells cs 0)] b with e|⟨o,k1,k2⟩
  · exact absurd e h1
  · rcases lit_get d ng [(g,.cells cs 0)] b' with e|⟨o',k3,k4⟩
    · exact absurd e h2
    · simp only[List.mem_cons,List.not_mem_nil,or_false,Prod.mk.injEq]at k1 k3
      rw[k1.1,k3.1]
 fresh:=hn
 glob:=hall
theorem laid_held {d n g c:Nat} {cs:List Value} (hρ:∀x,x<n->∃z,ρ x=some ⟨x,0,z,0⟩) (hg:g<n) (h:Held ρ (lit d n [(g,.cells cs 0)]) c):c=g:=by
 obtain⟨b,p,h1,h2,h3⟩:=h
 rcases lit_get d n [(g,.cells cs 0)] b with e|⟨o,k1,k2⟩
 · exact absurd e h1
 · simp only[List.mem_cons,List.not_mem_nil,or_false,Prod.mk.injEq]at k1
   obtain⟨z,hz⟩:=hρ g hg
   rw[k1.1,hz]at h2
   cases h2
   exact h3.symm
def freeAll (cs:List Value):Bool:=match cs with
 | []=>true
 | v :: l=>free v && freeAll l
theorem freeAll_get:∀ {cs:List Value} {i:Nat} {v:Value},freeAll cs=true->cs[i]?=some v->free v=true
 | [],i,v,_,h=>by simp at h
 | x :: l,0,v,h,e=>by simp only[freeAll,Bool.and_eq_true]at h;simp at e;subst e;exact h.1
 | x :: l,i+1,v,h,e=>by simp only[freeAll,Bool.and_eq_true]at h;exact freeAll_get h.2 (by simpa using e)
theorem closed_outG (hG:EnvGood E) {n d k g:Nat} {f:FuncId} {v':Value} {cs:List Value} (hb:∃fn c,E.ft.get none f=some fn/\fn.body=some c) (hf:free v'=true) (hg:g<E.ng) (hfr:freeAll cs=true)
 (h:outIs (callA E (run E n) (lit d E.ng [(g,.cells cs 0)]) f []) v' k [(g,.cells cs 0)]=true) (w:World) {t:TypeId} (hw:w.heap[g]?=some (.cells cs.toArray t (0,0)))
 (hl:∀ρ:Rho,LR ρ cs cs):
 Calls E.P f #[] w fun e w'=>e=.returned v'/\Fresh w w':=by
 unfold outIs at h
 cases hc:callA E (run E n) (lit d E.ng [(g,.cells cs 0)]) f [] with
 | bad=>rw[hc]at h;cases h
 | ok u H1=>
   rw[hc]at h
   simp only[Bool.and_eq_true]at h
   rw[veq_eq h.1]at hc
   let ρ0:Rho:=fun x=>if x<E.ng then some ⟨x,0,if x=g then cs.toArray.size else 0,0⟩ else none
   have hall:∀x,x<E.ng->∃z,ρ0 x=some ⟨x,0,z,0⟩:=fun x hx=>⟨_,if_pos hx⟩
   have hρg:ρ0 g=some ⟨g,0,cs.toArray.size,0⟩:=by show(if _ then _ else _)=_;rw[if_pos hg,if_pos rfl]
   have h0:HR E.ng ρ0 (lit d E.ng [(g,.cells cs 0)]) w:=laid_HR hg (fun b hb=>if_neg (by omega)) hall hρg hw (by simpa using hl ρ0)
   refine(call_sound hG (run_sound hG n) hb hc h0 (LR.nil ρ0)).mono fun e w' ⟨ρ',v,he,hv,hr,hx⟩=>?_
   rw[free_eq hv hf]at he
   refine⟨he,hx.os,hx.output,hx.tape,hx.size,fun c hc=>?_⟩
   by_cases hcg:c=g
   · subst hcg
     have hh:=h.2
     simp only[holds,sameL,Bool.and_eq_true]at hh
     obtain⟨e1,_⟩:=aeq_eq hh.2.1
     have ho:=hr.obj c
     rw[e1]at ho
     obtain⟨p,hp,_,cells,e,fr,c1,c2,c3,c4,c5,c6⟩:=ho
     have:=hx.le _ _ hρg
     rw[this]at hp
     cases hp
     obtain⟨y,hy⟩:=hx.same c _ _ _ hw
     have hy':=hy
     rw[c1]at hy
     cases hy
     rw[hy',hw]
     have:cells=cs.toArray:=by
      simp only at c2 c6
      apply Array.ext_getElem?
      intro i
      by_cases hi:i<cs.length
      · obtain⟨v,hv1,hv2⟩:=c6 i cs[i] (List.getElem?_eq_getElem hi)
        rw[Nat.zero_add]at hv1
        rw[hv1,free_eq hv2 (freeAll_get hfr (List.getElem?_eq_getElem hi))]
        simp[hi]
      · rw[Array.getElem?_eq_none (by rw[c2];simp;omega),Array.getElem?_eq_none (by simp;omega)]
     rw[this]
   · exact hx.keep c hc (fun hh=>hcg (laid_held hall hg hh))
end Ex

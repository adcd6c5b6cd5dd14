/- A verified executor for closed Go calls, part of it: its lemmas carry no condition. -/
import Derived.Test.YtbhnjkegkadodaaGreatDoorXG04
import Derived.Orders
set_option linter.unusedVariables false
set_option linter.unusedSimpArgs false
set_option maxRecDepth 100000
set_option maxHeartbeats 8000000
namespace Ex
open Go
variable {E:Env} {ρ ρ':Rho} {H H':Heap} {w w':World} {ex:Ex}
theorem loop_obj (h:HR E.ng ρ H w) {b:Nat} {st:LoopState} {pe:Option Code} {fn:FuncId} {tmps:Tr Value} {nt:Nat} {ps:Array Tmp} {as bd:Code} {df:Nat} (ho:H.get b=.loop st pe fn tmps nt ps as bd df):
 ∃l a dl,ρ b=some ⟨l,0,0,0⟩/\ρ df=some ⟨dl,0,0,0⟩/\TR ρ a tmps nt/\w.heap[l]?=some (.loop { state:=st,pending:=pe,fn,tmps:=a,params:=ps,assign:=as,body:=bd,defers:=dl }):=by
 have:=h.obj b
 rw[ho]at this
 exact this
theorem loop_set (h:HR E.ng ρ H w) {b l:Nat} {st st2:LoopState} {pe pe2:Option Code} {fn:FuncId} {tmps:Tr Value} {nt:Nat} {ps:Array Tmp} {as bd:Code} {df:Nat} {a:Array Value} {dl:Nat} (ho:H.get b=.loop st pe fn tmps nt ps as bd df)
 (hb:ρ b=some ⟨l,0,0,0⟩) (hd:ρ df=some ⟨dl,0,0,0⟩) (ha:TR ρ a tmps nt) (hw:w.heap[l]?=some (.loop { state:=st,pending:=pe,fn,tmps:=a,params:=ps,assign:=as,body:=bd,defers:=dl })):
 HR E.ng ρ (H.set b (.loop st2 pe2 fn tmps nt ps as bd df)) (withObj w l (.loop { state:=st2,pending:=pe2,fn,tmps:=a,params:=ps,assign:=as,body:=bd,defers:=dl })) /\
 Ext ρ H w ρ (H.set b (.loop st2 pe2 fn tmps nt ps as bd df)) (withObj w l (.loop { state:=st2,pending:=pe2,fn,tmps:=a,params:=ps,assign:=as,body:=bd,defers:=dl })):=by
 have hlt:=(Array.getElem?_eq_some_iff.1 hw).1
 have halive:H.get b≠.none:=by rw[ho];simp
 exact⟨h.setObj halive hb (fun c hc=>by rw[withObj_heap _ _ _ _ hlt,if_neg hc]) ⟨l,a,dl,hb,hd,ha,by rw[withObj_heap _ _ _ _ hlt,if_pos rfl]⟩,
  { le:=ρ.le_refl,size:=by rw[withObj_size];exact Nat.le_refl _,keep:=fun c _ hn=>by rw[withObj_heap _ _ _ _ hlt,if_neg (fun e=>hn ⟨b,_,halive,hb,e.symm⟩)],range:=fun c hh=>.inr (Held.set halive hh),
    dom:=fun _ _ hq=>.inl hq,next:=by rw[Heap.next_set];exact Nat.le_refl _,tape:=rfl,os:=rfl,output:=rfl,same:=Shape.of_other (b:=l) (fun c hc=>by rw[withObj_heap _ _ _ _ hlt,if_neg hc]) (fun x t fr e=>by rw[hw]at e;cases e) }⟩
theorem run_setObj {P:Program} {l:Nat} {r:Loop} (h:w.heap[l]?=some (.loop r)) (o:Obj):(setObj l o).run P w=.ok () (withObj w l o):=by simp[setObj,Sem.run,h];rfl
theorem runGetLoop {P:Program} {l:Nat} {r:Loop} (h:w.heap[l]?=some (.loop r)):(Instr.getLoop l).run P w=.ok r w:=run_getLoop h
theorem leave_go (hG:EnvGood E) {c:Cx} {d:List Nat} {t:Tr Value} {k:List AItem} {fr:Frame} {cs:List Frame} {v':Value} {jump:Option Code} (hfr:FrR ρ c d k t fr) (h:HR E.ng ρ H w) (hl:leaveA E c d t H jump=.ok v' H')
 (hstep:fr.roundOf=none->isRet jump=true->Go.step E.P (lone fr cs w)=.next (lone { fr with mode:=.returning } cs w))
 (hround:∀l,fr.roundOf=some l->∀v w1,(Instr.endRound l jump).run E.P w=.ok v w1->∀cc cs',cs=cc :: cs'->Go.step E.P (lone fr cs w)=.next (lone (cc.finish v) cs' w1)):Fin E ρ H w fr cs v' H':=by
 unfold leaveA at hl
 have hr:=hfr.round
 cases hcr:c.round with
 | none=>
   rw[hcr]at hl hr
   simp only at hl hr
   cases hj:isRet jump with
   | false=>rw[hj]at hl;cases hl
   | true=>
     rw[hj]at hl
     simp only at hl
     obtain⟨v,w1,fr',g1,g2,g3,g4,g5,g6⟩:=leave_fn hG h (fr:={ fr with mode:=.returning }) (cs:=cs) hfr.fn rfl hfr.kind hr hfr.tmps hfr.defers hl
     exact⟨ρ,v,w1,⟨fun _=>⟨fr',Steps.head (hstep hr hj) g1,g2,g3⟩,fun hne=>absurd hr hne⟩,g4,g5,g6⟩
 | some b=>
   rw[hcr]at hl hr
   simp only at hl hr
   obtain⟨l,hb,hro⟩:=hr
   cases d with
   | cons _ _=>cases hl
   | nil=>
     simp only[leaveRound]at hl
     cases ho:H.get b<;>rw[ho]at hl<;>simp only at hl<;>try (cases hl;done)
     rename_i st pe fn tmps nt ps as bd df
     obtain⟨l',a,dl,hb',hd,ha,hw⟩:=loop_obj h ho
     rw[hb]at hb';cases hb'
     have hend:(Instr.endRound l jump).run E.P w=.ok (.bool jump.isNone) (withObj w l (.loop { state:=if jump.isNone then .ready else .done,pending:=jump,fn,tmps:=a,params:=ps,assign:=as,body:=bd,defers:=dl })):=by
      simp only[Instr.endRound,Sem.run_bind,runGetLoop hw,Result.andThen,run_setObj hw,Sem.run_pure]
     cases jump with
     | none=>
       cases hl
       obtain⟨g1,g2⟩:=loop_set h ho hb hd ha hw (st2:=.ready) (pe2:=none)
       exact⟨ρ,_,_,⟨(fun h0=>by rw[hro]at h0;cases h0),fun _ cc cs' e=>.one (hround l hro _ _ hend cc cs' e)⟩,.bool _,g1,g2⟩
     | some j=>
       cases hl
       obtain⟨g1,g2⟩:=loop_set h ho hb hd ha hw (st2:=.done) (pe2:=some j)
       exact⟨ρ,_,_,⟨(fun h0=>by rw[hro]at h0;cases h0),fun _ cc cs' e=>.one (hround l hro _ _ hend cc cs' e)⟩,.bool _,g1,g2⟩
theorem cond_eval {fr:Frame} {t:Tr Value} {nt:Nat} (h:TR ρ fr.tmps t nt) {x:Operand} {b:Bool} (hx:evA t x=.bool b):fr.eval x=.bool b:=by
 cases x with
 | tmp i=>
   have:=h.rel i
   have hx:t.get Undef i=.bool b:=hx
   rw[hx]at this
   exact this.bool_inv
 | const v=>exact hx
 | global g=>cases hx
 | func f=>cases hx
theorem range_go (hG:EnvGood E) (hex:SoundEx E ex) {c:Cx} {d d1:List Nat} {k:List AItem} {kk:List Item} {t:Tr Value} {fr:Frame} {cs:List Frame} {g:Operand} {ps:Array Tmp} {as bd:Code} {v':Value}
 {H1:Heap} {ρ1:Rho} {w1:World} {b l:Nat} {mark:List Deferred} (hfr:FrR ρ c d (.code (.rangeFunc g ps as bd) :: k) t fr) (htodo:fr.todo=.code (.rangeFunc g ps as bd) :: kk) (hk:IR ρ k kk)
 (hgx:VR ρ (fr.eval g) (evA t g)) (henter:(Instr.enterLoop fr.fn fr.tmps ps as bd fr.roundOf).run E.P w=.ok (l,mark) w1) (hb:ρ1 b=some ⟨l,0,0,0⟩) (h1:HR E.ng ρ1 H1 w1) (he:Ext ρ H w ρ1 H1 w1) (hd:DR ρ1 d1 (mark ++ fr.defers))
 (hc:afterRange ex c d1 k t b (callV E ex H1 (evA t g) [.func (.yield b) ⟨[]⟩ ⟨[]⟩])=.ok v' H'):Fin E ρ H w fr cs v' H':=by
 cases hcall:callV E ex H1 (evA t g) [.func (.yield b) ⟨[]⟩ ⟨[]⟩] with
 | bad=>rw[hcall]at hc;cases hc
 | ok v2 H2=>
   rw[hcall]at hc
   simp only[afterRange]at hc
   have hgv:VR ρ1 (.func (.yield l) ⟨[]⟩ ⟨[]⟩) (.func (.yield b) ⟨[]⟩ ⟨[]⟩):=.func [] [] [] [] (.yield hb) rfl (by simp) rfl (by simp)
   let fr1:Frame:={ fr with todo:=.inRangeFunc l :: kk,defers:=mark ++ fr.defers }
   have hplain:Plain fr1:=fun d r s kk' e=>by cases e
   obtain⟨dd,g1,g2⟩:=callV_go hG hex h1 (hgx.mono he.le) (LR.cons hgv (LR.nil ρ1)) (fr:=fr1) (cs:=cs) hplain hcall
   obtain⟨ρ2,v,w2,a1,a2,a3,a4⟩:=g2
   have hfin:fr1.finish v = { fr with todo:=.endRangeFunc l :: kk,defers:=mark ++ fr.defers }:=rfl
   have happ:App E.P fr1 cs (do let d <-resolve fr1.eval { callee:=.value g,args:=#[.const (.func (.yield l) #[] #[])],argTypes:=#[] } 0;invoke d.target d.args) w1 v w2:=by
    refine App.congr ?_ a1
    have hev:fr1.eval g=fr.eval g:=by cases g<;>rfl
    have hres:resolve fr1.eval { callee:=.value g,args:=#[.const (.func (.yield l) #[] #[])],argTypes:=#[] } 0=Deferred.ofValue (fr1.eval g) #[.func (.yield l) #[] #[]]:=by simp[resolve,Frame.eval]
    rw[hres,hev]
    have:=g1 w1
    simp only[Sem.run_bind]
    rw[show(#[.func (.yield l) #[] #[]]:Array Value)=⟨[.func (.yield l) ⟨[]⟩ ⟨[]⟩]⟩ from rfl,this]
    rfl
   have hsteps:Steps E.P (lone fr cs w) (lone { fr with todo:=.endRangeFunc l :: kk,defers:=mark ++ fr.defers } cs w2):=by
    obtain⟨fr2,cs2,w3,b1,b2⟩:=happ
    rw[hfin]at b2
    refine Steps.head (step_lone_go ?_) b2
    rw[<-b1]
    have hm:=hfr.mode
    simp[stepG,stepG.exec,hm,htodo,Sem.runT_eq,henter,GStep.bare_after,fr1]
   have hfr2:FrR ρ2 c d1 (.endRange b :: k) t { fr with todo:=.endRangeFunc l :: kk,defers:=mark ++ fr.defers }:=
    ⟨hfr.fn,hfr.mode,hfr.kind,(hfr.tmps.mono he.le).mono a4.le,.endRange (a4.le _ _ hb) ((hk.mono he.le).mono a4.le),hd.mono a4.le,((hfr.mono he.le).mono a4.le).round⟩
   have:=hex _ _ _ _ _ _ _ hc ρ2 _ w2 cs hfr2 a3
   exact Fin.head hsteps rfl rfl (he.trans a4) this
theorem step_go (hG:EnvGood E) (hex:SoundEx E ex) (hdraw:DrawOk E ex):SoundEx E (Ex.step E ex):=by
 intro c d todo t H v' H' hc ρ fr w cs hfr h
 have hm:=hfr.mode
 have htd:=hfr.todo
 show Fin E ρ H w fr cs v' H'
 have go1:∀ {k2:List AItem} {kk2:List Item},Go.step E.P (lone fr cs w)=.next (lone { fr with todo:=kk2 } cs w)->IR ρ k2 kk2->ex c d k2 t H=.ok v' H'->Fin E ρ H w fr cs v' H':=fun hs hk he=>
  Fin.head (.one hs) rfl rfl (Ext.refl _ _ _) (hex _ _ _ _ _ _ _ he ρ _ w cs (hfr.todoTo hk) h)
 cases todo with
 | nil=>
   have htodo:fr.todo=[]:=by cases hx:fr.todo with|nil=>rfl|cons _ _=>rw[hx]at htd;cases htd
   refine leave_go hG hfr h (show leaveA E c d t H none=.ok v' H' from hc) (fun hr _=>step_lone_go (by simp[stepG,stepG.exec,hm,htodo,hr])) (fun l hr v w1 he cc cs' e=>?_)
   subst e
   exact step_lone_go (by simp[stepG,stepG.exec,hm,htodo,hr,Sem.runT_eq,he,doReturn,hfr.kind,GStep.bare_after])
 | cons it k=>
   cases it with
   | inBlock id=>
     generalize hft:fr.todo=ft at htd
     cases htd with
     | inBlock _ hk=>exact go1 (step_lone_go (by simp[stepG,stepG.exec,hm,hft])) hk hc
   | inScope b=>
     generalize hft:fr.todo=ft at htd
     cases htd with
     | inScope _ hk=>exact go1 (step_lone_go (by simp[stepG,stepG.exec,hm,hft])) hk hc
   | inLoop b=>
     generalize hft:fr.todo=ft at htd
     cases htd with
     | inLoop _ hk=>exact go1 (step_lone_go (by simp[stepG,stepG.exec,hm,hft])) (.code _ (.inLoop _ hk)) hc
   | beginRound=>
     generalize hft:fr.todo=ft at htd
     cases htd with
     | beginRound hk=>
       rename_i kk
       have hc:beginA ex c d k t H c.round=.ok v' H':=hc
       have hr:=hfr.round
       cases hcr:c.round with
       | none=>rw[hcr]at hc;cases hc
       | some b=>
         rw[hcr]at hc hr
         simp only at hr
         obtain⟨l,hb,hro⟩:=hr
         simp only[beginA]at hc
         split at hc
         · rename_i pe fn tmps nt ps as bd df ho
           obtain⟨l',a,dl,hb',hdf,ha,hw⟩:=loop_obj h ho
           rw[hb]at hb';cases hb'
           obtain⟨g1,g2⟩:=loop_set h ho hb hdf ha hw (st2:=.busy) (pe2:=pe)
           have hbr:(Instr.beginRound l).run E.P w=.ok () (withObj w l (.loop { state:=.busy,pending:=pe,fn,tmps:=a,params:=ps,assign:=as,body:=bd,defers:=dl })):=by
            simp only[Instr.beginRound,Sem.run_bind,runGetLoop hw,Result.andThen,run_setObj hw,Sem.run_pure]
           have hs:Go.step E.P (lone fr cs w)=.next (lone { fr with todo:=kk } cs (withObj w l (.loop { state:=.busy,pending:=pe,fn,tmps:=a,params:=ps,assign:=as,body:=bd,defers:=dl }))):=by
            refine step_lone_go ?_
            simp[stepG,stepG.exec,hm,hft,hro,stepG.apply,Sem.runT_eq,hbr,Result.andThen,GStep.bare_after,Frame.finish]
           exact Fin.head (.one hs) rfl rfl g2 (hex _ _ _ _ _ _ _ hc ρ _ _ cs (hfr.todoTo hk) g1)
         · cases hc
   | endRange b=>
     generalize hft:fr.todo=ft at htd
     cases htd with
     | endRange hb hk=>
       rename_i l kk
       have hc:endRangeA ex c d k t H b=.ok v' H':=hc
       simp only[endRangeA]at hc
       cases ho:H.get b<;>rw[ho]at hc<;>simp only at hc<;>try (cases hc;done)
       rename_i st pe fn tmps nt ps as bd df
       obtain⟨l',a,dl,hb',hdf,ha,hw⟩:=loop_obj h ho
       rw[hb]at hb';cases hb'
       cases hst:decide (st=.busy) with
       | true=>rw[hst]at hc;cases hc
       | false=>
         rw[hst]at hc
         have hne:st≠.busy:=by simpa using hst
         obtain⟨g1,g2⟩:=loop_set h ho hb hdf ha hw (st2:=.exhausted) (pe2:=pe)
         have hbeq:(st == LoopState.busy)=false:=by simpa using hne
         have hel:(Instr.endLoop l).run E.P w=.ok pe (withObj w l (.loop { state:=.exhausted,pending:=pe,fn,tmps:=a,params:=ps,assign:=as,body:=bd,defers:=dl })):=by
          simp only[Instr.endLoop,Sem.run_bind,runGetLoop hw,Result.andThen,hbeq,Bool.false_eq_true,if_false,run_setObj hw,Sem.run_pure]
         have hs:Go.step E.P (lone fr cs w)=.next (lone { fr with todo:=(pe.map Item.code).toList ++ kk } cs (withObj w l (.loop { state:=.exhausted,pending:=pe,fn,tmps:=a,params:=ps,assign:=as,body:=bd,defers:=dl }))):=by
          refine step_lone_go ?_
          simp[stepG,stepG.exec,hm,hft,Sem.runT_eq,hel,GStep.bare_after]
         have hir:IR ρ (pend pe k) ((pe.map Item.code).toList ++ kk):=by
          cases pe with
          | none=>exact hk
          | some cd=>exact .code cd hk
         exact Fin.head (.one hs) rfl rfl g2 (hex _ _ _ _ _ _ _ hc ρ _ _ cs (hfr.todoTo hir) g1)
   | code cd=>
     generalize hft:fr.todo=ft at htd
     cases htd with
     | code _ hk=>
       rename_i kk
       have hc:stepCode E ex c d k t H cd=.ok v' H':=hc
       cases cd with
       | skip=>exact go1 (step_lone_go (by simp[stepG,stepG.exec,hm,hft])) hk hc
       | label l=>exact go1 (step_lone_go (by simp[stepG,stepG.exec,hm,hft])) hk hc
       | seq a b=>exact go1 (step_lone_go (by simp[stepG,stepG.exec,hm,hft])) (.code _ (.code _ hk)) hc
       | block id b=>exact go1 (step_lone_go (by simp[stepG,stepG.exec,hm,hft])) (.code _ (.inBlock _ hk)) hc
       | loop b=>exact go1 (step_lone_go (by simp[stepG,stepG.exec,hm,hft])) (.code _ (.inLoop _ hk)) hc
       | scope b=>exact go1 (step_lone_go (by simp[stepG,stepG.exec,hm,hft])) (.code _ (.inScope _ hk)) hc
       | refuse s=>cases hc
       | cond x a b=>
         have hc:condA ex c d k t H a b (evA t x)=.ok v' H':=hc
         unfold condA at hc
         split at hc
         · rename_i hx
           have:=cond_eval hfr.tmps hx
           exact go1 (step_lone_go (by simp[stepG,stepG.exec,hm,hft,this])) (.code _ hk) hc
         · rename_i hx
           have:=cond_eval hfr.tmps hx
           exact go1 (step_lone_go (by simp[stepG,stepG.exec,hm,hft,this])) (.code _ hk) hc
         · cases hc
       | ret=>
         refine leave_go hG hfr h (show leaveA E c d t H (some .ret)=.ok v' H' from hc) (fun hr _=>step_lone_go (by simp[stepG,stepG.exec,hm,hft,hr])) (fun l hr v w1 he cc cs' e=>?_)
         subst e
         exact step_lone_go (by simp[stepG,stepG.exec,hm,hft,hr,Sem.runT_eq,he,doReturn,hfr.kind,GStep.bare_after])
       | exit id=>
         have hc:jumpTo E ex c d t H (.exit id) (exitToA id k)=.ok v' H':=hc
         cases hx:exitToA id k with
         | some k2=>
           rw[hx]at hc
           obtain⟨kk2,e1,e2⟩:=exitTo_rel hk hx
           exact go1 (step_lone_go (by simp[stepG,stepG.exec,hm,hft,e1])) e2 hc
         | none=>
           rw[hx]at hc
           have e1:=exitTo_none hk hx
           refine leave_go hG hfr h (show leaveA E c d t H (some (.exit id))=.ok v' H' from hc) (fun _ hr=>by cases hr) (fun l hr v w1 he cc cs' e=>?_)
           subst e
           exact step_lone_go (by simp[stepG,stepG.exec,hm,hft,hr,e1,Sem.runT_eq,he,doReturn,hfr.kind,GStep.bare_after])
       | goto l=>
         have hc:jumpTo E ex c d t H (.goto l) (gotoInA l k)=.ok v' H':=hc
         cases hx:gotoInA l k with
         | some k2=>
           rw[hx]at hc
           obtain⟨kk2,e1,e2⟩:=gotoIn_rel hk hx
           exact go1 (step_lone_go (by simp[stepG,stepG.exec,hm,hft,e1])) e2 hc
         | none=>
           rw[hx]at hc
           have e1:=gotoIn_none hk hx
           refine leave_go hG hfr h (show leaveA E c d t H (some (.goto l))=.ok v' H' from hc) (fun _ hr=>by cases hr) (fun l' hr v w1 he cc cs' e=>?_)
           subst e
           exact step_lone_go (by simp[stepG,stepG.exec,hm,hft,hr,e1,Sem.runT_eq,he,doReturn,hfr.kind,GStep.bare_after])
       | region id ops draw=>
         cases hok:okOps E.ng c.nt ops.toList with
         | false=>
           have e:stepCode E ex c d k t H (.region id ops draw)=.bad:=by simp only[stepCode,hok]
           rw[e]at hc;cases hc
         | true=>
           cases draw with
           | false=>
             have hc:afterOps ex c d k (runOps E ex ops ops.toList t H)=.ok v' H':=by simpa only[stepCode,hok] using hc
             cases hr:runOps E ex ops ops.toList t H with
             | bad=>rw[hr]at hc;cases hc
             | ok t1 H1=>
               rw[hr]at hc
               have hs:Go.step E.P (lone fr cs w)=.next (lone { fr with todo:=.inRegion ops (List.range ops.size) :: kk } cs w):=step_lone_go (by simp[stepG,stepG.exec,hm,hft])
               have hrange:List.range ops.size=List.range' 0 ops.toList.length:=by rw[List.range_eq_range'];simp
               obtain⟨ρ1,a1,w1,g1,g2,g3,g4⟩:=runOps_go (k':=kk) hG hex ops.toList 0 t t1 H H1 (by simp) hok hr ρ { fr with todo:=.inRegion ops (List.range ops.size) :: kk } w cs (by simp only[hrange]) hm hfr.tmps h
               refine Fin.head (fr1:={ fr with tmps:=a1,todo:=kk }) (Steps.head hs g1) rfl rfl g4 (hex _ _ _ _ _ _ _ hc ρ1 _ w1 cs ?_ g3)
               have:=hfr.mono g4.le
               exact⟨hfr.fn,hfr.mode,hfr.kind,g2,hk.mono g4.le,this.defers,this.round⟩
           | true=>
             have hc:afterOps ex c d k (drawOps E ex ops t H)=.ok v' H':=by simpa only[stepCode,hok] using hc
             cases hr:drawOps E ex ops t H with
             | bad=>rw[hr]at hc;cases hc
             | ok t1 H1=>
               rw[hr]at hc
               obtain⟨ρ1,a1,w1,g1,g2,g3,g4⟩:=hdraw ops c.nt t t1 H H1 hr hok ρ fr w cs id kk hft hm hfr.tmps h
               refine Fin.head (fr1:={ fr with tmps:=a1,todo:=kk }) g1 rfl rfl g4 (hex _ _ _ _ _ _ _ hc ρ1 _ w1 cs ?_ g3)
               have:=hfr.mono g4.le
               exact⟨hfr.fn,hfr.mode,hfr.kind,g2,hk.mono g4.le,this.defers,this.round⟩
       | rangeFunc g ps as bd=>
         have hc:(match okX E.ng g with|true=>rangeA E ex c d k t H (evA t g) ps as bd|false=>.bad)=Out.ok v' H':=hc
         cases hgx:okX E.ng g with
         | false=>rw[hgx]at hc;cases hc
         | true=>
           rw[hgx]at hc
           simp only at hc
           have hgv:=eval_rel (fr:=fr) (nt:=c.nt) h.glob hfr.tmps hgx
           have hfr':=hfr
           unfold rangeA at hc
           have hr:=hfr.round
           cases hcr:c.round with
           | none=>
             rw[hcr]at hc hr
             simp only[rangeIn]at hc hr
             obtain⟨g1,g2⟩:=ext_alloc (w':=w.alloc (.deferred (some []))) h (.deferred (some [])) (.deferred true) ⟨w.heap.size,0,0,0⟩ rfl rfl rfl rfl rfl ⟨w.heap.size,Rho.put_same _ _ _,alloc_new w _⟩
             have hsz:(w.alloc (.deferred (some []))).heap.size=w.heap.size+1:=by show(w.heap.push _).size=_;simp
             have hn1:(H.add (.deferred true)).next=H.next+1:=Heap.next_add _ _
             have hle1:=g2.le
             have hobj:ObjAt ((ρ.put H.next ⟨w.heap.size,0,0,0⟩).put (H.add (.deferred true)).next ⟨w.heap.size+1,0,0,0⟩)
                ((w.alloc (.deferred (some []))).alloc (.loop { state:=.ready,pending:=none,fn:=fr.fn,tmps:=fr.tmps,params:=ps,assign:=as,body:=bd,defers:=w.heap.size })) (H.add (.deferred true)).next
                (.loop .ready none c.fn t c.nt ps as bd H.next):=by
              have hlep:(ρ.put H.next ⟨w.heap.size,0,0,0⟩).le ((ρ.put H.next ⟨w.heap.size,0,0,0⟩).put (H.add (.deferred true)).next ⟨w.heap.size+1,0,0,0⟩):=Rho.le_put (g1.fresh _ (Nat.le_refl _))
              refine⟨w.heap.size+1,fr.tmps,w.heap.size,Rho.put_same _ _ _,hlep _ _ (Rho.put_same _ _ _),(hfr.tmps.mono hle1).mono hlep,?_⟩
              have:=alloc_new (w.alloc (.deferred (some []))) (.loop { state:=.ready,pending:=none,fn:=fr.fn,tmps:=fr.tmps,params:=ps,assign:=as,body:=bd,defers:=w.heap.size })
              rw[hsz]at this
              rw[this,hfr.fn]
             obtain⟨g3,g4⟩:=ext_alloc (w':=(w.alloc (.deferred (some []))).alloc (.loop { state:=.ready,pending:=none,fn:=fr.fn,tmps:=fr.tmps,params:=ps,assign:=as,body:=bd,defers:=w.heap.size })) g1 _ _ ⟨w.heap.size+1,0,0,0⟩ hsz.symm rfl rfl rfl rfl hobj
             have henter:(Instr.enterLoop fr.fn fr.tmps ps as bd fr.roundOf).run E.P w=.ok (w.heap.size+1,[{ target:=.collected w.heap.size,args:=#[] }])
                ((w.alloc (.deferred (some []))).alloc (.loop { state:=.ready,pending:=none,fn:=fr.fn,tmps:=fr.tmps,params:=ps,assign:=as,body:=bd,defers:=w.heap.size })):=by
              rw[hr];exact run_enterLoop_outer _ _ _ _ _
             refine range_go hG hex (d1:=H.next :: d) (b:=H.next+1) hfr' hft hk hgv henter ?_ g3 (g2.trans g4) ?_ hc
             · rw[<-hn1];exact Rho.put_same _ _ _
             · exact .cons (g4.le _ _ (Rho.put_same _ _ _)) ((hfr.defers.mono g2.le).mono g4.le)
           | some b0=>
             rw[hcr]at hc hr
             simp only at hc hr
             obtain⟨l0,hb0,hro⟩:=hr
             cases ho:H.get b0<;>rw[ho]at hc<;>simp only at hc<;>try (cases hc;done)
             rename_i st0 pe0 fn0 tmps0 nt0 ps0 as0 bd0 df0
             obtain⟨l',a0,dl0,hb',hdf,ha0,hw0⟩:=loop_obj h ho
             rw[hb0]at hb';cases hb'
             simp only[rangeIn]at hc
             have hle:ρ.le (ρ.put H.next ⟨w.heap.size,0,0,0⟩):=Rho.le_put (h.fresh _ (Nat.le_refl _))
             obtain⟨g1,g2⟩:=ext_alloc (w':=w.alloc (.loop { state:=.ready,pending:=none,fn:=fr.fn,tmps:=fr.tmps,params:=ps,assign:=as,body:=bd,defers:=dl0 })) h _ (.loop .ready none c.fn t c.nt ps as bd df0) ⟨w.heap.size,0,0,0⟩ rfl rfl rfl rfl rfl
              ⟨w.heap.size,fr.tmps,dl0,Rho.put_same _ _ _,hle _ _ hdf,hfr.tmps.mono hle,by rw[alloc_new w _,hfr.fn]⟩
             have henter:(Instr.enterLoop fr.fn fr.tmps ps as bd fr.roundOf).run E.P w=.ok (w.heap.size,[]) (w.alloc (.loop { state:=.ready,pending:=none,fn:=fr.fn,tmps:=fr.tmps,params:=ps,assign:=as,body:=bd,defers:=dl0 })):=by
              rw[hro]
              unfold Instr.enterLoop
              simp only[Sem.run_bind,run_getLoop hw0,run_newObj_alloc,Result.andThen,Sem.run_pure]
             exact range_go hG hex (d1:=d) (b:=H.next) hfr' hft hk hgv henter (Rho.put_same _ _ _) g1 g2 (by simpa using hfr.defers.mono g2.le) hc
mutual
theorem veq_eq:∀ {a b:Value},veq a b=true->a=b
 | .bool a,.bool b,h=>by simp[veq]at h;rw[h]
 | .int k a,.int k' b,h=>by simp[veq]at h;rw[h.1,h.2]
 | .string ⟨⟨a⟩⟩,.string ⟨⟨b⟩⟩,h=>by simp[veq]at h;rw[h]
 | .pointer none,.pointer none,_=>rfl
 | .pointer (some ⟨a,b,none⟩),.pointer (some ⟨c,d,none⟩),h=>by simp[veq]at h;rw[h.1,h.2]
 | .map none,.map none,_=>rfl
 | .map (some a),.map (some b),h=>by simp[veq]at h;rw[h]
 | .slice none a b,.slice none c d,h=>by simp[veq]at h;rw[h.1,h.2]
 | .slice (some ⟨a,b,none⟩) x y,.slice (some ⟨c,d,none⟩) x' y',h=>by simp[veq]at h;obtain⟨⟨⟨h1,h2⟩,h3⟩,h4⟩:=h;rw[h1,h2,h3,h4]
 | .func f ⟨a⟩ ⟨b⟩,.func f' ⟨a'⟩ ⟨b'⟩,h=>by
   simp only[veq,Bool.and_eq_true,decide_eq_true_eq]at h
   rw[h.1.1,veqL_eq h.1.2,veqL_eq h.2]
 | .nilFunc,.nilFunc,_=>rfl
 | .iface t v,.iface t' v',h=>by
   simp only[veq,Bool.and_eq_true]at h
   rw[Nat.eq_of_beq_eq_true h.1,veq_eq h.2]
 | .nilIface,.nilIface,_=>rfl
 | .agg ⟨a⟩,.agg ⟨b⟩,h=>by simp only[veq]at h;rw[veqL_eq h]
 | .tuple ⟨a⟩,.tuple ⟨b⟩,h=>by simp only[veq]at h;rw[veqL_eq h]
theorem veqL_eq:∀ {a b:List Value},veqL a b=true->a=b
 | [],[],_=>rfl
 | a :: x,b :: y,h=>by
   simp only[veqL,Bool.and_eq_true]at h
   rw[veq_eq h.1,veqL_eq h.2]
end
def cut (ρ:Rho) (n:Nat):Rho:=fun b=>if b<n then ρ b else none
theorem cut_lt {n b:Nat} (h:b<n):cut ρ n b=ρ b:=by simp[cut,h]
theorem cut_le (ρ:Rho) (n:Nat):(cut ρ n).le ρ:=fun b x h=>by
 unfold cut at h
 split at h
 · exact h
 · cases h
theorem cut_mono {n m:Nat} (h:n<=m):(cut ρ n).le (cut ρ m):=fun b x hx=>by
 unfold cut at hx ⊢
 split at hx
 · rw[if_pos (by omega)];exact hx
 · cases hx
theorem FnR.cut {f f':Fn} {n:Nat} (h:FnR ρ f f') (hb:∀l,f'=.yield l->Nat.blt l n=true):FnR (Ex.cut ρ n) f f':=by
 cases h with
 | func f=>exact .func f
 | yield h=>exact .yield (by rw[cut_lt (by simpa[Nat.blt_eq] using hb _ rfl)];exact h)
mutual
theorem VR.cut {n:Nat}:∀ {v v':Value},VR ρ v v'->Ex.below n v'=true->VR (Ex.cut ρ n) v v'
 | _,_,.bool b,_=>.bool b
 | _,_,.int k m,_=>.int k m
 | _,_,.float k m,_=>.float k m
 | _,_,.complex k a b,_=>.complex k a b
 | _,_,.string s,_=>.string s
 | _,_,.pnil,_=>.pnil
 | _,_,.mnil,_=>.mnil
 | _,_,.cnil,_=>.cnil
 | _,_,.mp h,hb=>.mp (by rw[cut_lt (by simpa[Ex.below,Nat.blt_eq] using hb)];exact h)
 | _,_,.snil,_=>.snil
 | _,_,.nilFunc,_=>.nilFunc
 | _,_,.nilIface,_=>.nilIface
 | _,_,.ptr h,hb=>.ptr (by rw[cut_lt (by simpa[Ex.below,Nat.blt_eq] using hb)];exact h)
 | _,_,.slice h hc h0 hk,hb=>.slice (by rw[cut_lt (by simpa[Ex.below,Nat.blt_eq] using hb)];exact h) hc h0 hk
 | _,_,.sempty a h hk,hb=>.sempty a (by rw[cut_lt (by simpa[Ex.below,Nat.blt_eq] using hb)];exact h) hk
 | _,_,.func x x' y y' hf hx h hy h',hb=>by
   simp only[Ex.below,Bool.and_eq_true]at hb
   exact .func x x' y y' (hf.cut (fun l e=>by have:=hb.1.1;rw[e]at this;exact this)) hx (VR.cutL h hx hb.1.2) hy (VR.cutL h' hy hb.2)
 | _,_,.iface t h,hb=>.iface t (VR.cut h (by simpa[Ex.below] using hb))
 | _,_,.agg x x' hx h,hb=>.agg x x' hx (VR.cutL h hx (by simpa[Ex.below] using hb))
 | _,_,.tuple x x' hx h,hb=>.tuple x x' hx (VR.cutL h hx (by simpa[Ex.below] using hb))
theorem VR.cutL {n:Nat}:∀ {x x':List Value},(∀(i:Nat) u v,x[i]?=some u->x'[i]?=some v->VR ρ u v)->x.length=x'.length->Ex.belowL n x'=true->∀(i:Nat) u v,x[i]?=some u->x'[i]?=some v->VR (Ex.cut ρ n) u v
 | [],_,_,_,_,i,u,v,a,_=>by simp at a
 | _ :: _,[],_,hl,_,_,_,_,_,_=>by simp at hl
 | x :: l,x' :: l',h,hl,hb,i,u,v,a,b=>by
   simp only[Ex.belowL,Bool.and_eq_true]at hb
   cases i with
   | zero=>
     simp at a b;subst a;subst b
     exact VR.cut (h 0 x x' rfl rfl) hb.1
   | succ i=>exact VR.cutL (fun i u w a b=>h (i+1) u w (by simpa using a) (by simpa using b)) (by simpa using hl) hb.2 i u v (by simpa using a) (by simpa using b)
end
theorem evs_mem {t:Tr Value} {n:Nat}:∀ {l:List Operand},belowL n (evs t l)=true->∀x ∈ l,below n (evA t x)=true
 | [],_,_,hx=>by cases hx
 | y :: l,h,x,hx=>by
   simp only[evs,belowL,Bool.and_eq_true]at h
   rcases List.mem_cons.1 hx with rfl|hx
   · exact h.1
   · exact evs_mem h.2 x hx
theorem mem_tmpOf:∀ {l:List Operand} {d:Tmp},Operand.tmp d ∈ l->d ∈ tmpOf l
 | [],_,h=>by cases h
 | x :: l,d,h=>by
   rcases List.mem_cons.1 h with e|h
   · subst e;simp[tmpOf]
   · have:=mem_tmpOf h
     cases x<;>simp[tmpOf,this]
def bump (H:Heap) (n:Nat):Heap:=match H with | .mk o _=>.mk o n
theorem bump_get (H:Heap) (n b:Nat):(bump H n).get b=H.get b:=by cases H;rfl
theorem bump_next (H:Heap) (n:Nat):(bump H n).next=n:=by cases H;rfl
theorem oval_pure {o:Option Value} {v:Value} {H':Heap} (h:oval H o=.ok v H'):H'=H/\∀H2,oval H2 o=.ok v H2:=by
 obtain⟨h1,rfl⟩:=oval_inv h
 exact⟨rfl,fun H2=>by rw[h1];rfl⟩
theorem convInt_pure {t:Tr Value} {o:Oper} {s d:TypeId} {k:IntKind} {x v:Value} (hd:E.tt.und d=some (.int k)) (h:convA E H t o s d x=.ok v H'):H'=H/\∀H2,convA E H2 t o s d x=.ok v H2:=by
 have hbs:isByteSl E.tt d=false:=by
  unfold isByteSl elemA
  rw[hd]
 have hst:isStr E.tt d=false:=by unfold isStr;rw[hd]
 have slow:∀H0 H0' v0,convSlow E H0 t o s d x=.ok v0 H0'->H0'=H0/\∀H2,convSlow E H2 t o s d x=.ok v0 H2:=by
  intro H0 H0' v0 hs
  cases x with
  | slice a n c=>
    have e:∀H2,convSlow E H2 t o s d (.slice a n c)=.bad:=fun H2=>by simp only[convSlow,hst,Bool.and_false]
    rw[e]at hs;cases hs
  | string bs=>
    obtain⟨⟨l⟩⟩:=bs
    have e:∀H2,convSlow E H2 t o s d (.string ⟨⟨l⟩⟩)=oval H2 (pureOp E.P t o (free (.string ⟨⟨l⟩⟩))):=fun H2=>by simp only[convSlow,hbs,Bool.and_false]
    rw[e]at hs
    obtain⟨h1,h2⟩:=oval_pure hs
    exact⟨h1,fun H2=>by rw[e];exact h2 H2⟩
  | func f a b=>
    simp only[convSlow]at hs ⊢
    exact oval_pure hs
  | _=>exact oval_pure hs
 unfold convA at h ⊢
 split at h
 · rename_i k' n
   cases hi:intTo E.tt s d n with
   | some u=>rw[hi]at h;cases h;exact⟨rfl,fun H2=>by simp only[hi]⟩
   | none=>
     rw[hi]at h
     obtain⟨h1,h2⟩:=slow _ _ _ h
     exact⟨h1,fun H2=>by simp only[hi];exact h2 H2⟩
 · rename_i hne
   obtain⟨h1,h2⟩:=slow _ _ _ h
   exact⟨h1,h2⟩
theorem kind0 {t:Tr Value} {o:Oper} {v:Value} (hk:kindOf E.tt o.op=0) (h:opA E ex H t o=.ok v H'):H'=H/\∀H2,opA E ex H2 t o=.ok v H2:=by
 obtain⟨dst,op,type,pos,after,guard⟩:=o
 cases op<;>simp only[kindOf]at hk<;>try (cases hk;done)
 case move x=>have h:Out.ok (evA t x) H=.ok v H':=h;cases h;exact⟨rfl,fun _=>rfl⟩
 case assign x=>have h:Out.ok (evA t x) H=.ok v H':=h;cases h;exact⟨rfl,fun _=>rfl⟩
 case pick c a b=>exact oval_pure (show oval H (asBoolA (evA t c) (evA t a) (evA t b))=.ok v H' from h)
 case build ty ps=>exact oval_pure (show oval H (buildA E.tt ty (evParts t ps.toList))=.ok v H' from h)
 case nilCheck x=>exact oval_pure (show oval H (nilCk (evA t x))=.ok v H' from h)
 case binOp op ty x y ty'=>exact oval_pure (show oval H (binA E.P t ⟨dst,.binOp op ty x y ty',type,pos,after,guard⟩ op (E.tt.und ty) (evA t x) (evA t y))=.ok v H' from h)
 case unOp op ty x=>exact oval_pure (show oval H (pureOp E.P t ⟨dst,.unOp op ty x,type,pos,after,guard⟩ (free (evA t x)))=.ok v H' from h)
 case convert s d x=>
  split at hk
  · rename_i k hd
    exact convInt_pure hd (show convA E H t ⟨dst,.convert s d x,type,pos,after,guard⟩ s d (evA t x)=.ok v H' from h)
  · cases hk
 case makeInterface ty x=>exact oval_pure (show oval H (ifaceA E.tt ty (evA t x))=.ok v H' from h)
 case makeFunc fn a b=>exact oval_pure (show oval H (fnA fn (evs t a.toList) (evs t b.toList))=.ok v H' from h)
 case fieldAddr ty x i=>exact oval_pure (show oval H (fieldAddrV (evA t x) (fieldOf E.tt ty i))=.ok v H' from h)
 case field ty x i=>exact oval_pure (show oval H (fieldV E.tt (evA t x) (fieldOf E.tt ty i))=.ok v H' from h)
 case indexAddr ty x i=>exact oval_pure (show oval H (idxAddr1 E.tt ty (evA t x) (natOf (evA t i)))=.ok v H' from h)
 case index ty x i=>exact oval_pure (show oval H (indexV E.tt ty (evA t x) (evA t i))=.ok v H' from h)
 case extract x i=>exact oval_pure (show oval H (extractV (evA t x) i)=.ok v H' from h)
 case call c=>
  obtain⟨callee,args,argTypes⟩:=c
  cases callee with
  | value g=>cases hk
  | invoke r m=>cases hk
  | builtin b=>
    cases b<;>simp only at hk<;>try (cases hk;done)
    case len=>
     have h:(match evs t args.toList with | [x]=>(match argTypes.toList with|ty :: _=>oval H (lenM H (E.tt.und ty) x)|_=>.bad)|_=>.bad)=Out.ok v H':=h
     split at h
     · rename_i x hx
       split at h
       · rename_i ty tl hts
         have hlm:∀H2,lenM H2 (E.tt.und ty) x=lenV (E.tt.und ty) x:=fun H2=>by
          simp only[lenKind,hts]at hk
          unfold lenM
          split
          · rename_i kt et hd;rw[hd]at hk;cases hk
          · rfl
         rw[hlm]at h
         obtain⟨h1,h2⟩:=oval_pure h
         refine⟨h1,fun H2=>?_⟩
         show(match evs t args.toList with | [x]=>(match argTypes.toList with|ty :: _=>oval H2 (lenM H2 (E.tt.und ty) x)|_=>.bad)|_=>.bad)=Out.ok v H2
         rw[hx,hts]
         show oval H2 (lenM H2 (E.tt.und ty) x)=_
         rw[hlm];exact h2 H2
       · cases h
     · cases h
    case max=>exact oval_pure (show oval H (pureOp E.P t ⟨dst,.call ⟨.builtin .max,args,argTypes⟩,type,pos,after,guard⟩ (freeL (evs t args.toList)))=.ok v H' from h)
    case min=>exact oval_pure (show oval H (pureOp E.P t ⟨dst,.call ⟨.builtin .min,args,argTypes⟩,type,pos,after,guard⟩ (freeL (evs t args.toList)))=.ok v H' from h)
theorem readCells_bump (n b o k:Nat):readCells (bump H n) b o k=readCells H b o k:=by unfold readCells;rw[bump_get]
theorem loadV_bump (n:Nat) (T:Ts) (ty:TypeId) (v:Value):loadV T (bump H n) ty v=loadV T H ty v:=by
 unfold loadV loadAddr load1 load2 readCell
 simp only[readCells_bump,bump_get]
theorem sliceA_bump (n:Nat) (T:Ts) (ty:TypeId) (v:Value) (a b c:Option Value):sliceA T (bump H n) ty v a b c=sliceA T H ty v a b c:=by
 unfold sliceA slSl slArr
 simp only[bump_get]
theorem kind1 {t:Tr Value} {o:Oper} {v:Value} (hk:kindOf E.tt o.op=1) (h:opA E ex H t o=.ok v H'):H'=H/\∀n,opA E ex (bump H n) t o=.ok v (bump H n):=by
 obtain⟨dst,op,type,pos,after,guard⟩:=o
 cases op<;>simp only[kindOf]at hk<;>try (cases hk;done)
 case load ty a=>
  obtain⟨h1,h2⟩:=oval_pure (show oval H (loadV E.tt H ty (evA t a))=.ok v H' from h)
  refine⟨h1,fun n=>?_⟩
  show oval (bump H n) (loadV E.tt (bump H n) ty (evA t a))=_
  rw[loadV_bump];exact h2 _
 case slice ty x lo hi mx=>
  obtain⟨h1,h2⟩:=oval_pure (show oval H (sliceA E.tt H ty (evA t x) (evO t lo) (evO t hi) (evO t mx))=.ok v H' from h)
  refine⟨h1,fun n=>?_⟩
  show oval (bump H n) (sliceA E.tt (bump H n) ty (evA t x) (evO t lo) (evO t hi) (evO t mx))=_
  rw[sliceA_bump];exact h2 _
 case lookup ty x k ok=>
  obtain⟨h1,h2⟩:=oval_pure (show oval H (lookupA E.P E.tt H (evA t x) (evA t k) ok (mapD (E.tt.und ty)))=.ok v H' from h)
  refine⟨h1,fun n=>?_⟩
  show oval (bump H n) (lookupA E.P E.tt (bump H n) (evA t x) (evA t k) ok (mapD (E.tt.und ty)))=_
  have e:lookupA E.P E.tt (bump H n) (evA t x) (evA t k) ok (mapD (E.tt.und ty))=lookupA E.P E.tt H (evA t x) (evA t k) ok (mapD (E.tt.und ty)):=by
   unfold lookupA mapOf
   simp only[bump_get]
  rw[e];exact h2 _
 case convert s d x=>split at hk<;>cases hk
 case call c=>
  obtain⟨callee,args,argTypes⟩:=c
  cases callee with
  | value g=>cases hk
  | invoke r m=>cases hk
  | builtin b=>
    cases b<;>simp only at hk<;>try (cases hk;done)
    case len=>
     have h:(match evs t args.toList with | [x]=>(match argTypes.toList with|ty :: _=>oval H (lenM H (E.tt.und ty) x)|_=>.bad)|_=>.bad)=Out.ok v H':=h
     split at h
     · rename_i x hx
       split at h
       · rename_i ty tl hts
         obtain⟨h1,h2⟩:=oval_pure h
         refine⟨h1,fun n=>?_⟩
         show(match evs t args.toList with | [x]=>(match argTypes.toList with|ty :: _=>oval (bump H n) (lenM (bump H n) (E.tt.und ty) x)|_=>.bad)|_=>.bad)=Out.ok v (bump H n)
         rw[hx,hts]
         show oval (bump H n) (lenM (bump H n) (E.tt.und ty) x)=_
         have e:lenM (bump H n) (E.tt.und ty) x=lenM H (E.tt.und ty) x:=by
          unfold lenM mapLen
          simp only[bump_get]
         rw[e];exact h2 _
       · cases h
     · cases h
theorem kind2 {t:Tr Value} {o:Oper} {v:Value} (hk:kindOf E.tt o.op=2) (h:opA E ex H t o=.ok v H'):
 ∃cs,∃f:Nat->Value,v=f H.next/\H'=newRowA H cs 0/\(∀H2,opA E ex H2 t o=.ok (f H2.next) (newRowA H2 cs 0))/\((∀b,f b=ptrAt b 0)\/∃l c,∀b,f b=.slice (some ⟨b,0,none⟩) l c):=by
 obtain⟨dst,op,type,pos,after,guard⟩:=o
 cases op<;>simp only[kindOf]at hk<;>try (cases hk;done)
 case alloc ty=>
  have h:(match zeroA E.tt ty with|some z=>Ex.newVar H (cellsV z)|none=>.bad)=Out.ok v H':=h
  cases hz:zeroA E.tt ty with
  | none=>rw[hz]at h;cases h
  | some z=>
    rw[hz]at h;cases h
    refine⟨cellsV z,fun b=>ptrAt b 0,rfl,rfl,fun H2=>?_,.inl fun _=>rfl⟩
    show(match zeroA E.tt ty with|some z=>Ex.newVar H2 (cellsV z)|none=>.bad)=_
    rw[hz];rfl
 case box ty x=>
  have h:Ex.newVar H (cellsV (evA t x))=Out.ok v H':=h
  cases h
  exact⟨cellsV (evA t x),fun b=>ptrAt b 0,rfl,rfl,fun H2=>rfl,.inl fun _=>rfl⟩
 case buildSlice ty len ps=>
  have hb:∀H2,opA E ex H2 t ⟨dst,.buildSlice ty len ps,type,pos,after,guard⟩=bslA E.tt H2 len (evParts t ps.toList) (elemA E.tt ty):=fun _=>rfl
  rw[hb]at h
  cases he:elemA E.tt ty with
  | none=>rw[he]at h;cases h
  | some e=>
    obtain⟨e,size⟩:=e
    rw[he]at h hb
    simp only[bslA]at h hb
    cases hle:Nat.ble (len*size) 65536 with
    | false=>rw[hle]at h;cases h
    | true=>
      rw[hle]at h hb
      simp only at h hb
      cases hz:zeros E.tt e len with
      | none=>rw[hz]at h;cases h
      | some z=>
        rw[hz]at h hb
        simp only[bslA2,rowA]at h hb
        cases hf:fillA (elemPlace size) (evParts t ps.toList) z with
        | none=>rw[hf]at h;cases h
        | some cs=>
          rw[hf]at h hb
          cases h
          exact⟨cs,fun b=>.slice (some ⟨b,0,none⟩) len len,rfl,rfl,hb,.inr ⟨len,len,fun _=>rfl⟩⟩
 case makeSlice ty l c=>
  have hb:∀H2,opA E ex H2 t ⟨dst,.makeSlice ty l c,type,pos,after,guard⟩=mkSlA E.tt H2 ty (natOf (evA t l)) (natOf (evA t c)):=fun _=>rfl
  rw[hb]at h
  cases hnl:natOf (evA t l) with
  | none=>rw[hnl]at h;cases h
  | some nl=>
  cases hnc:natOf (evA t c) with
  | none=>rw[hnl,hnc]at h;cases h
  | some nc=>
  rw[hnl,hnc]at h hb
  simp only[mkSlA]at h hb
  cases he:elemA E.tt ty with
  | none=>rw[he]at h;cases h
  | some e=>
    obtain⟨e,size⟩:=e
    rw[he]at h hb
    simp only[mkSl2]at h hb
    cases hle:(Nat.ble nl nc && Nat.ble nc 65536) with
    | false=>rw[hle]at h;cases h
    | true=>
      rw[hle]at h hb
      simp only at h hb
      cases hi:E.tt.info e with
      | none=>rw[hi]at h;cases h
      | some i=>
        rw[hi]at h hb
        simp only at h hb
        cases hby:Nat.ble i.bytes 1024 with
        | false=>rw[hby]at h;cases h
        | true=>
          rw[hby]at h hb
          simp only at h hb
          cases hz:zeros E.tt e nc with
          | none=>rw[hz]at h;cases h
          | some z=>
            rw[hz]at h hb
            cases h
            exact⟨z,fun b=>.slice (some ⟨b,0,none⟩) nl nc,rfl,rfl,hb,.inr ⟨nl,nc,fun _=>rfl⟩⟩
 case convert s d x=>split at hk<;>cases hk
 case call c=>
  obtain⟨callee,args,argTypes⟩:=c
  cases callee with
  | value g=>cases hk
  | invoke r m=>cases hk
  | builtin b=>
    cases b<;>simp only at hk<;>try (cases hk;done)
    case len=>
     unfold lenKind at hk
     split at hk
     · split at hk<;>cases hk
     · cases hk
inductive Reach (l:List Oper):Nat->Nat->Prop
 | direct {j:Nat} {o:Oper} {e:Edge} (hj:l[j]?=some o) (he:e ∈ o.after.toList) (hb:Region.binds .any e=true):Reach l j e.on
 | trans {j i:Nat} {o:Oper} {e:Edge} (hj:l[j]?=some o) (he:e ∈ o.after.toList) (hb:Region.binds .any e=true) (h:Reach l e.on i):Reach l j i
theorem edgeMask_reach {l:List Oper} {acc:List Nat} (hacc:∀(j m:Nat),acc[j]?=some m->∀i,m.testBit i=true->Reach l j i) {j:Nat} {o:Oper} (hj:l[j]?=some o):
 ∀(es:List Edge),(∀e ∈ es,e ∈ o.after.toList)->∀i,(edgeMask acc es).testBit i=true->Reach l j i
 | [],_,i,h=>by simp[edgeMask]at h
 | e :: es,hes,i,h=>by
   simp only[edgeMask]at h
   have ih:=edgeMask_reach hacc hj es (fun e he=>hes e (by simp[he])) i
   cases hb:Region.binds .any e with
   | false=>rw[hb]at h;exact ih h
   | true=>
     rw[hb]at h
     have h:(((2 ^ e.on ||| (match nth acc e.on with|some m=>m|none=>0)) ||| edgeMask acc es:Nat)).testBit i=true:=h
     rw[Nat.testBit_or,Nat.testBit_or]at h
     simp only[Bool.or_eq_true]at h
     rcases h with(h|h)|h
     · rw[Nat.testBit_two_pow]at h
       have:e.on=i:=by simpa using h
       subst this
       exact .direct hj (hes e (by simp)) hb
     · rw[nth_eq]at h
       cases hm:acc[e.on]? with
       | none=>rw[hm]at h;simp at h
       | some m=>rw[hm]at h;exact .trans hj (hes e (by simp)) hb (hacc _ m hm i h)
     · exact ih h
theorem masks_reach {l:List Oper}:∀(rest:List Oper) (acc:List Nat),l.drop acc.length=rest → (∀(j m:Nat),acc[j]?=some m->∀i,m.testBit i=true->Reach l j i) ->
 ∀(j m:Nat),(masks rest acc)[j]?=some m->∀i,m.testBit i=true->Reach l j i
 | [],acc,_,hacc=>hacc
 | o :: rest,acc,hd,hacc=>by
   have hj:l[acc.length]?=some o:=by
     have:=congrArg (·[0]?) hd
     simpa[List.getElem?_drop] using this
   have hd':l.drop (acc ++ [edgeMask acc o.after.toList]).length=rest:=by
     have:=congrArg List.tail hd
     simpa[List.tail_drop] using this
   refine masks_reach rest _ hd' (fun j m hm i hi=>?_)
   rcases Nat.lt_or_ge j acc.length with hlt|hge
   · rw[List.getElem?_append_left hlt]at hm;exact hacc j m hm i hi
   · rw[List.getElem?_append_right hge]at hm
     have hj0:j=acc.length:=by
      have:=(List.getElem?_eq_some_iff.1 hm).1
      simp at this;omega
     subst hj0
     simp at hm
     subst hm
     exact edgeMask_reach hacc hj _ (fun e he=>he) i hi
theorem ahead_reach {l:List Oper} {i j:Nat} (h:ahead (masks l []) i j=true):Reach l j i:=by
 unfold ahead at h
 rw[nth_eq]at h
 cases hm:(masks l [])[j]? with
 | none=>rw[hm]at h;cases h
 | some m=>rw[hm]at h;exact masks_reach l [] (by simp) (fun j m hm=>by simp at hm) j m hm i h
def Closed (l:List Oper) (S:Nat->Prop):Prop:=∀j o,S j->l[j]?=some o->∀e ∈ o.after.toList,Region.binds .any e=true->S e.on
theorem Reach.mem {l:List Oper} {S:Nat->Prop} (hS:Closed l S) {j i:Nat} (h:Reach l j i) (hj:∀o,l[j]?=some o->∀e ∈ o.after.toList,Region.binds .any e=true->S e.on):S i:=by
 induction h with
 | direct hjo he hb=>exact hj _ hjo _ he hb
 | trans hjo he hb _ ih=>exact ih (fun o ho e he' hb'=>hS _ o (hj _ hjo _ he hb) ho e he' hb')
theorem Closed.reach {l:List Oper} {S:Nat->Prop} (hS:Closed l S) {j i:Nat} (h:Reach l j i) (hj:S j):S i:=h.mem hS (fun o ho e he hb=>hS j o hj ho e he hb)
structure Chain (E:Env) (ex:Ex) (all:Array Oper) (l:List Oper) (s:Nat->St):Prop where
 skip:∀i o,l[i]?=some o->wantedA all (s i).t o.guard=false → (s i).v=Undef/\(s (i+1)).t=putTmp (s i).t o.dst Undef/\(s (i+1)).H=(s i).H
 op:∀i o,l[i]?=some o->wantedA all (s i).t o.guard=true->opA E ex (s i).H (s i).t o=.ok (s i).v (s (i+1)).H/\(s (i+1)).t=putTmp (s i).t o.dst (s i).v
def stOf (tr:List St) (i:Nat):St:=(tr[i]?).getD ⟨.nil,.mk .nil 0,Undef⟩
theorem trace_chain {all:Array Oper}:∀(l:List Oper) (t:Tr Value) (H:Heap) (tr:List St),traceOps E ex all l t H=.ok tr ->
 tr.length=l.length+1/\(stOf tr 0).t=t/\(stOf tr 0).H=H/\Chain E ex all l (stOf tr)
 | [],t,H,tr,h=>by
   have h:OutL.ok [⟨t,H,Undef⟩]=.ok tr:=h
   cases h
   exact⟨rfl,rfl,rfl,⟨fun i o hi=>by simp at hi,fun i o hi=>by simp at hi⟩⟩
 | o :: l,t,H,tr,h=>by
   have h:@Bool.rec (fun _=>OutL) (consL ⟨t,H,Undef⟩ (traceOps E ex all l (putTmp t o.dst Undef) H))
     (@Out.rec (fun _=>OutL) .bad (fun v H'=>consL ⟨t,H,v⟩ (traceOps E ex all l (putTmp t o.dst v) H')) (opA E ex H t o)) (wantedA all t o.guard)=.ok tr:=h
   have cons:∀(x:St) (t1:Tr Value) (H1:Heap),consL x (traceOps E ex all l t1 H1)=.ok tr->∃tr1,tr=x :: tr1/\traceOps E ex all l t1 H1=.ok tr1:=by
     intro x t1 H1 hc
     cases hr:traceOps E ex all l t1 H1 with
     | bad=>rw[hr]at hc;cases hc
     | ok tr1=>rw[hr]at hc;cases hc;exact⟨tr1,rfl,rfl⟩
   have shift:∀(x:St) (tr1:List St) i,stOf (x :: tr1) (i+1)=stOf tr1 i:=fun x tr1 i=>by simp[stOf]
   cases hw:wantedA all t o.guard with
   | false=>
     rw[hw]at h
     obtain⟨tr1,rfl,h1⟩:=cons _ _ _ h
     obtain⟨g1,g2,g3,g4⟩:=trace_chain l _ _ tr1 h1
     refine⟨by simp[g1],rfl,rfl,⟨fun i o' hi hw'=>?_,fun i o' hi hw'=>?_⟩⟩
     · cases i with
       | zero=>simp at hi;subst hi;rw[shift];exact⟨rfl,g2,g3⟩
       | succ i=>rw[shift]at hw';rw[shift,shift];exact g4.skip i o' (by simpa using hi) hw'
     · cases i with
       | zero=>simp at hi;subst hi;have:wantedA all t o.guard=true:=hw';rw[hw]at this;cases this
       | succ i=>rw[shift]at hw';rw[shift,shift];exact g4.op i o' (by simpa using hi) hw'
   | true=>
     rw[hw]at h
     cases hop:opA E ex H t o with
     | bad=>rw[hop]at h;cases h
     | ok v H1=>
       rw[hop]at h
       obtain⟨tr1,rfl,h1⟩:=cons _ _ _ h
       obtain⟨g1,g2,g3,g4⟩:=trace_chain l _ _ tr1 h1
       refine⟨by simp[g1],rfl,rfl,⟨fun i o' hi hw'=>?_,fun i o' hi hw'=>?_⟩⟩
       · cases i with
         | zero=>simp at hi;subst hi;have:wantedA all t o.guard=false:=hw';rw[hw]at this;cases this
         | succ i=>rw[shift]at hw';rw[shift,shift];exact g4.skip i o' (by simpa using hi) hw'
       · cases i with
         | zero=>simp at hi;subst hi;rw[shift];refine⟨?_,g2⟩;rw[g3];exact hop
         | succ i=>rw[shift]at hw';rw[shift,shift];exact g4.op i o' (by simpa using hi) hw'
theorem binds_any {e:Edge} (md:Region.Mode) (h:Region.binds .any e=true):Region.binds md e=true:=by
 unfold Region.binds at h ⊢
 cases hg:e.ground<;>rw[hg]at h<;>first|rfl|(exact absurd (show false=true from h) (by decide))
theorem depsIn_spec {md:Region.Mode} {mask:Nat}:∀ {es:List Edge},depsIn md mask es=true->∀e ∈ es,Region.binds md e=true->mask.testBit e.on=true
 | [],_,_,he,_=>by cases he
 | x :: es,h,e,he,hb=>by
   simp only[depsIn,Bool.and_eq_true,Bool.or_eq_true,Bool.not_eq_true']at h
   rcases List.mem_cons.1 he with rfl|he
   · exact h.1.resolve_left (by rw[hb];decide)
   · exact depsIn_spec h.2 e he hb
theorem pass_mem {md:Region.Mode} {l:List Oper} {S:Nat->Prop} (hS:∀(i:Nat) (o:Oper),l[i]?=some o → (∀e ∈ o.after.toList,Region.binds md e=true->S e.on)->S i):∀(r:List Oper) (i mask:Nat),l.drop i=r → (∀j,mask.testBit j=true->S j)->∀j,(pass md r i mask).testBit j=true->S j
 | [],_,_,_,hm=>hm
 | o :: r,i,mask,hd,hm=>by
   have hi:l[i]?=some o:=by
     have:=congrArg (·[0]?) hd
     simpa[List.getElem?_drop] using this
   have hd':l.drop (i+1)=r:=by
     have:=congrArg List.tail hd
     simpa[List.tail_drop] using this
   simp only[pass]
   split
   · rename_i hdeps
     refine pass_mem hS r (i+1) _ hd' (fun j hj=>?_)
     have hj:(mask ||| 2 ^ i:Nat).testBit j=true:=hj
     rw[Nat.testBit_or,Nat.testBit_two_pow]at hj
     simp only[Bool.or_eq_true,decide_eq_true_eq]at hj
     rcases hj with hj|rfl
     · exact hm j hj
     · exact hS i o hi (fun e he hb=>hm _ (depsIn_spec hdeps e he hb))
   · exact pass_mem hS r (i+1) mask hd' hm
theorem top_of {md:Region.Mode} {l:List Oper} (h:topOk md l l.length=true) {S:Nat->Prop} (hS:∀(i:Nat) (o:Oper),l[i]?=some o → (∀e ∈ o.after.toList,Region.binds md e=true->S e.on)->S i):∀i,i<l.length->S i:=by
 intro i hi
 have he:=Nat.eq_of_beq_eq_true h
 have h1:=pass_mem hS l 0 0 (by simp) (fun j hj=>by simp at hj)
 have h2:=pass_mem hS l 0 _ (by simp) h1
 have h3:=pass_mem hS l 0 _ (by simp) h2
 refine h3 i ?_
 rw[he,Nat.testBit_two_pow_sub_one]
 simpa using hi
structure Good (T:Ts) (all:Array Oper) (l:List Oper):Prop where
 dst:∀(i j:Nat) (a b:Oper) (d:Tmp),l[i]?=some a->l[j]?=some b->a.dst=some d->b.dst=some d->i=j
 self:∀(i:Nat) (a:Oper) (d:Tmp),l[i]?=some a->a.dst=some d->d ∉ looks all a
 top:∀(md:Region.Mode) (S:Nat->Prop),(∀(i:Nat) (o:Oper),l[i]?=some o → (∀e ∈ o.after.toList,Region.binds md e=true->S e.on)->S i)->∀i,i<l.length->S i
 read:∀(i j:Nat) (a b:Oper) (d:Tmp),l[i]?=some a->l[j]?=some b->a.dst=some d->d ∈ looks all b->i<j->Reach l j i
 anti:∀(i j:Nat) (a b:Oper) (d:Tmp),l[i]?=some a->l[j]?=some b->b.dst=some d->d ∈ looks all a->i<j->Reach l j i
 act:∀(i j:Nat) (a b:Oper),l[i]?=some a->l[j]?=some b->kindOf T b.op=3 → 2<=kindOf T a.op->i<j->Reach l j i
theorem hasT_mem {d:Tmp} {l:List Tmp}:hasT (some d) l=true↔d ∈ l:=by
 simp only[hasT,List.any_eq_true]
 constructor
 · rintro⟨x,hx,he⟩;have:=Nat.eq_of_beq_eq_true he;subst this;exact hx
 · intro h;exact⟨d,h,by simp⟩
theorem good_of {T:Ts} {all:Array Oper} (h:okDraw T all (masks all.toList [])=true):Good T all all.toList:=by
 unfold okDraw at h
 simp only[Bool.and_eq_true]at h
 obtain⟨⟨⟨hp,hl⟩,ht⟩,hgc⟩:=h
 have pair:∀i j a b,all.toList[i]?=some a->all.toList[j]?=some b->i<j->pairOk T all (masks all.toList []) i j a b=true:=by
  intro i j a b ha hb hij
  have hi:=(List.getElem?_eq_some_iff.1 ha).1
  have hj:=(List.getElem?_eq_some_iff.1 hb).1
  unfold pairsOk at hp
  have h1:=List.all_eq_true.1 hp i (List.mem_range.2 hi)
  have h2:=List.all_eq_true.1 h1 j (List.mem_range.2 hj)
  rw[nth_eq,nth_eq,ha,hb]at h2
  have hlt:Nat.blt i j=true:=by simpa[Nat.blt_eq] using hij
  rw[hlt]at h2
  simpa using h2
 have lone:∀(i:Nat) (a:Oper),all.toList[i]?=some a → ((hasT a.dst (looks all a)).not)=true:=by
  intro i a ha
  have hi:=(List.getElem?_eq_some_iff.1 ha).1
  unfold lonesOk at hl
  have h1:=List.all_eq_true.1 hl i (List.mem_range.2 hi)
  rw[nth_eq,ha]at h1
  exact h1
 have parts:∀i j a b,all.toList[i]?=some a->all.toList[j]?=some b->i<j → (sameDst a.dst b.dst=false)/\((hasT a.dst (looks all b) || hasT b.dst (looks all a) || (Nat.beq (kindOf T b.op) 3 && Nat.ble 2 (kindOf T a.op)))=true->Reach all.toList j i):=by
  intro i j a b ha hb hij
  have:=pair i j a b ha hb hij
  unfold pairOk at this
  simp only[Bool.and_eq_true,Bool.or_eq_true,Bool.not_eq_true']at this
  refine⟨this.1,fun hc=>?_⟩
  rcases this.2 with h|h
  · simp only[Bool.or_eq_false_iff]at h
    simp only[Bool.or_eq_true]at hc
    rcases hc with(hc|hc)|hc
    · rw[h.1.1]at hc;cases hc
    · rw[h.1.2]at hc;cases hc
    · rw[h.2]at hc;cases hc
  · exact ahead_reach h
 refine⟨?_,?_,?_,?_,?_,?_⟩
 · intro i j a b d ha hb hda hdb
   rcases Nat.lt_trichotomy i j with hlt|heq|hgt
   · have:=(parts i j a b ha hb hlt).1
     rw[hda,hdb]at this
     simp[sameDst]at this
   · exact heq
   · have:=(parts j i b a hb ha hgt).1
     rw[hda,hdb]at this
     simp[sameDst]at this
 · intro i a d ha hd hm
   have:=lone i a ha
   simp only[Bool.not_eq_true']at this
   rw[hd]at this
   rw[hasT_mem.2 hm]at this
   cases this
 · intro md S hS
   cases md with
   | text=>exact top_of ht hS
   | gc=>exact top_of hgc hS
   | any=>exact top_of hgc (fun i o hi h=>hS i o hi (fun e he hb=>h e he (binds_any _ hb)))
 · intro i j a b d ha hb hd hm hij
   refine(parts i j a b ha hb hij).2 ?_
   rw[hd,hasT_mem.2 hm];rfl
 · intro i j a b d ha hb hd hm hij
   refine(parts i j a b ha hb hij).2 ?_
   rw[hd,hasT_mem.2 hm];simp
 · intro i j a b ha hb hk3 hk2 hij
   refine(parts i j a b ha hb hij).2 ?_
   have h1:Nat.beq (kindOf T b.op) 3=true:=by rw[hk3];rfl
   have h2:Nat.ble 2 (kindOf T a.op)=true:=Nat.ble_eq_true_of_le hk2
   rw[h1,h2];simp
theorem looks_op {all:Array Oper} {o:Oper} {d:Tmp} (h:Operand.tmp d ∈ o.op.operands):d ∈ looks all o:=by
 have h1:d ∈ tmpOf o.op.operands.toList:=mem_tmpOf (by simpa using h)
 unfold looks
 split
 · split
   · exact List.mem_cons_of_mem _ h1
   · exact h1
 · exact h1
theorem looks_guard {all:Array Oper} {o:Oper} {g:Nat} {b:Bool} {d:Tmp} (h:o.guard=some (g,b)) (hd:guardOf all g=some d):d ∈ looks all o:=by
 unfold looks
 rw[h]
 simp only[hd]
 exact List.mem_cons_self
theorem Chain.tstep {all:Array Oper} {l:List Oper} {s:Nat->St} (h:Chain E ex all l s) {i:Nat} {o:Oper} (hi:l[i]?=some o):(s (i+1)).t=putTmp (s i).t o.dst (s i).v:=by
 cases hw:wantedA all (s i).t o.guard with
 | false=>obtain⟨a,b,_⟩:=h.skip i o hi hw;rw[b,a]
 | true=>exact(h.op i o hi hw).2
theorem putTmp_ne {t:Tr Value} {dst:Option Tmp} {v:Value} {d:Tmp} (h:dst≠some d):(putTmp t dst v).get Undef d=t.get Undef d:=by
 cases dst with
 | none=>rfl
 | some x=>exact Tr.get_set_other _ _ _ _ _ (fun e=>h (by rw[e]))
theorem putTmp_has {t:Tr Value} {dst:Option Tmp} {v:Value} {d:Tmp}:(putTmp t dst v).has d=t.has d:=by
 cases dst with
 | none=>rfl
 | some x=>exact Tr.has_set _ _ _ _
theorem chain_has {all:Array Oper} {l:List Oper} {s:Nat->St} (h:Chain E ex all l s) (d:Tmp):∀i,i<=l.length → (s i).t.has d=(s 0).t.has d
 | 0,_=>rfl
 | i+1,hi=>by
   obtain⟨o,ho⟩:∃o,l[i]?=some o:=⟨_,List.getElem?_eq_getElem (by omega)⟩
   rw[h.tstep ho,putTmp_has]
   exact chain_has h d i (by omega)
theorem chain_none {all:Array Oper} {l:List Oper} {s:Nat->St} (h:Chain E ex all l s) {d:Tmp}:∀i,i<=l.length → (∀j o,j<i->l[j]?=some o->o.dst≠some d) → (s i).t.get Undef d=(s 0).t.get Undef d
 | 0,_,_=>rfl
 | i+1,hi,hn=>by
   obtain⟨o,ho⟩:∃o,l[i]?=some o:=⟨_,List.getElem?_eq_getElem (by omega)⟩
   rw[h.tstep ho,putTmp_ne (hn i o (by omega) ho)]
   exact chain_none h i (by omega) (fun j o hj=>hn j o (by omega))
theorem chain_some {T:Ts} {all:Array Oper} {l:List Oper} {s:Nat->St} (h:Chain E ex all l s) (hg:Good T all l) {nt:Nat} (hh:∀d,d<nt → (s 0).t.has d=true) {j:Nat} {o:Oper} {d:Tmp} (hj:l[j]?=some o) (hd:o.dst=some d) (hdn:d<nt):
 ∀i,i<=l.length->j<i → (s i).t.get Undef d=(s j).v
 | 0,_,hji=>by omega
 | i+1,hi,hji=>by
   obtain⟨o',ho'⟩:∃o,l[i]?=some o:=⟨_,List.getElem?_eq_getElem (by omega)⟩
   rw[h.tstep ho']
   by_cases e:i=j
   · subst e
     rw[hj]at ho';cases ho'
     rw[hd]
     exact Tr.get_set_same _ _ _ _ (by rw[chain_has h d i (by omega)];exact hh d hdn)
   · rw[putTmp_ne (fun e'=>e (hg.dst i j o' o d ho' hj e' hd))]
     exact chain_some h hg hh hj hd hdn i (by omega) (by omega)
end Ex

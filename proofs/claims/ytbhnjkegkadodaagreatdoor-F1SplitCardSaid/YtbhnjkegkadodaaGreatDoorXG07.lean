/- A verified executor for closed Go calls, part of it: its lemmas carry no condition. -/
import Derived.Test.YtbhnjkegkadodaaGreatDoorXG06
set_option linter.unusedVariables false
set_option linter.unusedSimpArgs false
set_option maxRecDepth 100000
set_option maxHeartbeats 8000000
namespace Ex
open Go
variable {E:Env} {ρ ρ':Rho} {H H':Heap} {w w':World} {ex:Ex}
theorem HR.grow {ng:Nat} (h:HR ng ρ H w) (hw:∀c,c<w.heap.size->w'.heap[c]?=w.heap[c]?):HR ng ρ H w' where
 obj b:=by
  by_cases hn:H.get b=.none
  · rw[hn];trivial
  · exact(h.obj b).mono ρ.le_refl (fun q hq=>hw _ (h.lt hn hq))
 inj:=h.inj
 fresh:=h.fresh
 glob:=h.glob
def bare (n:Nat):Heap:=.mk (Tr.full .none (depthOf n)) n
theorem bare_get (n b:Nat):(bare n).get b=.none:=by
 show Tr.get AObj.none (Tr.full AObj.none (depthOf n)) b=AObj.none
 exact Tr.get_full _ _ _
theorem bare_HR {ng n:Nat} (w:World) (hf:∀b,n<=b->ρ b=none) (hg:∀g,g<ng->∃z,ρ g=some ⟨g,0,z,0⟩):HR ng ρ (bare n) w where
 obj b:=by rw[bare_get];trivial
 inj b _ _ _ h:=absurd (bare_get n b) h
 fresh:=hf
 glob:=hg
theorem bare_held {n c:Nat} (h:Held ρ (bare n) c):False:=by
 obtain⟨b,_,h1,_⟩:=h
 exact h1 (bare_get n b)
theorem bare_add_get (n:Nat) (o:AObj):((bare n).add o).get n=o:=by
 show Tr.get .none ((Tr.full AObj.none (depthOf n)).set n o) n=o
 refine Tr.get_set_same _ _ _ _ (Tr.has_full _ _ _ ?_)
 have:=Nat.lt_log2_self (n:=n)
 unfold depthOf
 have e:2 ^ (n.log2+2)=2*2 ^ (n.log2+1):=by rw[Nat.pow_succ 2 (n.log2+1),Nat.mul_comm]
 rw[e];omega
theorem HR.wider {ng m:Nat} (h:HR ng ρ H w) (hle:ρ.le ρ') (hf:∀b,m<=b->ρ' b=none):HR ng ρ' (bump H m) w where
 obj b:=by
  rw[bump_get]
  exact(h.obj b).mono hle (fun _ _=>rfl)
 inj b b' p p' h1 h2 e1 e2 ec:=by
  rw[bump_get]at h1 h2
  have old:∀b p,H.get b≠.none->ρ' b=some p->ρ b=some p:=fun b p hb hp=>by
   have:∃q,ρ b=some q:=let ⟨q,hq,_⟩:=(h.obj b).place hb;⟨q,hq⟩
   obtain⟨q,hq⟩:=this
   rw[hle _ _ hq]at hp
   rw[hq,hp]
  exact h.inj b b' p p' h1 h2 (old _ _ h1 e1) (old _ _ h2 e2) ec
 fresh b hb:=by rw[bump_next]at hb;exact hf b hb
 glob g hg:=let ⟨z,hz⟩:=h.glob g hg;⟨z,hle _ _ hz⟩
structure Drw (E:Env) (ex:Ex) (ops:Array Oper) (s:Nat->St) (nt:Nat):Prop where
 good:Good E.tt ops ops.toList
 chain:Chain E ex ops ops.toList s
 oks:okOps E.ng nt ops.toList=true
 has:∀d,d<nt → (s 0).t.has d=true
 next:∀i,i<ops.size → (s i).H.next<=(s (i+1)).H.next
 read:∀(i m:Nat) (o:Oper),ops.toList[i]?=some o->wantedA ops (s i).t o.guard=true->kindOf E.tt o.op=1->m<=ops.size->stageOk E.tt ops.toList (masks ops.toList []) ops.size i m=true->∃H',opA E ex (s m).H (s i).t o=.ok (s i).v H'
 act:∀(i:Nat) (o:Oper),ops.toList[i]?=some o->wantedA ops (s i).t o.guard=true → 2<=kindOf E.tt o.op->belowL (s i).H.next (evs (s i).t o.op.operands.toList)=true
theorem Drw.mono {ops:Array Oper} {s:Nat->St} {nt:Nat} (h:Drw E ex ops s nt) {i:Nat}:∀ {j:Nat},i<=j->j<=ops.size → (s i).H.next<=(s j).H.next
 | 0,hij,_=>by rw[show i=0 by omega];exact Nat.le_refl _
 | j+1,hij,hj=>by
   rcases Nat.lt_or_ge j i with hlt|hge
   · rw[show i=j+1 by omega];exact Nat.le_refl _
   · exact Nat.le_trans (h.mono hge (by omega)) (h.next j (by omega))
def Pend (E:Env) (ops:Array Oper) (s:Nat->St) (L:Nat->Prop) (m j:Nat):Prop:=
 m<=j/\L j/\∃o,ops.toList[j]?=some o/\kindOf E.tt o.op=2/\wantedA ops (s j).t o.guard=true
structure Core (E:Env) (ops:Array Oper) (s:Nat->St) (nt:Nat) (ρ0:Rho) (w0:World) (L:Nat->Prop) (m:Nat) (ρ:Rho) (a:Array Value) (w:World):Prop where
 lt:∀j,L j->j<ops.size
 closed:Closed ops.toList L
 le:m<=ops.size
 hr:HR E.ng (cut ρ (s m).H.next) (s m).H w
 dom:∀b p,ρ b=some p->b<(s m).H.next\/∃j,Pend E ops s L m j/\b=(s j).H.next
 pend:∀j,Pend E ops s L m j->∃p cs,ρ (s j).H.next=some p/\p.k=0/\(s (j+1)).H=newRowA (s j).H cs 0/\CellsAt (cut ρ ((s j).H.next+1)) w p cs /\
  ¬Held (cut ρ (s m).H.next) (s m).H p.c/\w0.heap.size<=p.c/\p.c<w.heap.size
 inj:∀j j' p p',Pend E ops s L m j->Pend E ops s L m j'->ρ (s j).H.next=some p->ρ (s j').H.next=some p'->p.c=p'.c->j=j'
 size:a.size=nt
 done:∀(j:Nat) (o:Oper) (d:Tmp),L j->ops.toList[j]?=some o->o.dst=some d->VR ρ (a.getD d undef) (s j).v
 old:∀d,(∀(j:Nat) (o:Oper),L j->ops.toList[j]?=some o->o.dst≠some d)->VR ρ (a.getD d undef) ((s 0).t.get Undef d)
 ext:Ext ρ0 (s 0).H w0 (cut ρ (s m).H.next) (s m).H w
theorem okOps_mem {ng nt:Nat}:∀ {l:List Oper},okOps ng nt l=true->∀o ∈ l,okDst nt o.dst=true/\okXs ng o.op.operands.toList=true
 | [],_,_,h=>by cases h
 | x :: l,h,o,ho=>by
   simp only[okOps,Bool.and_eq_true]at h
   rcases List.mem_cons.1 ho with rfl|ho
   · exact⟨h.1.1,h.1.2⟩
   · exact okOps_mem h.2 o ho
end Ex
namespace Ex
open Go
variable {E:Env} {ρ ρ':Rho} {H H':Heap} {w w':World} {ex:Ex}
section
variable {ops:Array Oper} {s:Nat->St} {nt:Nat} {ρ0:Rho} {w0:World} {L:Nat->Prop} {m:Nat} {a:Array Value}
theorem Drw.dst_lt (hD:Drw E ex ops s nt) {i:Nat} {o:Oper} {d:Tmp} (hi:ops.toList[i]?=some o) (hd:o.dst=some d):d<nt:=by
 have:=(okOps_mem hD.oks o (List.mem_of_getElem? hi)).1
 rw[hd]at this
 simpa[okDst,Nat.blt_eq] using this
theorem Core.slot (hD:Drw E ex ops s nt) (hC:Core E ops s nt ρ0 w0 L m ρ a w) {i:Nat} {o:Oper} (hi:ops.toList[i]?=some o) (hn:¬L i) (hdep:∀e ∈ o.after.toList,Region.binds .any e=true->L e.on) {d:Tmp} (hd:d ∈ looks ops o):
 VR ρ (a.getD d undef) ((s i).t.get Undef d):=by
 have hlt:i<ops.toList.length:=(List.getElem?_eq_some_iff.1 hi).1
 have hdep':∀o',ops.toList[i]?=some o'->∀e ∈ o'.after.toList,Region.binds .any e=true->L e.on:=fun o' ho'=>by rw[hi]at ho';cases ho';exact hdep
 by_cases hw:∃(j:Nat) (o':Oper),ops.toList[j]?=some o'/\o'.dst=some d
 · obtain⟨j,o',hj,hd'⟩:=hw
   rcases Nat.lt_trichotomy j i with hji|hji|hji
   · have hL:L j:=(hD.good.read j i o' o d hj hi hd' hd hji).mem hC.closed hdep'
     rw[chain_some hD.chain hD.good hD.has hj hd' (hD.dst_lt hj hd') i (by omega) hji]
     exact hC.done j o' d hL hj hd'
   · subst hji
     rw[hi]at hj;cases hj
     exact absurd hd (hD.good.self _ _ _ hi hd')
   · have hR:=hD.good.anti i j o o' d hi hj hd' hd hji
     have uniq:∀(j':Nat) (o2:Oper),ops.toList[j']?=some o2->o2.dst=some d->j'=j:=fun j' o2 h2 hd2=>hD.good.dst j' j o2 o' d h2 hj hd2 hd'
     rw[chain_none hD.chain i (by omega) (fun j' o2 hlt2 h2 hd2=>by have:=uniq j' o2 h2 hd2;omega)]
     refine hC.old d (fun j' o2 hL2 h2 hd2=>?_)
     have:=uniq j' o2 h2 hd2
     subst this
     exact hn (hC.closed.reach hR hL2)
 · rw[chain_none hD.chain i (by omega) (fun j' o2 _ h2 hd2=>hw ⟨j',o2,h2,hd2⟩)]
   exact hC.old d (fun j' o2 _ h2 hd2=>hw ⟨j',o2,h2,hd2⟩)
theorem Core.glob (hC:Core E ops s nt ρ0 w0 L m ρ a w):∀g,g<E.ng->∃z,ρ g=some ⟨g,0,z,0⟩:=fun g hg=>
 let ⟨z,hz⟩:=hC.hr.glob g hg
 ⟨z,cut_le _ _ _ _ hz⟩
theorem Core.eval {fr:Frame} (hD:Drw E ex ops s nt) (hC:Core E ops s nt ρ0 w0 L m ρ fr.tmps w) {i:Nat} {o:Oper} (hi:ops.toList[i]?=some o) (hn:¬L i) (hdep:∀e ∈ o.after.toList,Region.binds .any e=true->L e.on) {x:Operand} (hx:x ∈ o.op.operands):
 VR ρ (fr.eval x) (evA (s i).t x):=by
 have hok:=okXs_mem (okOps_mem hD.oks o (List.mem_of_getElem? hi)).2 x (by simpa using hx)
 cases x with
 | tmp d=>exact hC.slot hD hi hn hdep (looks_op hx)
 | const v=>exact VR.of_free ρ v hok
 | global g=>
   obtain⟨z,hz⟩:=hC.glob g (by simpa[okX,Nat.blt_eq] using hok)
   exact .ptr (o:=0) (p:=⟨g,0,z,0⟩) hz
 | func f=>exact .func [] [] [] [] (.func f) rfl (by simp) rfl (by simp)
theorem wanted_eq' {a:Array Value} {t:Tr Value} {o:Oper} (h:∀d,d ∈ looks ops o->VR ρ (a.getD d undef) (t.get Undef d)):Region.wanted o (yielded ops a)=wantedA ops t o.guard:=by
 unfold Region.wanted
 cases hg:o.guard with
 | none=>rfl
 | some x=>
   obtain⟨j,b⟩:=x
   show(yielded ops a j == some b)=wantedAt t (guardOf ops j) b
   cases hgo:guardOf ops j with
   | none=>
     unfold yielded
     unfold guardOf at hgo
     cases hj:ops[j]? with
     | none=>simp[wantedAt]
     | some p=>
       rw[hj]at hgo
       simp only at hgo
       simp[hgo,wantedAt]
   | some d=>
     have hr:=h d (looks_guard hg hgo)
     unfold guardOf at hgo
     unfold yielded
     cases hj:ops[j]? with
     | none=>rw[hj]at hgo;cases hgo
     | some p=>
       rw[hj]at hgo
       simp only at hgo
       simp only[Option.bind_some,hgo,wantedAt]
       rw[Array.getD_eq_getD_getElem?]at hr
       cases hv:a[d]? with
       | none=>
         rw[hv]at hr
         simp only[Option.getD_none]at hr
         generalize t.get Undef d=y at hr
         cases hr
         rfl
       | some v=>
         rw[hv]at hr
         simp only[Option.getD_some]at hr
         generalize t.get Undef d=y at hr
         cases hr<;>first
          | rfl
          | (rename_i c;cases c<;>cases b<;>rfl)
theorem putA_ne {a:Array Value} {dst:Option Tmp} {v:Value} {d:Tmp} (h:dst≠some d):(putA a dst v).getD d undef=a.getD d undef:=by
 cases dst with
 | none=>rfl
 | some x=>
   have:x≠d:=fun e=>h (by rw[e])
   simp only[putA,Array.getD_eq_getD_getElem?,Array.getElem?_setIfInBounds_ne this]
theorem putA_eq {a:Array Value} {dst:Option Tmp} {v:Value} {d:Tmp} (h:dst=some d) (hd:d<a.size):(putA a dst v).getD d undef=v:=by
 subst h
 simp only[putA,Array.getD_eq_getD_getElem?]
 simp[hd]
theorem putA_size {a:Array Value} {dst:Option Tmp} {v:Value}:(putA a dst v).size=a.size:=by
 cases dst<;>simp[putA]
def more (L:Nat->Prop) (i:Nat):Nat->Prop:=fun j=>L j\/j=i
theorem more_closed {l:List Oper} (hL:Closed l L) {i:Nat} {o:Oper} (hi:l[i]?=some o) (hdep:∀e ∈ o.after.toList,Region.binds .any e=true->L e.on):Closed l (more L i):=by
 intro j o' hj ho' e he hb
 rcases hj with hj|rfl
 · exact .inl (hL j o' hj ho' e he hb)
 · rw[hi]at ho';cases ho';exact .inl (hdep e he hb)
theorem Core.done' (hD:Drw E ex ops s nt) (hC:Core E ops s nt ρ0 w0 L m ρ a w) {i:Nat} {o:Oper} (hi:ops.toList[i]?=some o) {v:Value} (hle:ρ.le ρ') (hv:VR ρ' v (s i).v):
 ∀(j:Nat) (o':Oper) (d:Tmp),more L i j->ops.toList[j]?=some o'->o'.dst=some d->VR ρ' ((putA a o.dst v).getD d undef) (s j).v:=by
 intro j o' d hj ho' hd
 by_cases e:j=i
 · subst e
   rw[hi]at ho';cases ho'
   rw[putA_eq hd (by rw[hC.size];exact hD.dst_lt hi hd)]
   exact hv
 · have hL:L j:=hj.resolve_right e
   rw[putA_ne (fun e'=>e (hD.good.dst j i o' o d ho' hi hd e'))]
   exact(hC.done j o' d hL ho' hd).mono hle
theorem Core.old' (hC:Core E ops s nt ρ0 w0 L m ρ a w) {i:Nat} {o:Oper} (hi:ops.toList[i]?=some o) {v:Value} (hle:ρ.le ρ'):
 ∀d,(∀(j:Nat) (o':Oper),more L i j->ops.toList[j]?=some o'->o'.dst≠some d)->VR ρ' ((putA a o.dst v).getD d undef) ((s 0).t.get Undef d):=by
 intro d hd
 rw[putA_ne (hd i o (.inr rfl) hi)]
 exact(hC.old d (fun j o' hL=>hd j o' (.inl hL))).mono hle
theorem Ext.grow {w1:World} (h:Ext ρ H w ρ' H' w') (hs:w'.heap.size<=w1.heap.size) (hw:∀c,c<w'.heap.size->w1.heap[c]?=w'.heap[c]?) (ht:w1.tape=w'.tape) (ho:w1.os=w'.os) (hu:w1.output=w'.output):Ext ρ H w ρ' H' w1:=
 { le:=h.le,size:=Nat.le_trans h.size hs,keep:=fun c hc hn=>(hw c (Nat.lt_of_lt_of_le hc h.size)).trans (h.keep c hc hn),range:=h.range,dom:=h.dom,next:=h.next,tape:=ht.trans h.tape,os:=ho.trans h.os,output:=hu.trans h.output,same:=h.same.trans (Shape.of_grow hw) }
theorem Core.quiet (hD:Drw E ex ops s nt) (hC:Core E ops s nt ρ0 w0 L m ρ a w) {i:Nat} {o:Oper} (hi:ops.toList[i]?=some o) (hdep:∀e ∈ o.after.toList,Region.binds .any e=true->L e.on) {v:Value}
 (hk:wantedA ops (s i).t o.guard=true->kindOf E.tt o.op≠2) (hv:VR ρ v (s i).v) (hs:w.heap.size<=w'.heap.size) (hw:∀c,c<w.heap.size->w'.heap[c]?=w.heap[c]?) (ht:w'.tape=w.tape) (ho:w'.os=w.os) (hu:w'.output=w.output):
 Core E ops s nt ρ0 w0 (more L i) m ρ (putA a o.dst v) w':=by
 have hp:∀j,Pend E ops s (more L i) m j->Pend E ops s L m j:=by
  rintro j ⟨h1,h2,o',h3,h4,h5⟩
  rcases h2 with h2|rfl
  · exact⟨h1,h2,o',h3,h4,h5⟩
  · rw[hi]at h3;cases h3;exact absurd h4 (hk h5)
 have hq:∀j,Pend E ops s L m j->Pend E ops s (more L i) m j:=fun j ⟨h1,h2,h3⟩=>⟨h1,.inl h2,h3⟩
 refine⟨?_,more_closed hC.closed hi hdep,hC.le,hC.hr.grow hw,?_,?_,?_,?_,hC.done' hD hi ρ.le_refl hv,hC.old' hi ρ.le_refl,hC.ext.grow hs hw ht ho hu⟩
 · rintro j (hj|rfl)
   · exact hC.lt j hj
   · simpa using(List.getElem?_eq_some_iff.1 hi).1
 · intro b p hb
   rcases hC.dom b p hb with h|⟨j,h,e⟩
   · exact .inl h
   · exact .inr ⟨j,hq j h,e⟩
 · intro j hj
   obtain⟨p,cs,h1,h2,h3,h4,h5,h6,h7⟩:=hC.pend j (hp j hj)
   exact⟨p,cs,h1,h2,h3,h4.mono (Rho.le_refl _) (hw _ h7),h5,h6,Nat.lt_of_lt_of_le h7 hs⟩
 · intro j j' p p' h1 h2
   exact hC.inj j j' p p' (hp j h1) (hp j' h2)
 · rw[putA_size];exact hC.size
end
end Ex
namespace Ex
open Go
variable {E:Env} {ρ ρ':Rho} {H H':Heap} {w w':World} {ex:Ex}
variable {ops:Array Oper} {s:Nat->St} {nt:Nat} {ρ0:Rho} {w0:World} {L:Nat->Prop} {m:Nat} {a:Array Value}
theorem Core.pend_next (hC:Core E ops s nt ρ0 w0 L m ρ a w) {j:Nat} (hj:Pend E ops s L m j):(s (j+1)).H.next=(s j).H.next+1:=by
 obtain⟨p,cs,_,_,h3,_⟩:=hC.pend j hj
 rw[h3];exact Heap.next_add _ _
theorem Core.start (hD:Drw E ex ops s nt) (hC:Core E ops s nt ρ0 w0 L m ρ a w):(s 0).H.next<=(s m).H.next:=hD.mono (Nat.zero_le _) hC.le
theorem Core.pass (hC:Core E ops s nt ρ0 w0 L m ρ a w) (hm:m<ops.size) (hH:(s (m+1)).H=(s m).H) (hp:¬Pend E ops s L m m):Core E ops s nt ρ0 w0 L (m+1) ρ a w:=by
 have hP:∀j,Pend E ops s L (m+1) j->Pend E ops s L m j:=fun j ⟨h1,h2,h3⟩=>⟨by omega,h2,h3⟩
 have hQ:∀j,Pend E ops s L m j->Pend E ops s L (m+1) j:=fun j ⟨h1,h2,h3⟩=>by
  refine⟨?_,h2,h3⟩
  rcases Nat.lt_or_ge m j with h|h
  · exact h
  · have:j=m:=by omega
    subst this;exact absurd ⟨h1,h2,h3⟩ hp
 refine⟨hC.lt,hC.closed,hm,by rw[hH];exact hC.hr,?_,?_,?_,hC.size,hC.done,hC.old,by rw[hH];exact hC.ext⟩
 · intro b p hb
   rw[hH]
   exact(hC.dom b p hb).imp id (fun⟨j,h,e⟩=>⟨j,hQ j h,e⟩)
 · intro j hj
   rw[hH]
   exact hC.pend j (hP j hj)
 · intro j j' p p' h1 h2
   exact hC.inj j j' p p' (hP j h1) (hP j' h2)
theorem Core.take (hD:Drw E ex ops s nt) (hC:Core E ops s nt ρ0 w0 L m ρ a w) (hm:m<ops.size) (hp:Pend E ops s L m m):Core E ops s nt ρ0 w0 L (m+1) ρ a w:=by
 have hP:∀j,Pend E ops s L (m+1) j->Pend E ops s L m j:=fun j ⟨h1,h2,h3⟩=>⟨by omega,h2,h3⟩
 have hQ:∀j,Pend E ops s L m j->j=m\/Pend E ops s L (m+1) j:=fun j ⟨h1,h2,h3⟩=>by
  rcases Nat.lt_or_ge m j with h|h
  · exact .inr ⟨h,h2,h3⟩
  · exact .inl (by omega)
 obtain⟨p,cs,h1,h2,h3,h4,h5,h6,h7⟩:=hC.pend m hp
 have hn:=hC.pend_next hp
 have hcut:(cut ρ (s m).H.next).put (s m).H.next p=cut ρ (s (m+1)).H.next:=by
  funext b
  rw[hn]
  by_cases e:b=(s m).H.next
  · subst e;rw[Rho.put_same];simp[cut,h1]
  · rw[Rho.put_ne _ _ e]
    unfold cut
    by_cases hlt:b<(s m).H.next
    · rw[if_pos hlt,if_pos (by omega)]
    · rw[if_neg hlt,if_neg (by omega)]
 have hadd:=hC.hr.addObj (w':=w) (p:=p) (o:=.cells cs 0) h5 (fun _ _=>rfl) ⟨p,Rho.put_same _ _ _,h2,by rw[hcut,hn];exact h4⟩
 rw[hcut]at hadd
 have hH:(s m).H.add (.cells cs 0)=(s (m+1)).H:=h3.symm
 rw[hH]at hadd
 have held:∀c,Held (cut ρ (s (m+1)).H.next) (s (m+1)).H c->c=p.c\/Held (cut ρ (s m).H.next) (s m).H c:=fun c hc=>by
  rw[<-hcut,<-hH]at hc
  exact Held.add hc
 refine⟨hC.lt,hC.closed,hm,hadd,?_,?_,?_,hC.size,hC.done,hC.old,?_⟩
 · intro b q hb
   rcases hC.dom b q hb with h|⟨j,h,e⟩
   · exact .inl (by omega)
   · rcases hQ j h with rfl|h
     · exact .inl (by omega)
     · exact .inr ⟨j,h,e⟩
 · intro j hj
   obtain⟨q,cs',g1,g2,g3,g4,g5,g6,g7⟩:=hC.pend j (hP j hj)
   refine⟨q,cs',g1,g2,g3,g4,fun hh=>?_,g6,g7⟩
   rcases held _ hh with e|e
   · have:=hC.inj j m q p (hP j hj) hp g1 h1 e
     have:=hj.1
     omega
   · exact g5 e
 · intro j j' q q' k1 k2
   exact hC.inj j j' q q' (hP j k1) (hP j' k2)
 · have hext:=hC.ext
   exact { le:=Rho.le_trans hext.le (cut_mono (by omega)),size:=hext.size,keep:=hext.keep,
           range:=fun c hc=>(held c hc).elim (fun e=>.inl (by rw[e];exact h6)) (hext.range c),
           dom:=fun b q hq=>by
            have hs:=hC.start hD
            by_cases hlt:b<(s m).H.next
            · refine hext.dom b q ?_
              rw[cut_lt hlt]
              exact cut_le _ _ _ _ hq
            · exact .inr (by omega)
           next:=by have:=hext.next;omega,tape:=hext.tape,os:=hext.os,output:=hext.output,same:=hext.same }
theorem Core.absorb (hD:Drw E ex ops s nt) {i:Nat} (hi:i<=ops.size):∀(k m:Nat),m+k=i->Core E ops s nt ρ0 w0 L m ρ a w ->
 (∀(j:Nat) (o:Oper),m<=j->j<i->ops.toList[j]?=some o->wantedA ops (s j).t o.guard=true->kindOf E.tt o.op<=2/\(kindOf E.tt o.op=2->L j))->Core E ops s nt ρ0 w0 L i ρ a w
 | 0,m,hm,hC,_=>by simp at hm;subst hm;exact hC
 | k+1,m,hm,hC,hall=>by
   have hlt:m<ops.size:=by omega
   obtain⟨o,ho⟩:∃o,ops.toList[m]?=some o:=⟨_,List.getElem?_eq_getElem (by simpa using hlt)⟩
   refine Core.absorb hD hi k (m+1) (by omega) ?_ (fun j o' h1 h2=>hall j o' (by omega) h2)
   cases hw:wantedA ops (s m).t o.guard with
   | false=>exact hC.pass hlt (hD.chain.skip m o ho hw).2.2 (fun⟨_,_,o',h3,_,h5⟩=>by rw[ho]at h3;cases h3;rw[hw]at h5;cases h5)
   | true=>
     obtain⟨hk,hk2⟩:=hall m o (Nat.le_refl _) (by omega) ho hw
     have hop:=(hD.chain.op m o ho hw).1
     rcases Nat.lt_or_ge (kindOf E.tt o.op) 2 with h2|h2
     · have hH:(s (m+1)).H=(s m).H:=by
        rcases(show kindOf E.tt o.op=0\/kindOf E.tt o.op=1 by omega) with h|h
        · exact(kind0 h hop).1
        · exact(kind1 h hop).1
       exact hC.pass hlt hH (fun⟨_,_,o',h3,h4,_⟩=>by rw[ho]at h3;cases h3;omega)
     · have h2:kindOf E.tt o.op=2:=by omega
       exact hC.take hD hlt ⟨Nat.le_refl _,hk2 h2,o,ho,h2,hw⟩
theorem bare_next (n:Nat):(bare n).next=n:=rfl
theorem Core.make (hD:Drw E ex ops s nt) (hC:Core E ops s nt ρ0 w0 L m ρ a w) {i:Nat} {o:Oper} (hi:ops.toList[i]?=some o) (hn:¬L i) (hmi:m<=i) (hdep:∀e ∈ o.after.toList,Region.binds .any e=true->L e.on) {v:Value} {cs:List Value}
 (hk:kindOf E.tt o.op=2) (hw:wantedA ops (s i).t o.guard=true) (hH:(s (i+1)).H=newRowA (s i).H cs 0) {ρ2:Rho} (hv:VR ρ2 v (s i).v) (hr:HR E.ng ρ2 (newRowA (bare (s i).H.next) cs 0) w')
 (he:Ext (cut ρ (s i).H.next) (bare (s i).H.next) w ρ2 (newRowA (bare (s i).H.next) cs 0) w'):
 ∃ρ',ρ.le ρ'/\Core E ops s nt ρ0 w0 (more L i) m ρ' (putA a o.dst v) w':=by
 have hlt:i<ops.size:=by simpa using(List.getElem?_eq_some_iff.1 hi).1
 have hobj:=hr.obj (s i).H.next
 rw[show(newRowA (bare (s i).H.next) cs 0).get (s i).H.next=.cells cs 0 from bare_add_get _ _]at hobj
 obtain⟨p,hp,hpk,hcells⟩:=hobj
 have hmono:=hD.mono hmi (Nat.le_of_lt hlt)
 have hne:∀j,Pend E ops s L m j → (s j).H.next≠(s i).H.next:=fun j hj e=>by
  have hji:j≠i:=fun e'=>hn (e'▸hj.2.1)
  have hjn:=hC.pend_next hj
  have hjl:=hC.lt j hj.2.1
  rcases Nat.lt_or_ge j i with h|h
  · have:=hD.mono (i:=j+1) (j:=i) (by omega) (by omega);omega
  · have h1:=hD.mono (i:=i+1) (j:=j) (by omega) (by omega)
    have:(s (i+1)).H.next=(s i).H.next+1:=by rw[hH];exact Heap.next_add _ _
    omega
 have hnone:ρ (s i).H.next=none:=by
  cases hq:ρ (s i).H.next with
  | none=>rfl
  | some q=>
    rcases hC.dom _ q hq with h|⟨j,h,e⟩
    · omega
    · exact absurd e.symm (hne j h)
 have hle:ρ.le (ρ.put (s i).H.next p):=Rho.le_put hnone
 have hcut:ρ2=cut (ρ.put (s i).H.next p) ((s i).H.next+1):=by
  funext b
  unfold cut
  by_cases hb:b<(s i).H.next+1
  · rw[if_pos hb]
    by_cases e:b=(s i).H.next
    · subst e;rw[Rho.put_same];exact hp
    · rw[Rho.put_ne _ _ e]
      have hb':b<(s i).H.next:=by omega
      cases hq:ρ b with
      | some q=>exact he.le b q (by rw[cut_lt hb'];exact hq)
      | none=>
        cases hq2:ρ2 b with
        | none=>rfl
        | some q2=>
          rcases he.dom b q2 hq2 with h|h
          · rw[cut_lt hb',hq]at h;cases h
          · rw[bare_next]at h;omega
  · rw[if_neg hb]
    exact hr.fresh b (by rw[show(newRowA (bare (s i).H.next) cs 0).next=(s i).H.next+1 from Heap.next_add _ _];omega)
 have hcutm:cut (ρ.put (s i).H.next p) (s m).H.next=cut ρ (s m).H.next:=by
  funext b
  unfold cut
  by_cases hb:b<(s m).H.next
  · rw[if_pos hb,if_pos hb,Rho.put_ne _ _ (by omega)]
  · rw[if_neg hb,if_neg hb]
 have halive:(newRowA (bare (s i).H.next) cs 0).get (s i).H.next≠.none:=by
  rw[show(newRowA (bare (s i).H.next) cs 0).get (s i).H.next=.cells cs 0 from bare_add_get _ _];intro e;cases e
 have hpc:w.heap.size<=p.c:=(he.range p.c ⟨_,p,halive,hp,rfl⟩).resolve_right bare_held
 have hkeep:∀c,c<w.heap.size->w'.heap[c]?=w.heap[c]?:=fun c hc=>he.keep c hc bare_held
 have hQ:∀j,Pend E ops s (more L i) m j->j=i\/Pend E ops s L m j:=by
  rintro j ⟨h1,h2,h3⟩
  rcases h2 with h2|rfl
  · exact .inr ⟨h1,h2,h3⟩
  · exact .inl rfl
 have hP:∀j,Pend E ops s L m j->Pend E ops s (more L i) m j:=fun j ⟨h1,h2,h3⟩=>⟨h1,.inl h2,h3⟩
 have hle2:ρ2.le (ρ.put (s i).H.next p):=by rw[hcut];exact cut_le _ _
 refine⟨ρ.put (s i).H.next p,hle,?_,more_closed hC.closed hi hdep,hC.le,?_,?_,?_,?_,by rw[putA_size];exact hC.size,hC.done' hD hi hle (hv.mono hle2),hC.old' hi hle,?_⟩
 · rintro j (hj|rfl)
   · exact hC.lt j hj
   · exact hlt
 · rw[hcutm];exact hC.hr.grow hkeep
 · intro b q hb
   by_cases e:b=(s i).H.next
   · exact .inr ⟨i,⟨hmi,.inr rfl,o,hi,hk,hw⟩,e⟩
   · rw[Rho.put_ne _ _ e]at hb
     exact(hC.dom b q hb).imp id (fun⟨j,h,e⟩=>⟨j,hP j h,e⟩)
 · intro j hj
   rw[hcutm]
   rcases hQ j hj with rfl|hj
   · refine⟨p,cs,Rho.put_same _ _ _,hpk,hH,by rw[<-hcut];exact hcells,fun hh=>?_,Nat.le_trans hC.ext.size hpc,hr.lt halive hp⟩
     have:=Held.lt hC.hr hh
     omega
   · obtain⟨q,cs',g1,g2,g3,g4,g5,g6,g7⟩:=hC.pend j hj
     refine⟨q,cs',hle _ _ g1,g2,g3,g4.mono ?_ (hkeep _ g7),g5,g6,Nat.lt_of_lt_of_le g7 he.size⟩
     intro b x hx
     unfold cut at hx ⊢
     split at hx
     · rename_i hb;rw[if_pos hb];exact hle _ _ hx
     · cases hx
 · intro j j' q q' k1 k2 e1 e2 ec
   rcases hQ j k1 with rfl|k3<;>rcases hQ j' k2 with rfl|k4
   · rfl
   · rw[Rho.put_same]at e1;cases e1
     obtain⟨q2,_,g1,_,_,_,_,_,g7⟩:=hC.pend j' k4
     rw[hle _ _ g1]at e2;cases e2
     omega
   · rw[Rho.put_same]at e2;cases e2
     obtain⟨q2,_,g1,_,_,_,_,_,g7⟩:=hC.pend j k3
     rw[hle _ _ g1]at e1;cases e1
     omega
   · obtain⟨q2,_,g1,_⟩:=hC.pend j k3
     obtain⟨q3,_,g2,_⟩:=hC.pend j' k4
     rw[hle _ _ g1]at e1;cases e1
     rw[hle _ _ g2]at e2;cases e2
     exact hC.inj j j' _ _ k3 k4 g1 g2 ec
 · rw[hcutm]
   exact hC.ext.grow he.size hkeep he.tape he.os he.output
theorem Core.act (hD:Drw E ex ops s nt) {i:Nat} (hC:Core E ops s nt ρ0 w0 L i ρ a w) {o:Oper} (hi:ops.toList[i]?=some o) (hdep:∀e ∈ o.after.toList,Region.binds .any e=true->L e.on) {v:Value}
 (hk:kindOf E.tt o.op≠2) {ρ2:Rho} (hv:VR ρ2 v (s i).v) (hr:HR E.ng ρ2 (s (i+1)).H w') (he:Ext (cut ρ (s i).H.next) (s i).H w ρ2 (s (i+1)).H w'):
 ∃ρ',ρ.le ρ'/\Core E ops s nt ρ0 w0 (more L i) (i+1) ρ' (putA a o.dst v) w':=by
 have hlt:i<ops.size:=by simpa using(List.getElem?_eq_some_iff.1 hi).1
 have hQ:∀j,Pend E ops s (more L i) (i+1) j->Pend E ops s L i j/\i<j:=by
  rintro j ⟨h1,h2,h3⟩
  rcases h2 with h2|rfl
  · exact⟨⟨by omega,h2,h3⟩,by omega⟩
  · omega
 have hQ':∀j,Pend E ops s L i j->Pend E ops s (more L i) (i+1) j:=by
  rintro j ⟨h1,h2,o',h3,h4,h5⟩
  refine⟨?_,.inl h2,o',h3,h4,h5⟩
  rcases Nat.lt_or_ge i j with h|h
  · exact h
  · have:j=i:=by omega
    subst this;rw[hi]at h3;cases h3;exact absurd h4 hk
 have habove:∀j,Pend E ops s L i j → (s (i+1)).H.next<=(s j).H.next:=fun j hj=>hD.mono (hQ' j hj).1 (Nat.le_of_lt (hC.lt j hj.2.1))
 let ρ':Rho:=fun b=>if b<(s (i+1)).H.next then ρ2 b else ρ b
 have hcut:cut ρ' (s (i+1)).H.next=ρ2:=by
  funext b
  unfold cut
  by_cases hb:b<(s (i+1)).H.next
  · rw[if_pos hb];show(if _ then _ else _)=_;rw[if_pos hb]
  · rw[if_neg hb];exact(hr.fresh b (by omega)).symm
 have hle:ρ.le ρ':=fun b q hq=>by
  show(if _ then _ else _)=_
  by_cases hb:b<(s (i+1)).H.next
  · rw[if_pos hb]
    rcases hC.dom b q hq with h|⟨j,h,e⟩
    · exact he.le b q (by rw[cut_lt h];exact hq)
    · have:=habove j h;omega
  · rw[if_neg hb];exact hq
 have hle2:ρ2.le ρ':=by rw[<-hcut];exact cut_le _ _
 refine⟨ρ',hle,?_,more_closed hC.closed hi hdep,hlt,by rw[hcut];exact hr,?_,?_,?_,by rw[putA_size];exact hC.size,hC.done' hD hi hle (hv.mono hle2),hC.old' hi hle,by rw[hcut];exact hC.ext.trans he⟩
 · rintro j (hj|rfl)
   · exact hC.lt j hj
   · exact hlt
 · intro b q hb
   rcases Nat.lt_or_ge b (s (i+1)).H.next with h|h
   · exact .inl h
   · have hb:(if b<(s (i+1)).H.next then ρ2 b else ρ b)=some q:=hb
     rw[if_neg (by omega)]at hb
     rcases hC.dom b q hb with h'|⟨j,h',e⟩
     · have:=hD.next i hlt;omega
     · exact .inr ⟨j,hQ' j h',e⟩
 · intro j hj
   obtain⟨hj',hij⟩:=hQ j hj
   obtain⟨p,cs,g1,g2,g3,g4,g5,g6,g7⟩:=hC.pend j hj'
   refine⟨p,cs,hle _ _ g1,g2,g3,g4.mono ?_ (he.keep _ g7 g5),?_,g6,Nat.lt_of_lt_of_le g7 he.size⟩
   · intro b x hx
     unfold cut at hx ⊢
     split at hx
     · rename_i hb;rw[if_pos hb];exact hle _ _ hx
     · cases hx
   · rw[hcut]
     intro hh
     rcases he.range _ hh with h|h
     · omega
     · exact g5 h
 · intro j j' q q' k1 k2 e1 e2 ec
   obtain⟨k1,_⟩:=hQ j k1
   obtain⟨k2,_⟩:=hQ j' k2
   obtain⟨q2,_,g1,_⟩:=hC.pend j k1
   obtain⟨q3,_,g2,_⟩:=hC.pend j' k2
   rw[hle _ _ g1]at e1;cases e1
   rw[hle _ _ g2]at e2;cases e2
   exact hC.inj j j' _ _ k1 k2 g1 g2 ec
end Ex
namespace Ex
open Go
variable {E:Env} {ρ ρ':Rho} {H H':Heap} {w w':World} {ex:Ex}
theorem read_go (hG:EnvGood E) (h:HR E.ng ρ H w) {ev:Operand->Value} {t:Tr Value} {o:Oper} {v':Value} (hev:∀x ∈ o.op.operands,VR ρ (ev x) (evA t x)) (hk:kindOf E.tt o.op=1)
 (hc:opA E ex H t o=.ok v' H'):∃v,(execOp ev o).run E.P w=.ok (.value v) w/\VR ρ v v':=by
 have hE:=hG.toEnvOk
 obtain⟨dst,op,type,pos,after,guard⟩:=o
 cases op<;>simp only[kindOf]at hk<;>try (cases hk;done)
 case load ty a=>
  simp only[Op.operands]at hev
  obtain⟨h1,rfl⟩:=oval_inv (show oval H (loadV E.tt H ty (evA t a))=.ok v' H' from hc)
  have ha:=hev a (by simp)
  unfold loadV at h1
  split at h1
  · rename_i x hx
    obtain⟨b,o,s⟩:=x
    rw[hx]at ha
    obtain⟨p,hp2,hpe⟩:=ptr_inv ha
    obtain⟨v,g1,g2⟩:=load_sound hE h hp2 (show load1 _ b o (shapeA E.tt ty)=some v' from h1)
    refine⟨v,run_v (s:=Instr.loadAt ty (ev a)) ?_,g2⟩
    rw[hpe]
    simp only[Instr.loadAt,Instr.sureAddr,Sem.run_bind,Sem.run_pure,Result.andThen]
    exact g1
  · cases h1
 case slice ty x lo hi mx=>
  simp only[Op.operands]at hev
  obtain⟨h1,rfl⟩:=oval_inv (show oval H (sliceA E.tt H ty (evA t x) (evO t lo) (evO t hi) (evO t mx))=.ok v' H' from hc)
  obtain⟨v,g1,g2⟩:=slice_sound hE h (hev x (by simp)) (evO_rel (fun y hy=>hev y (by subst hy;simp))) (evO_rel (fun y hy=>hev y (by subst hy;simp))) (evO_rel (fun y hy=>hev y (by subst hy;simp))) h1
  exact⟨v,run_v g1,g2⟩
 case lookup ty x k ok=>
  simp only[Op.operands]at hev
  obtain⟨h1,rfl⟩:=oval_inv (show oval H (lookupA E.P E.tt H (evA t x) (evA t k) ok (mapD (E.tt.und ty)))=.ok v' H' from hc)
  obtain⟨v,g1,g2⟩:=lookup_sound hE h (hev x (by simp)) (hev k (by simp)) h1
  exact⟨v,run_v g1,g2⟩
 case convert s d x=>split at hk<;>cases hk
 case call c=>
  obtain⟨callee,args,argTypes⟩:=c
  cases callee with
  | value g=>cases hk
  | invoke r m=>cases hk
  | builtin b=>
    cases b<;>simp only at hk<;>try (cases hk;done)
    case len=>
     have hc:(match evs t args.toList with | [x]=>(match argTypes.toList with|ty :: _=>oval H (lenM H (E.tt.und ty) x)|_=>.bad)|_=>.bad)=Out.ok v' H':=hc
     have hargs:=evs_rel (l:=args.toList) (ρ:=ρ) (ev:=ev) (t:=t) (fun x hx=>hev x (by simp[Op.operands,Call.operands]at hx ⊢;exact hx))
     have e1:args.map ev=⟨args.toList.map ev⟩:=by apply Array.ext';simp
     split at hc
     · rename_i x' he
       split at hc
       · rename_i ty tl hts
         rw[he]at hargs
         obtain⟨x,l,e,hx,hl⟩:=hargs.cons_inv
         have:=hl.nil_inv
         subst this
         have ea:args.map ev=#[x]:=by rw[e1,e]
         obtain⟨h1,rfl⟩:=oval_inv hc
         simp only[lenKind,hts]at hk
         unfold lenM at h1
         split at h1
         · rename_i kt et hd
           obtain⟨g1,g2⟩:=mapLen_sound hE h (ty:=type) (head_of hts) hd hx h1
           refine⟨v',?_,VR.of_free ρ _ g2⟩
           show(do pure (Next.value (<-Builtin.len_ argTypes type (args.map ev))):Sem Next).run E.P w=_
           rw[ea];exact run_v g1
         · rename_i hne
           split at hk
           · rename_i kt et hd;exact absurd hd (hne kt et)
           · cases hk
       · cases hc
     · cases hc
theorem kindOf_le (T:Ts) (op:Op):kindOf T op<=3:=by
 cases op<;>simp only[kindOf]<;>try omega
 · split<;>omega
 · split<;>first|omega|skip
   unfold lenKind
   split
   · split<;>omega
   · omega
end Ex
namespace Ex
open Go
variable {E:Env} {ρ ρ':Rho} {H H':Heap} {w w':World} {ex:Ex}
variable {ops:Array Oper} {s:Nat->St} {nt:Nat} {ρ0:Rho} {w0:World} {L:Nat->Prop} {m:Nat}
def Stg (E:Env) (ops:Array Oper) (L:Nat->Prop) (m:Nat):Prop:=
 (m=0\/∃(p:Nat) (o:Oper),m=p+1/\L p/\ops.toList[p]?=some o/\kindOf E.tt o.op=3)/\∀(q:Nat) (o:Oper),L q->ops.toList[q]?=some o->kindOf E.tt o.op=3->q<m
theorem Stg.keep (h:Stg E ops L m) {i:Nat} {o:Oper} (hi:ops.toList[i]?=some o) (hk:kindOf E.tt o.op≠3):Stg E ops (more L i) m:=by
 refine⟨h.1.imp id (fun⟨p,o',a,b,c⟩=>⟨p,o',a,.inl b,c⟩),fun q o' hq ho' hk'=>?_⟩
 rcases hq with hq|rfl
 · exact h.2 q o' hq ho' hk'
 · rw[hi]at ho';cases ho';exact absurd hk' hk
theorem Stg.le (hD:Drw E ex ops s nt) (hcl:Closed ops.toList L) (h:Stg E ops L m) {i:Nat} {o:Oper} (hi:ops.toList[i]?=some o) (hn:¬L i) (hk:2<=kindOf E.tt o.op):m<=i:=by
 rcases h.1 with rfl|⟨p,o',rfl,h1,h2,h3⟩
 · exact Nat.zero_le _
 · rcases Nat.lt_trichotomy p i with hp|hp|hp
   · exact hp
   · subst hp;exact absurd h1 hn
   · exact absurd (hcl.reach (hD.good.act i p o o' hi h2 h3 hk hp) h1) hn
theorem Core.upTo (hD:Drw E ex ops s nt) {a:Array Value} (hC:Core E ops s nt ρ0 w0 L m ρ a w) (hS:Stg E ops L m) {i:Nat} {o:Oper} (hi:ops.toList[i]?=some o) (hn:¬L i) (hdep:∀e ∈ o.after.toList,Region.binds .any e=true->L e.on) (hk:kindOf E.tt o.op=3):
 Core E ops s nt ρ0 w0 L i ρ a w:=by
 have hlt:i<ops.size:=by simpa using(List.getElem?_eq_some_iff.1 hi).1
 have hmi:=hS.le hD hC.closed hi hn (by omega)
 have hdep':∀o',ops.toList[i]?=some o'->∀e ∈ o'.after.toList,Region.binds .any e=true->L e.on:=fun o' ho'=>by rw[hi]at ho';cases ho';exact hdep
 refine Core.absorb hD (Nat.le_of_lt hlt) (i-m) m (by omega) hC (fun j oj h1 h2 hj hw=>?_)
 have hL:2<=kindOf E.tt oj.op->L j:=fun h=>(hD.good.act j i oj o hj hi hk h h2).mem hC.closed hdep'
 have h3:=kindOf_le E.tt oj.op
 refine⟨?_,fun h=>hL (by omega)⟩
 rcases Nat.lt_or_ge (kindOf E.tt oj.op) 3 with h|h
 · omega
 · have:=hS.2 j oj (hL (by omega)) hj (by omega);omega
theorem draw_step (hG:EnvGood E) (hex:SoundEx E ex) (hD:Drw E ex ops s nt) {fr:Frame} {cs:List Frame} (hC:Core E ops s nt ρ0 w0 L m ρ fr.tmps w) (hS:Stg E ops L m) {i:Nat} {rest:List Nat} {k':List Item}
 (ht:fr.todo=.inRegion ops (i :: rest) :: k') (hm:fr.mode=.run) {o:Oper} (hi:ops.toList[i]?=some o) (hn:¬L i) (hdep:∀e ∈ o.after.toList,Region.binds .any e=true->L e.on):
 ∃m' ρ' v w',Steps E.P (lone fr cs w) (lone { fr with tmps:=putA fr.tmps o.dst v,todo:=.inRegion ops rest :: k' } cs w')/\Core E ops s nt ρ0 w0 (more L i) m' ρ' (putA fr.tmps o.dst v) w'/\Stg E ops (more L i) m':=by
 have hlt:i<ops.size:=by simpa using(List.getElem?_eq_some_iff.1 hi).1
 have hi':ops[i]?=some o:=by simpa using hi
 have hwe:=wanted_eq' (ops:=ops) (a:=fr.tmps) (t:=(s i).t) (o:=o) (fun d hd=>hC.slot hD hi hn hdep hd)
 have hev:∀x ∈ o.op.operands,VR ρ (fr.eval x) (evA (s i).t x):=fun x hx=>hC.eval hD hi hn hdep hx
 have hplain:Plain fr:=fun d r s kk e=>by rw[ht]at e;cases e
 cases hw:wantedA ops (s i).t o.guard with
 | false=>
   rw[hw]at hwe
   have hs:=step_skipped (P:=E.P) (w:=w) (cs:=cs) hm ht hi' hwe
   rw[finish_region ht hi']at hs
   obtain⟨c1,c2,c3⟩:=hD.chain.skip i o hi hw
   have hv:VR ρ undef (s i).v:=by rw[c1];exact .undef
   by_cases hk:kindOf E.tt o.op=3
   · have hCi:=hC.upTo hD hS hi hn hdep hk
     have hq:=hCi.quiet hD hi hdep (v:=undef) (w':=w) (fun h=>by rw[hw]at h;cases h) hv (Nat.le_refl _) (fun _ _=>rfl) rfl rfl rfl
     have hq2:=hq.pass hlt c3 (fun⟨_,_,o',h3,_,h5⟩=>by rw[hi]at h3;cases h3;rw[hw]at h5;cases h5)
     refine⟨i+1,ρ,undef,w,.one hs,hq2,.inr ⟨i,o,rfl,.inr rfl,hi,hk⟩,fun q oq hq hoq hkq=>?_⟩
     have hmi:=hS.le hD hC.closed hi hn (by omega)
     rcases hq with hq|rfl
     · have:=hS.2 q oq hq hoq hkq;omega
     · omega
   · exact⟨m,ρ,undef,w,.one hs,hC.quiet hD hi hdep (fun h=>by rw[hw]at h;cases h) hv (Nat.le_refl _) (fun _ _=>rfl) rfl rfl rfl,hS.keep hi hk⟩
 | true=>
   rw[hw]at hwe
   obtain⟨c1,c2⟩:=hD.chain.op i o hi hw
   have hstep:=step_oper (P:=E.P) (w:=w) (cs:=cs) hm ht hi' hwe (opA_no_defer c1)
   have hk3:=kindOf_le E.tt o.op
   rcases(show kindOf E.tt o.op=0\/kindOf E.tt o.op=1\/kindOf E.tt o.op=2\/kindOf E.tt o.op=3 by omega) with hk|hk|hk|hk
   ·
    obtain⟨_,hall⟩:=kind0 hk c1
    have hfresh:∀b,(s ops.size).H.next+1<=b->ρ b=none:=fun b hb=>by
     cases hq:ρ b with
     | none=>rfl
     | some q=>
       have hle:=hD.mono hC.le (Nat.le_refl ops.size)
       rcases hC.dom b q hq with h|⟨j,h,e⟩
       · omega
       · have:=hD.mono (i:=j) (j:=ops.size) (Nat.le_of_lt (hC.lt j h.2.1)) (Nat.le_refl _);omega
    have hr0:HR E.ng ρ (bare ((s ops.size).H.next+1)) w:=bare_HR w hfresh hC.glob
    obtain⟨ρ2,v,w2,g1,g2,g3,g4⟩:=op_go hG hex hr0 (ev:=fr.eval) (fr:=fr) (cs:=cs) hev hplain (hall _)
    have hs:=g1.steps hstep
    rw[finish_region ht hi']at hs
    have hρ:ρ2=ρ:=by
     funext b
     cases hq:ρ b with
     | some q=>exact g4.le b q hq
     | none=>
       cases hq2:ρ2 b with
       | none=>rfl
       | some q2=>
         rcases g4.dom b q2 hq2 with h|h
         · rw[hq]at h;cases h
         · rw[g3.fresh b h]at hq2;cases hq2
    rw[hρ]at g2
    exact⟨m,ρ,v,w2,hs,hC.quiet hD hi hdep (fun _=>by omega) g2 g4.size (fun c hc=>g4.keep c hc bare_held) g4.tape g4.os g4.output,hS.keep hi (by omega)⟩
   ·
    have hst:stageOk E.tt ops.toList (masks ops.toList []) ops.size i m=true:=by
     have hdep':∀o',ops.toList[i]?=some o'->∀e ∈ o'.after.toList,Region.binds .any e=true->L e.on:=fun o' ho'=>by rw[hi]at ho';cases ho';exact hdep
     have kat:∀q,Nat.beq (kindAt E.tt ops.toList q) 3=true->∃oq,ops.toList[q]?=some oq/\kindOf E.tt oq.op=3:=fun q hq=>by
      unfold kindAt at hq
      rw[nth_eq]at hq
      cases ho:ops.toList[q]? with
      | none=>rw[ho]at hq;simp at hq
      | some oq=>rw[ho]at hq;exact⟨oq,rfl,Nat.eq_of_beq_eq_true hq⟩
     rcases hS.1 with h0|⟨p,op',rfl,h1,h2,h3⟩
     · subst h0
       simp only[stageOk,List.all_eq_true,List.mem_range,Bool.not_eq_true',Bool.and_eq_false_iff]
       intro q hq
       cases ha:ahead (masks ops.toList []) q i with
       | false=>exact .inr rfl
       | true=>
         refine .inl ?_
         cases hb:Nat.beq (kindAt E.tt ops.toList q) 3 with
         | false=>rfl
         | true=>
           obtain⟨oq,e1,e2⟩:=kat q hb
           have:=hS.2 q oq ((ahead_reach ha).mem hC.closed hdep') e1 e2
           omega
     · simp only[stageOk,Bool.and_eq_true,List.all_eq_true,List.mem_range,Bool.not_eq_true',Bool.and_eq_false_iff]
       refine⟨⟨?_,?_⟩,fun q hq=>?_⟩
       · unfold kindAt;rw[nth_eq,h2];simp only;rw[h3];rfl
       · cases ha:ahead (masks ops.toList []) i p with
         | false=>rfl
         | true=>exact absurd (hC.closed.reach (ahead_reach ha) h1) hn
       · cases ha:ahead (masks ops.toList []) q i with
         | false=>exact .inl (.inr rfl)
         | true=>
           cases hb:Nat.beq (kindAt E.tt ops.toList q) 3 with
           | false=>exact .inl (.inl rfl)
           | true=>
             obtain⟨oq,e1,e2⟩:=kat q hb
             have:=hS.2 q oq ((ahead_reach ha).mem hC.closed hdep') e1 e2
             refine .inr ?_
             cases hc:Nat.blt p q with
             | false=>rfl
             | true=>rw[Nat.blt_eq]at hc;omega
    obtain⟨H2,hread⟩:=hD.read i m o hi hw hk hC.le hst
    have hfresh:∀b,(s ops.size).H.next+1<=b->ρ b=none:=fun b hb=>by
     cases hq:ρ b with
     | none=>rfl
     | some q=>
       have hle:=hD.mono hC.le (Nat.le_refl ops.size)
       rcases hC.dom b q hq with h|⟨j,h,e⟩
       · omega
       · have:=hD.mono (i:=j) (j:=ops.size) (Nat.le_of_lt (hC.lt j h.2.1)) (Nat.le_refl _);omega
    have hr0:=hC.hr.wider (cut_le ρ _) hfresh
    obtain⟨v,g1,g2⟩:=read_go hG hr0 hev hk ((kind1 hk hread).2 _)
    have hs:=(App.value (fr:=fr) (cs:=cs) g1).steps hstep
    rw[finish_region ht hi']at hs
    exact⟨m,ρ,v,w,hs,hC.quiet hD hi hdep (fun _=>by omega) g2 (Nat.le_refl _) (fun _ _=>rfl) rfl rfl rfl,hS.keep hi (by omega)⟩
   ·
    obtain⟨cells,f,e1,e2,e3,_⟩:=kind2 hk c1
    have hmi:=hS.le hD hC.closed hi hn (by omega)
    have hbl:=hD.act i o hi hw (by omega)
    have hev2:∀x ∈ o.op.operands,VR (cut ρ (s i).H.next) (fr.eval x) (evA (s i).t x):=fun x hx=>(hev x hx).cut (evs_mem hbl x (by simpa using hx))
    have hglob:∀g,g<E.ng->∃z,cut ρ (s i).H.next g=some ⟨g,0,z,0⟩:=fun g hg=>by
     obtain⟨z,hz⟩:=hC.hr.glob g hg
     exact⟨z,cut_mono (hD.mono hmi (Nat.le_of_lt hlt)) _ _ hz⟩
    have hr0:HR E.ng (cut ρ (s i).H.next) (bare (s i).H.next) w:=bare_HR w (fun b hb=>by unfold cut;rw[if_neg (by omega)]) hglob
    obtain⟨ρ2,v,w2,g1,g2,g3,g4⟩:=op_go hG hex hr0 (ev:=fr.eval) (fr:=fr) (cs:=cs) hev2 hplain (e3 _)
    have hs:=g1.steps hstep
    rw[finish_region ht hi']at hs
    rw[bare_next,<-e1]at g2
    obtain⟨ρ',_,hC'⟩:=hC.make hD hi hn hmi hdep hk hw e2 g2 g3 g4
    exact⟨m,ρ',v,w2,hs,hC',hS.keep hi (by omega)⟩
   ·
    have hCi:=hC.upTo hD hS hi hn hdep hk
    have hbl:=hD.act i o hi hw (by omega)
    have hev2:∀x ∈ o.op.operands,VR (cut ρ (s i).H.next) (fr.eval x) (evA (s i).t x):=fun x hx=>(hev x hx).cut (evs_mem hbl x (by simpa using hx))
    obtain⟨ρ2,v,w2,g1,g2,g3,g4⟩:=op_go hG hex hCi.hr (ev:=fr.eval) (fr:=fr) (cs:=cs) hev2 hplain c1
    have hs:=g1.steps hstep
    rw[finish_region ht hi']at hs
    obtain⟨ρ',_,hC'⟩:=hCi.act hD hi hdep (by omega) g2 g3 g4
    refine⟨i+1,ρ',v,w2,hs,hC',.inr ⟨i,o,rfl,.inr rfl,hi,hk⟩,fun q oq hq hoq hkq=>?_⟩
    have hmi:=hS.le hD hC.closed hi hn (by omega)
    rcases hq with hq|rfl
    · have:=hS.2 q oq hq hoq hkq;omega
    · omega
end Ex
namespace Ex
open Go
variable {E:Env} {ρ ρ':Rho} {H H':Heap} {w w':World} {ex:Ex}
variable {ops:Array Oper} {s:Nat->St} {nt:Nat} {ρ0:Rho} {w0:World}
def Lof (listed:Array Bool):Nat->Prop:=fun j=>listed.getD j false=true
theorem Lof_set {listed:Array Bool} {i:Nat} (hi:i<listed.size):Lof (listed.setIfInBounds i true)=more (Lof listed) i:=by
 funext j
 apply propext
 unfold Lof more
 by_cases e:i=j
 · subst e;simp[hi]
 · rw[getD_set_ne false e]
   simp only[Ne.symm (a:=i) e,or_false]
theorem all_listed {md:Region.Mode} (hg:Good E.tt ops ops.toList) {listed:Array Bool} (hs:listed.size=ops.size) (hr:Region.ready md ops listed=[]):∀j,j<ops.size->Lof listed j:=by
 intro j hj
 refine hg.top md (Lof listed) (fun i o hi hdep=>?_) j (by simpa using hj)
 have hlt:i<ops.size:=by simpa using(List.getElem?_eq_some_iff.1 hi).1
 cases hb:listed.getD i false with
 | true=>exact hb
 | false=>
   have hbt:listed.getD i true=false:=by
    rw[Array.getD_eq_getD_getElem?]at hb ⊢
    rw[Array.getElem?_eq_getElem (by omega)]at hb ⊢
    exact hb
   have hm:i ∈ Region.ready md ops listed:=by
    rw[mem_ready]
    exact⟨hbt,o,by simpa using hi,fun e he hbn=>hdep e (by simpa using he) hbn⟩
   rw[hr]at hm;cases hm
theorem draw_loop (hG:EnvGood E) (hex:SoundEx E ex) (hD:Drw E ex ops s nt) {md:Region.Mode} {cs:List Frame} {k':List Item}:∀(fuel t:Nat) (listed:Array Bool) (U:List Nat) (m:Nat) (ρ:Rho) (w:World) (fr:Frame),listed.size=ops.size ->
 (∀j,j<ops.size->¬Lof listed j->j ∈ U)->U.length<=fuel->Core E ops s nt ρ0 w0 (Lof listed) m ρ fr.tmps w->Stg E ops (Lof listed) m->fr.mode=.run->fr.todo=.inRegion ops (Region.linearise.go md ops fuel t listed []) :: k' ->
 ∃m' ρ' a' w' L,(∀j,j<ops.size->L j)/\Steps E.P (lone fr cs w) (lone { fr with tmps:=a',todo:=.inRegion ops [] :: k' } cs w')/\Core E ops s nt ρ0 w0 L m' ρ' a' w'/\Stg E ops L m'
 | 0,t,listed,U,m,ρ,w,fr,hsz,hU,hf,hC,hS,hm,ht=>by
   refine⟨m,ρ,fr.tmps,w,Lof listed,fun j hj=>?_,?_,hC,hS⟩
   · by_cases h:Lof listed j
     · exact h
     · have hmem:=hU j hj h
       have:U=[]:=by simpa using hf
       rw[this]at hmem;cases hmem
   · have:fr = { fr with tmps:=fr.tmps,todo:=.inRegion ops [] :: k' }:=by
      have ht:fr.todo=.inRegion ops [] :: k':=by simpa[Region.linearise.go] using ht
      rw[<-ht]
     rw[<-this];exact Steps.refl _ _
 | fuel+1,t,listed,U,m,ρ,w,fr,hsz,hU,hf,hC,hS,hm,ht=>by
   simp only[Region.linearise.go]at ht
   have ht:fr.todo=.inRegion ops (match(Region.ready md ops listed)[t % (Region.ready md ops listed).length]? with
    | some i=>Region.linearise.go md ops fuel (t / (Region.ready md ops listed).length) (listed.setIfInBounds i true) [i]
    | none=>[].reverse) :: k':=ht
   cases hi:(Region.ready md ops listed)[t % (Region.ready md ops listed).length]? with
   | none=>
     have hnil:Region.ready md ops listed=[]:=by
      cases hr:Region.ready md ops listed with
      | nil=>rfl
      | cons x xs=>
        rw[hr]at hi
        have hlt:t % (x :: xs).length<(x :: xs).length:=Nat.mod_lt _ (by simp)
        simp at hi
        simp at hlt
        omega
     rw[hi]at ht
     refine⟨m,ρ,fr.tmps,w,Lof listed,all_listed hD.good hsz hnil,?_,hC,hS⟩
     have:fr = { fr with tmps:=fr.tmps,todo:=.inRegion ops [] :: k' }:=by
      have ht:fr.todo=.inRegion ops [] :: k':=by simpa using ht
      rw[<-ht]
     rw[<-this];exact Steps.refl _ _
   | some i=>
     rw[hi]at ht
     simp only[]at ht
     rw[linearise_go_acc,List.reverse_singleton,List.singleton_append]at ht
     have hmem:=List.mem_of_getElem? hi
     rw[mem_ready]at hmem
     obtain⟨hl,o,ho,hdep⟩:=hmem
     have hlt:i<ops.size:=(Array.getElem?_eq_some_iff.1 ho).1
     have hn:¬Lof listed i:=by
      unfold Lof
      rw[Array.getD_eq_getD_getElem?]at hl ⊢
      rw[Array.getElem?_eq_getElem (by omega)]at hl ⊢
      simp at hl ⊢
      exact hl
     obtain⟨m',ρ',v,w',g1,g2,g3⟩:=draw_step hG hex hD (cs:=cs) hC hS ht hm (by simpa using ho) hn (fun e he hb=>hdep e (by simpa using he) (binds_any md hb))
     rw[<-Lof_set (by omega)]at g2 g3
     have hiU:=hU i hlt hn
     obtain⟨m2,ρ2,a2,w2,L2,k1,k2,k3,k4⟩:=draw_loop hG hex hD (cs:=cs) (k':=k') fuel _ (listed.setIfInBounds i true) (U.erase i) m' ρ' w' { fr with tmps:=putA fr.tmps o.dst v,todo:=.inRegion ops (Region.linearise.go md ops fuel (t / (Region.ready md ops listed).length) (listed.setIfInBounds i true) []) :: k' } (by simpa using hsz)
      (fun j hj hnj=>by
        have hne:j≠i:=fun e=>by
         subst e
         rw[Lof_set (by omega)]at hnj
         exact hnj (.inr rfl)
        have:¬Lof listed j:=fun h=>by rw[Lof_set (by omega)]at hnj;exact hnj (.inl h)
        exact(List.mem_erase_of_ne hne).2 (hU j hj this))
      (by rw[List.length_erase_of_mem hiU];omega) g2 g3 hm rfl
     exact⟨m2,ρ2,a2,w2,L2,k1,Steps.trans g1 k2,k3,k4⟩
theorem step_draw {P:Program} {fr:Frame} {cs:List Frame} {id:Nat} {k':List Item} (hm:fr.mode=.run) (ht:fr.todo=.code (.region id ops true) :: k'):
 Go.step P (lone fr cs w)=.next (lone { fr with todo:=.inRegion ops (Region.schedule (P.follows .mixedOrders) ops (w.tape w.drawn (.order fr.fn id))) :: k' } cs { w with drawn:=w.drawn+1 }):=
 step_lone_go (by simp[stepG,stepG.exec,hm,ht,choose,Sem.run,Question.forced,Question.cut])
theorem nextsOk_spec:∀ {tr:List St},nextsOk tr=true->∀i,i+1<tr.length → (stOf tr i).H.next<=(stOf tr (i+1)).H.next
 | [],_,i,hi=>by simp at hi
 | [x],_,i,hi=>by simp at hi
 | x :: y :: l,h,i,hi=>by
   have h:(Nat.ble x.H.next y.H.next && nextsOk (y :: l))=true:=h
   simp only[Bool.and_eq_true]at h
   cases i with
   | zero=>have:=Nat.le_of_ble_eq_true h.1;simpa[stOf] using this
   | succ i=>
     have:=nextsOk_spec h.2 i (by simpa using hi)
     simpa[stOf] using this
theorem stOf_nth {tr:List St} {i:Nat} {x:St} (h:nth tr i=some x):stOf tr i=x:=by
 rw[nth_eq]at h;unfold stOf;rw[h];rfl
theorem draw_ok (hG:EnvGood E) (hex:SoundEx E ex):DrawOk E ex:=by
 intro ops nt t t' H H' hdo hok ρ fr w cs id k' ht hm htr h
 unfold drawOps at hdo
 cases hst:okDraw E.tt ops (masks ops.toList []) with
 | false=>rw[hst]at hdo;cases hdo
 | true=>
   rw[hst]at hdo
   simp only at hdo
   cases htrc:traceOps E ex ops ops.toList t H with
   | bad=>rw[htrc]at hdo;cases hdo
   | ok tr=>
     rw[htrc]at hdo
     simp only[drawTr]at hdo
     cases hck:(drawChk E ex ops ops.toList (masks ops.toList []) ops.toList.length tr && nextsOk tr) with
     | false=>rw[hck]at hdo;cases hdo
     | true=>
       rw[hck]at hdo
       simp only[lastSt]at hdo
       simp only[Bool.and_eq_true]at hck
       obtain⟨hck,hnx⟩:=hck
       obtain⟨hlen,h0t,h0H,hch⟩:=trace_chain ops.toList t H tr htrc
       cases hlast:nth tr ops.toList.length with
       | none=>rw[hlast]at hdo;cases hdo
       | some x=>
         rw[hlast]at hdo
         cases hdo
         have hx:=stOf_nth hlast
         have hsize:ops.toList.length=ops.size:=by simp
         have one:∀(i:Nat) (o:Oper),ops.toList[i]?=some o->drawOne E ex ops ops.toList (masks ops.toList []) ops.toList.length tr i o (stOf tr i)=true:=by
          intro i o hi
          have hlt:=(List.getElem?_eq_some_iff.1 hi).1
          unfold drawChk at hck
          have h1:=List.all_eq_true.1 hck i (List.mem_range.2 hlt)
          rw[nth_eq,hi]at h1
          simp only at h1
          cases hy:nth tr i with
          | none=>rw[hy]at h1;cases h1
          | some y=>rw[hy]at h1;rw[stOf_nth hy];exact h1
         have hD:Drw E ex ops (stOf tr) nt:=by
          refine⟨good_of hst,hch,hok,fun d hd=>by rw[h0t];exact htr.has d hd,fun i hi=>nextsOk_spec hnx i (by rw[hlen];omega),?_,?_⟩
          · intro i m o hi hw hk hm hs
            have h1:=one i o hi
            unfold drawOne at h1
            rw[hw,hk]at h1
            simp only[readOk]at h1
            have h2:=List.all_eq_true.1 h1 m (List.mem_range.2 (by omega))
            rw[hsize,hs]at h2
            simp only[Bool.not_true,Bool.false_or]at h2
            cases hy:nth tr m with
            | none=>rw[hy]at h2;cases h2
            | some y=>
              rw[hy]at h2
              rw[stOf_nth hy]
              simp only at h2
              cases hop:opA E ex y.H (stOf tr i).t o with
              | bad=>rw[hop]at h2;cases h2
              | ok u H2=>
                rw[hop]at h2
                have:=veq_eq h2
                exact⟨H2,by rw[this]⟩
          · intro i o hi hw hk
            have h1:=one i o hi
            unfold drawOne at h1
            rw[hw]at h1
            simp only at h1
            have h2:actOk o (stOf tr i)=true:=by
             have:=kindOf_le E.tt o.op
             rcases(show kindOf E.tt o.op=2\/kindOf E.tt o.op=3 by omega) with h|h<;>rw[h]at h1<;>exact h1
            unfold actOk at h2
            generalize hg:(stOf tr i).H=HH at h2
            cases HH with
            | mk o n=>exact h2
         have hs1:=step_draw (P:=E.P) (w:=w) (cs:=cs) hm ht
         obtain⟨md,u,hsch⟩:∃md u,Region.schedule (E.P.follows .mixedOrders) ops (w.tape w.drawn (.order fr.fn id))=Region.linearise.go md ops ops.size u (Array.replicate ops.size false) []:=by
          unfold Region.schedule
          split
          · exact⟨_,_,rfl⟩
          · exact⟨_,_,rfl⟩
         rw[hsch]at hs1
         have hnone:∀j,¬Lof (Array.replicate ops.size false) j:=fun j hj=>by
          unfold Lof at hj
          rw[Array.getD_eq_getD_getElem?]at hj
          by_cases hlt:j<ops.size<;>simp[Array.getElem?_replicate,hlt]at hj
         have hcut:cut ρ (stOf tr 0).H.next=ρ:=by
          funext b
          unfold cut
          split
          · rfl
          · rename_i hb;rw[h0H]at hb;exact(h.fresh b (by omega)).symm
         have hC0:Core E ops (stOf tr) nt ρ w (Lof (Array.replicate ops.size false)) 0 ρ fr.tmps { w with drawn:=w.drawn+1 }:=by
          refine⟨fun j hj=>absurd hj (hnone j),fun j _ hj=>absurd hj (hnone j),Nat.zero_le _,?_,?_,fun j hj=>absurd hj.2.1 (hnone j),fun j _ _ _ hj=>absurd hj.2.1 (hnone j),htr.size,fun j _ _ hj=>absurd hj (hnone j),fun d _=>?_,?_⟩
          · rw[hcut,h0H];exact h.world rfl
          · intro b p hb
            rw[h0H]
            rcases Nat.lt_or_ge b H.next with hlt|hge
            · exact .inl hlt
            · rw[h.fresh b hge]at hb;cases hb
          · rw[h0t];exact htr.rel d
          · rw[hcut]
            exact(Ext.refl ρ (stOf tr 0).H w).grow (Nat.le_refl _) (fun _ _=>rfl) rfl rfl rfl
         have hS0:Stg E ops (Lof (Array.replicate ops.size false)) 0:=⟨.inl rfl,fun q _ hq=>absurd hq (hnone q)⟩
         obtain⟨m',ρ',a',w',L,k1,k2,k3,k4⟩:=draw_loop hG hex hD (cs:=cs) (k':=k') ops.size u (Array.replicate ops.size false) (List.range ops.size) 0 ρ { w with drawn:=w.drawn+1 }
          { fr with todo:=.inRegion ops (Region.linearise.go md ops ops.size u (Array.replicate ops.size false) []) :: k' } (by simp) (fun j hj _=>List.mem_range.2 hj) (by simp) hC0 hS0 hm rfl
         have hCn:=Core.absorb hD (Nat.le_refl ops.size) (ops.size-m') m' (by have:=k3.le;omega) k3 (fun j o h1 h2 hj hw=>by
          have hk:=kindOf_le E.tt o.op
          have hL:=k1 j h2
          refine⟨?_,fun _=>hL⟩
          rcases Nat.lt_or_ge (kindOf E.tt o.op) 3 with h|h
          · omega
          · have:=k4.2 j o hL hj (by omega);omega)
         have hρ:cut ρ' (stOf tr ops.size).H.next=ρ':=by
          funext b
          unfold cut
          split
          · rfl
          · rename_i hb
            cases hq:ρ' b with
            | none=>rfl
            | some q=>
              rcases hCn.dom b q hq with h|⟨j,h,_⟩
              · omega
              · have:=hCn.lt j h.2.1;have:=h.1;omega
         have hfin:=hCn.hr
         have hext:=hCn.ext
         rw[hρ]at hfin hext
         rw[<-hsize,hx]at hfin hext
         rw[h0H]at hext
         refine⟨ρ',a',w',Steps.trans (.one hs1) (Steps.trans k2 (.one (step_lone_go ?_))),⟨hCn.size,fun d=>?_,fun d hd=>?_⟩,hfin,hext⟩
         · simp[stepG,stepG.exec,hm]
         · rw[<-hx]
           by_cases hwr:∃(j:Nat) (o:Oper),ops.toList[j]?=some o/\o.dst=some d
           · obtain⟨j,o,hj,hd⟩:=hwr
             have hlt:=(List.getElem?_eq_some_iff.1 hj).1
             rw[chain_some hch hD.good hD.has hj hd (hD.dst_lt hj hd) ops.toList.length (Nat.le_refl _) hlt]
             exact hCn.done j o d (k1 j (by omega)) hj hd
           · rw[chain_none hch ops.toList.length (Nat.le_refl _) (fun j o _ h2 hd2=>hwr ⟨j,o,h2,hd2⟩)]
             exact hCn.old d (fun j o _ h2 hd2=>hwr ⟨j,o,h2,hd2⟩)
         · rw[<-hx,chain_has hch d ops.toList.length (Nat.le_refl _),h0t];exact htr.has d hd
theorem run_sound (hG:EnvGood E):∀n,SoundEx E (run E n)
 | 0=>fun _ _ _ _ _ _ _ h=>by cases h
 | n+1=>step_go hG (run_sound hG n) (draw_ok hG (run_sound hG n))
end Ex
namespace Ex
open Go
variable {E:Env} {ρ ρ':Rho} {H H':Heap} {w w':World} {ex:Ex}
def Left (E:Env) (ρ:Rho) (H:Heap) (w:World) (v':Value) (H':Heap) (e:Ending) (w':World):Prop:=
 ∃ρ' v,e=.returned v/\VR ρ' v v'/\HR E.ng ρ' H' w'/\Ext ρ H w ρ' H' w'
theorem callFn_sound (hG:EnvGood E) (hex:SoundEx E ex) {f:FuncId} {args args':List Value} {v':Value} (hb:∃fn c,E.ft.get none f=some fn/\fn.body=some c) (hc:callFn E ex H f args' (E.ft.get none f)=.ok v' H')
 (h:HR E.ng ρ H w) (ha:LR ρ args args'):Calls E.P f ⟨args⟩ w (Left E ρ H w v' H'):=by
 intro cs
 obtain⟨fn,c,hfn,hb⟩:=hb
 simp only[callFn,hfn]at hc
 have hpf:=hG.ft f fn hfn
 rw[hb]at hc
 simp only[enterA]at hc
 cases hle:Nat.ble args'.length fn.ntmps with
 | false=>rw[hle]at hc;cases hc
 | true=>
   rw[hle]at hc
   have hle:=Nat.le_of_ble_eq_true hle
   simp only at hc
   rw[<-ha.1]at hle
   have hent:Frame.enter E.P f ⟨args⟩ .normal = { fn:=f,tmps:=(⟨args⟩:Array Value) ++ Array.replicate (fn.ntmps-args.length) undef,todo:=[.code c],defers:=[],mode:=.run,kind:=.normal }:=by
    simp[Frame.enter,hpf,hb]
   have hfr:FrR ρ ⟨f,fn.ntmps,none⟩ [] [.code c] (setArgs (Tr.full Undef (depthOf fn.ntmps)) 0 args') (Frame.enter E.P f ⟨args⟩ .normal):=by
    rw[hent]
    exact⟨rfl,rfl,rfl,enter_TR hle ha,.code c .nil,.nil,rfl⟩
   obtain⟨ρ',v,w',g1,g2⟩:=hex _ _ _ _ _ _ _ hc ρ _ w cs hfr h
   obtain⟨fr',s1,s2,s3⟩:=g1.1 (by rw[hent])
   refine⟨.returned v,w',fr',⟨ρ',v,rfl,g2⟩,s1,?_,s3⟩
   rw[s2,hent]
theorem call_sound (hG:EnvGood E) (hex:SoundEx E ex) {f:FuncId} {args args':List Value} {v':Value} (hb:∃fn c,E.ft.get none f=some fn/\fn.body=some c) (hc:callA E ex H f args'=.ok v' H')
 (h:HR E.ng ρ H w) (ha:LR ρ args args'):Calls E.P f ⟨args⟩ w (Left E ρ H w v' H'):=by
 unfold callA at hc
 cases ho:E.ovr f with
 | some g=>
   rw[ho]at hc
   cases hg:g H args' with
   | bad=>exact callFn_sound hG hex hb (by simp only[hg]at hc;exact hc) h ha
   | ok u H1=>
     have hc:Out.ok u H1=.ok v' H':=by simp only[hg]at hc;exact hc
     rw[hc]at hg
     obtain⟨_,h2⟩:=hG.ovr f g ho args args' ρ H w v' H' h ha hg
     intro cs
     obtain⟨ρ',v,w',fr',g1,g2,g3,g4⟩:=h2 cs
     exact⟨.returned v,w',fr',⟨ρ',v,rfl,g4⟩,g1,g2,g3⟩
 | none=>
   rw[ho]at hc
   exact callFn_sound hG hex hb hc h ha
def Fresh (w w':World):Prop:=w'.os=w.os/\w'.output=w.output/\w'.tape=w.tape/\w.heap.size<=w'.heap.size/\∀c,c<w.heap.size->w'.heap[c]?=w.heap[c]?
theorem Fresh.refl (w:World):Fresh w w:=⟨rfl,rfl,rfl,Nat.le_refl _,fun _ _=>rfl⟩
theorem Fresh.trans {w1 w2 w3:World} (h:Fresh w1 w2) (h':Fresh w2 w3):Fresh w1 w3:=
 ⟨h'.1.trans h.1,h'.2.1.trans h.2.1,h'.2.2.1.trans h.2.2.1,Nat.le_trans h.2.2.2.1 h'.2.2.2.1,fun c hc=>(h'.2.2.2.2 c (Nat.lt_of_lt_of_le hc h.2.2.2.1)).trans (h.2.2.2.2 c hc)⟩
theorem Fresh.kept {w w':World} (h:Fresh w w') (may:MemPlace->Prop):w.keptBut w' may:=by
 refine⟨h.1,h.2.1,fun i hi=>?_⟩
 rw[h.2.2.2.2 i hi]
 cases w.heap[i]? with
 | none=>rfl
 | some o=>
   cases o<;>first
    | rfl
    | exact⟨rfl,rfl,rfl,fun _ _=>rfl⟩
    | exact .inr ⟨rfl,rfl⟩
theorem Fresh.frozen {w w':World} (h:Fresh w w') (a:Addr) (ha:a.block<w.heap.size):w'.frozen? a=w.frozen? a:=by
 simp only[World.frozen?,h.2.2.2.2 _ ha]
def wide (d n:Nat):Heap:=.mk (Tr.full .none d) n
theorem wide_get (d n b:Nat):(wide d n).get b=.none:=by
 show Tr.get AObj.none (Tr.full AObj.none d) b=AObj.none
 exact Tr.get_full _ _ _
theorem wide_HR {ng d n:Nat} (w:World) (hf:∀b,n<=b->ρ b=none) (hg:∀g,g<ng->∃z,ρ g=some ⟨g,0,z,0⟩):HR ng ρ (wide d n) w where
 obj b:=by rw[wide_get];trivial
 inj b _ _ _ h:=absurd (wide_get d n b) h
 fresh:=hf
 glob:=hg
theorem wide_held {d n c:Nat} (h:Held ρ (wide d n) c):False:=by
 obtain⟨b,_,h1,_⟩:=h
 exact h1 (wide_get d n b)
noncomputable def envOf (P:Program) (n m ng:Nat) (ext:FuncId->ExtK) (ovr:FuncId->Option (Heap->List Value->Out)):Env:={ P:=P,tt:=Tr.ofList n P.types.toList,ft:=Tr.ofList m P.funcs.toList,ng:=ng,ext:=ext,ovr:=ovr }
theorem envOf_ft {P:Program} {m:Nat} {f:FuncId} {fn:Func} (h:(Tr.ofList m P.funcs.toList).get none f=some fn):P.funcs[f]?=some fn:=by
 have:=Tr.get_ofList _ _ _ _ h
 rwa [Array.getElem?_toList]at this
theorem envOf_ok (P:Program) (n m ng:Nat) (ext:FuncId->ExtK) (ovr:FuncId->Option (Heap->List Value->Out)):EnvOk (envOf P n m ng ext ovr) where
 tt t i h:=by
  have:=Tr.get_ofList n P.types.toList t i h
  rw[Array.getElem?_toList]at this
  show P.info? t=some i
  unfold Tables.info?
  rw[if_pos (Array.getElem?_eq_some_iff.1 this).1]
  exact this
 ft f fn h:=envOf_ft h
theorem envOf_nog {P:Program} {m:Nat} (hn:(P.funcs.toList.all fun fn=>(fn.name == "runtime.NumGoroutine") == false)=true) (f:FuncId) (fn:Func) (h:(Tr.ofList m P.funcs.toList).get none f=some fn):(fn.name == "runtime.NumGoroutine")=false:=by
 have h1:=envOf_ft h
 have h2:=List.all_eq_true.1 hn fn (by
  have h3:P.funcs.toList[f]?=some fn:=by rw[Array.getElem?_toList];exact h1
  exact List.mem_of_getElem? h3)
 simpa using h2
end Ex
namespace Ex
open Go
variable {E:Env} {ρ ρ':Rho} {H H':Heap} {w w':World} {ex:Ex}
noncomputable section
def entsEq:List (Value × Value)->List (Value × Value)->Bool
 | [],[]=>true
 | a :: x,b :: y=>veq a.1 b.1 && veq a.2 b.2 && entsEq x y
 | _,_=>false
theorem entsEq_eq:∀ {x y:List (Value × Value)},entsEq x y=true->x=y
 | [],[],_=>rfl
 | (a1,a2) :: x,(b1,b2) :: y,h=>by
   simp only[entsEq,Bool.and_eq_true]at h
   rw[veq_eq h.1.1,veq_eq h.1.2,entsEq_eq h.2]
 | [],_ :: _,h=>by simp[entsEq]at h
 | _ :: _,[],h=>by simp[entsEq]at h
def aeq:AObj->AObj->Bool
 | .cells a k,.cells b m=>Nat.beq k m && veqL a b
 | .map a,.map b=>entsEq a b
 | _,_=>false
theorem aeq_eq {a b:AObj} (h:aeq a b=true):a=b/\b≠.none:=by
 unfold aeq at h
 split at h
 · simp only[Bool.and_eq_true]at h
   rw[Nat.eq_of_beq_eq_true h.1,veqL_eq h.2]
   exact⟨rfl,fun e=>by cases e⟩
 · rw[entsEq_eq h]
   exact⟨rfl,fun e=>by cases e⟩
 · cases h
def litSet (t:Tr AObj):List (Nat × AObj)->Tr AObj
 | []=>t
 | x :: l=>litSet (t.set x.1 x.2) l
def lit (d n:Nat) (L:List (Nat × AObj)):Heap:=.mk (litSet (Tr.full .none d) L) n
theorem litSet_get:∀(L:List (Nat × AObj)) (t:Tr AObj) (b:Nat),(litSet t L).get .none b=t.get .none b\/∃o,(b,o) ∈ L/\(litSet t L).get .none b=o
 | [],t,b=>.inl rfl
 | x :: L,t,b=>by
   obtain⟨i,o⟩:=x
   rcases litSet_get L (t.set i o) b with h|⟨o',h1,h2⟩
   · rcases Tr.get_set_or .none t i b o with h'|⟨e,h'⟩
     · exact .inl (h.trans h')
     · subst e;exact .inr ⟨o,by simp,h.trans h'⟩
   · exact .inr ⟨o',by simp[h1],h2⟩
theorem lit_get (d n:Nat) (L:List (Nat × AObj)) (b:Nat):(lit d n L).get b=.none\/∃o,(b,o) ∈ L/\(lit d n L).get b=o:=by
 rcases litSet_get L (Tr.full .none d) b with h|h
 · exact .inl (h.trans (Tr.get_full _ _ _))
 · exact .inr h
def sameL (H:Heap):List (Nat × AObj)->Bool
 | []=>true
 | x :: l=>aeq (H.get x.1) x.2 && sameL H l
theorem sameL_mem:∀ {L:List (Nat × AObj)} {b:Nat} {o:AObj},sameL H L=true → (b,o) ∈ L->H.get b=o/\o≠.none
 | x :: l,b,o,h,hm=>by
   simp only[sameL,Bool.and_eq_true]at h
   rcases List.mem_cons.1 hm with rfl|hm
   · exact aeq_eq h.1
   · exact sameL_mem h.2 hm
def holds (H:Heap) (n:Nat) (L:List (Nat × AObj)):Bool:=Nat.beq H.next n && sameL H L
theorem holds_get {n d:Nat} {L:List (Nat × AObj)} (h:holds H n L=true) (b:Nat):(lit d n L).get b=.none\/((lit d n L).get b=H.get b/\H.get b≠.none):=by
 simp only[holds,Bool.and_eq_true]at h
 rcases lit_get d n L b with e|⟨o,h1,h2⟩
 · exact .inl e
 · obtain⟨h3,h4⟩:=sameL_mem h.2 h1
   exact .inr ⟨h2.trans h3.symm,by rw[h3];exact h4⟩
theorem holds_held {n d c:Nat} {L:List (Nat × AObj)} (h:holds H n L=true) (hh:Held ρ (lit d n L) c):Held ρ H c:=by
 obtain⟨b,p,h1,h2,h3⟩:=hh
 rcases holds_get (d:=d) h b with e|⟨_,e⟩
 · exact absurd e h1
 · exact⟨b,p,e,h2,h3⟩
theorem HR.weaken {ng n d:Nat} {L:List (Nat × AObj)} (h:HR ng ρ H w) (hl:holds H n L=true):HR ng ρ (lit d n L) w where
 obj b:=by
  rcases holds_get (d:=d) hl b with e|⟨e,_⟩
  · rw[e];trivial
  · rw[e];exact h.obj b
 inj b b' p p' h1 h2:=by
  rcases holds_get (d:=d) hl b with e|⟨_,e⟩
  · exact absurd e h1
  · rcases holds_get (d:=d) hl b' with e'|⟨_,e'⟩
    · exact absurd e' h2
    · exact h.inj b b' p p' e e'
 fresh b hb:=by
  simp only[holds,Bool.and_eq_true]at hl
  exact h.fresh b (by rw[Nat.eq_of_beq_eq_true hl.1];exact hb)
 glob:=h.glob
theorem Ext.weaken {n d:Nat} {L:List (Nat × AObj)} (hl:holds H n L=true) (h:Ext ρ (lit d n L) w ρ' H' w'):Ext ρ H w ρ' H' w' where
 le:=h.le
 size:=h.size
 keep c hc hn:=h.keep c hc (fun hh=>hn (holds_held hl hh))
 range c hc:=(h.range c hc).imp id (holds_held hl)
 dom b p hp:=by
  simp only[holds,Bool.and_eq_true]at hl
  rcases h.dom b p hp with e|e
  · exact .inl e
  · exact .inr (by rw[Nat.eq_of_beq_eq_true hl.1];exact e)
 next:=by
  simp only[holds,Bool.and_eq_true]at hl
  rw[Nat.eq_of_beq_eq_true hl.1];exact h.next
 tape:=h.tape
 os:=h.os
 output:=h.output
 same:=h.same
abbrev Mu (n:Nat):Value:=.int .u64 (.ofNat n)
abbrev Mp (b o:Nat):Value:=.pointer (some ⟨b,o,none⟩)
abbrev Ms (b o l c:Nat):Value:=.slice (some ⟨b,o,none⟩) l c
def Mb:List Nat->List Value
 | []=>[]
 | n :: l=>.int .u8 (.ofNat n) :: Mb l
structure Memo where
 f:FuncId
 args:List Value
 n:Nat
 L:List (Nat × AObj)
 v:Value
 n':Nat
 L':List (Nat × AObj)
def outIs (r:Out) (v:Value) (n:Nat) (L:List (Nat × AObj)):Bool:=match r with
 | .ok u H=>veq u v && holds H n L
 | .bad=>false
def Memo.runs (E:Env) (m:Memo) (N d:Nat):Bool:=outIs (callA E (run E N) (lit d m.n m.L) m.f m.args) m.v m.n' m.L'
def Memo.fits (m:Memo) (H:Heap) (args:List Value):Bool:=holds H m.n m.L && veqL args m.args
def Memo.out (m:Memo) (d:Nat) (H:Heap) (args:List Value) (r:Option Out):Option Out:=match m.fits H args with
 | true=>some (.ok m.v (lit d m.n' m.L'))
 | false=>r
def pick (d:Nat) (H:Heap) (args:List Value):List Memo->Out
 | []=>.bad
 | m :: l=>match m.fits H args with
   | true=>.ok m.v (lit d m.n' m.L')
   | false=>pick d H args l
def ofF (f:FuncId):List Memo->List Memo
 | []=>[]
 | m :: l=>match Nat.beq m.f f with
   | true=>m :: ofF f l
   | false=>ofF f l
def CallSem (E:Env) (f:FuncId) (H:Heap) (args':List Value) (v':Value) (H':Heap):Prop:=
 ∀ρ w args,HR E.ng ρ H w->LR ρ args args' → (callFunc f ⟨args⟩).run E.P w=.ok (.enter f ⟨args⟩) w/\Calls E.P f ⟨args⟩ w (Left E ρ H w v' H')
def bodied (o:Option Func):Bool:=match o with
 | some fn=>fn.body.isSome
 | none=>false
theorem of_bodied {o:Option Func} (h:bodied o=true):∃fn c,o=some fn/\fn.body=some c:=by
 cases o with
 | none=>cases h
 | some fn=>
   cases hb:fn.body with
   | none=>simp only[bodied,hb]at h;cases h
   | some c=>exact⟨fn,c,rfl,hb⟩
theorem ofF_mem {f:FuncId}:∀ {ms:List Memo} {m:Memo},m ∈ ofF f ms->m ∈ ms/\m.f=f
 | x :: l,m,h=>by
   simp only[ofF]at h
   cases hb:Nat.beq x.f f with
   | true=>
     rw[hb]at h
     rcases List.mem_cons.1 h with rfl|h
     · exact⟨by simp,Nat.eq_of_beq_eq_true hb⟩
     · exact⟨by simp[(ofF_mem h).1],(ofF_mem h).2⟩
   | false=>
     rw[hb]at h
     exact⟨by simp[(ofF_mem h).1],(ofF_mem h).2⟩
end
end Ex
namespace Ex
open Go
variable {E:Env} {ρ ρ':Rho} {H H':Heap} {w w':World} {ex:Ex}
theorem HR.same (h:HR E.ng ρ H w) {w1:World} (hw:w1.heap=w.heap) (ht:w1.tape=w.tape) (ho:w1.os=w.os) (hu:w1.output=w.output):HR E.ng ρ H w1/\Ext ρ H w ρ H w1:=
 ⟨⟨fun b=>(h.obj b).mono ρ.le_refl (fun p _=>by rw[hw]),h.inj,h.fresh,h.glob⟩,
   { le:=ρ.le_refl,size:=by rw[hw];exact Nat.le_refl _,keep:=fun c _ _=>by rw[hw],range:=fun c hh=>.inr hh,dom:=fun _ _ hq=>.inl hq,next:=Nat.le_refl _,tape:=ht,os:=ho,output:=hu,same:=Shape.of_heap hw }⟩
end Ex
namespace Ex
open Go
variable {E:Env} {ρ ρ':Rho} {H H':Heap} {w w':World} {ex:Ex}
noncomputable section
theorem MR.at {mes:List MapEntry}:∀ {i:Nat} {es:List (Value × Value)},MR ρ mes i es->∀j,j<es.length->∃e,e ∈ mes/\e.born=i+j
 | _,_,.nil i,j,hj=>by simp at hj
 | _,_,.cons (e:=e) hk hv hb tl,0,hj=>⟨e,List.mem_cons_self ..,by simpa using hb⟩
 | _,_,.cons hk hv hb tl,j+1,hj=>by
   obtain⟨e,h1,h2⟩:=MR.at tl j (by simpa using hj)
   exact⟨e,List.mem_cons_of_mem _ h1,by omega⟩
end
end Ex
namespace Ex
open Go
variable {E:Env} {ρ ρ':Rho} {H H':Heap} {w w':World} {ex:Ex}
theorem Ext.wide {m:Nat} (h:Ext ρ H w ρ' H' w') (hm:H.next<=m):Ext ρ H w ρ' (bump H' m) w' where
 le:=h.le
 size:=h.size
 keep:=h.keep
 range c hh:=h.range c (by
  obtain⟨b,p,h1,h2⟩:=hh
  rw[bump_get]at h1
  exact⟨b,p,h1,h2⟩)
 dom:=h.dom
 next:=by rw[bump_next];exact hm
 tape:=h.tape
 os:=h.os
 output:=h.output
 same:=h.same
end Ex
namespace Ex
open Go
variable {E:Env} {ρ ρ':Rho} {H H':Heap} {w w':World} {ex:Ex}
noncomputable section
structure Fork where
 va:Value
 Ha:Heap
 vb:Value
 Hb:Heap
structure Fk where
 pre:List Oper
 o:Oper
 rest:List Oper
 t:Tr Value
 H:Heap
 f:Fork
def Fk.add (o:Oper) (q:Option Fk):Option Fk:=match q with
 | some q=>some { q with pre:=o :: q.pre }
 | none=>none
def freeOut (b:Bool) (H:Heap) (args:List Value):Out:=match args with
 | []=>.ok (.bool b) H
 | _ :: _=>.bad
def Env.free (E:Env) (f:FuncId) (b:Bool):Env:={ E with ovr:=fun g=>match Nat.beq f g with|true=>some (freeOut b)|false=>E.ovr g }
end
end Ex
namespace Ex
open Go
variable {E:Env} {ρ ρ':Rho} {H H' H1:Heap} {w w':World} {ex:Ex}
noncomputable section
def killL (H:Heap):List (Nat × AObj)->Heap
 | []=>H
 | x :: l=>killL (H.set x.1 .none) l
def putAll (H:Heap):List (Nat × AObj)->Heap
 | []=>H
 | x :: l=>putAll (H.set x.1 x.2) l
def Memo.over (m:Memo) (H:Heap):Heap:=bump (putAll (killL H m.L) m.L') m.n'
theorem set_none (H:Heap) (b:Nat):(H.set b .none).get b=.none:=by
 by_cases h:H.get b=.none
 · cases H with
   | mk t n=>
     rcases Tr.get_set_or .none t b b .none with e|⟨_,e⟩
     · exact e.trans h
     · exact e
 · exact Heap.get_set_same H _ h
theorem kill_get:∀(L:List (Nat × AObj)) (H:Heap) (b:Nat),(killL H L).get b=.none\/((killL H L).get b=H.get b/\∀o,(b,o) ∉ L)
 | [],H,b=>.inr ⟨rfl,fun _=>by simp⟩
 | x :: l,H,b=>by
   rcases kill_get l (H.set x.1 .none) b with e|⟨e,hm⟩
   · exact .inl e
   · by_cases hx:b=x.1
     · subst hx
       exact .inl (e.trans (set_none H _))
     · refine .inr ⟨e.trans (Heap.get_set_ne H _ hx),fun o ho=>?_⟩
       rcases List.mem_cons.1 ho with h|h
       · exact hx (congrArg Prod.fst h)
       · exact hm o h
theorem put_get:∀(L:List (Nat × AObj)) (H:Heap) (b:Nat),(putAll H L).get b=H.get b\/∃o,(b,o) ∈ L/\(putAll H L).get b=o
 | [],H,b=>.inl rfl
 | x :: l,H,b=>by
   obtain⟨i,o⟩:=x
   rcases put_get l (H.set i o) b with e|⟨o',h1,h2⟩
   · cases H with
     | mk t n=>
       rcases Tr.get_set_or .none t i b o with e'|⟨e0,e'⟩
       · exact .inl (e.trans e')
       · subst e0
         exact .inr ⟨o,by simp,e.trans e'⟩
   · exact .inr ⟨o',by simp[h1],h2⟩
theorem Memo.over_get (m:Memo) (H:Heap) (b:Nat):(m.over H).get b=.none\/(∃o,(b,o) ∈ m.L'/\(m.over H).get b=o)\/((m.over H).get b=H.get b/\∀o,(b,o) ∉ m.L):=by
 have e0:(m.over H).get b=(putAll (killL H m.L) m.L').get b:=bump_get _ _ _
 rw[e0]
 rcases put_get m.L' (killL H m.L) b with e|h
 · rcases kill_get m.L H b with e'|⟨e',hm⟩
   · exact .inl (e.trans e')
   · exact .inr (.inr ⟨e.trans e',hm⟩)
 · exact .inr (.inl h)
theorem Memo.over_next (m:Memo) (H:Heap):(m.over H).next=m.n':=bump_next _ _
def CallSemF (E:Env) (m:Memo):Prop:=∃d H1,holds H1 m.n' m.L'=true/\CallSem E m.f (lit d m.n m.L) m.args m.v H1
theorem Memo.frame {m:Memo} {d:Nat} (hf:holds H m.n m.L=true) (hl:holds H1 m.n' m.L'=true) (hr:HR E.ng ρ H w) (h1:HR E.ng ρ' H1 w') (h2:Ext ρ (lit d m.n m.L) w ρ' H1 w'):
 HR E.ng ρ' (m.over H) w'/\Ext ρ H w ρ' (m.over H) w':=by
 have hln:H1.next=m.n':=by
  simp only[holds,Bool.and_eq_true]at hl
  exact Nat.eq_of_beq_eq_true hl.1
 have hfn:H.next=m.n:=by
  simp only[holds,Bool.and_eq_true]at hf
  exact Nat.eq_of_beq_eq_true hf.1
 have hL':∀ {b o},(b,o) ∈ m.L'->H1.get b=o/\o≠.none:=fun hm=>by
  simp only[holds,Bool.and_eq_true]at hl
  exact sameL_mem hl.2 hm
 have apart:∀b p,H.get b≠.none → (∀o,(b,o) ∉ m.L)->ρ b=some p->¬Held ρ (lit d m.n m.L) p.c:=fun b p hb hm hp ⟨b2,p2,k1,k2,k3⟩=>by
  rcases holds_get (d:=d) hf b2 with e|⟨e,e'⟩
  · exact k1 e
  · have:b2=b:=hr.inj b2 b p2 p e' hb k2 hp k3
    subst this
    rcases lit_get d m.n m.L b2 with e3|⟨o,h,_⟩
    · exact k1 e3
    · exact hm o h
 have place:∀b,H.get b≠.none->∃p,ρ b=some p/\p.c<w.heap.size:=fun b hb=>(hr.obj b).place hb
 have same:∀b p,H.get b≠.none → (∀o,(b,o) ∉ m.L)->ρ b=some p->w'.heap[p.c]?=w.heap[p.c]?:=fun b p hb hm hp=>
  h2.keep p.c (hr.lt hb hp) (apart b p hb hm hp)
 have mixed:∀b b' p p',H1.get b≠.none->ρ' b=some p->H.get b'≠.none → (∀o,(b',o) ∉ m.L)->ρ' b'=some p'->p.c≠p'.c:=fun b b' p p' k1 k2 k3 k4 k5 e=>by
  obtain⟨q,hq,hlt⟩:=place b' k3
  have:=h2.le _ _ hq
  rw[k5]at this
  cases this
  rcases h2.range p.c ⟨b,p,k1,k2,rfl⟩ with hge|hh
  · omega
  · rw[e]at hh
    exact apart b' p' k3 k4 hq hh
 refine⟨⟨fun b=>?_,fun b b' p p' k1 k2 e1 e2 ec=>?_,fun b hb=>?_,h1.glob⟩,?_⟩
 · rcases m.over_get H b with e|⟨o,hm,e⟩|⟨e,hm⟩
   · rw[e];trivial
   · rw[e,<-(hL' hm).1];exact h1.obj b
   · rw[e]
     by_cases hn:H.get b=.none
     · rw[hn];trivial
     · exact(hr.obj b).mono h2.le (fun p hp=>same b p hn hm hp)
 · rcases m.over_get H b with e|⟨o,hm,e⟩|⟨e,hm⟩
   · exact absurd e k1
   · rcases m.over_get H b' with e'|⟨o',hm',e'⟩|⟨e',hm'⟩
     · exact absurd e' k2
     · refine h1.inj b b' p p' ?_ ?_ e1 e2 ec
       · rw[(hL' hm).1];exact(hL' hm).2
       · rw[(hL' hm').1];exact(hL' hm').2
     · refine absurd ec (mixed b b' p p' ?_ e1 ?_ hm' e2)
       · rw[(hL' hm).1];exact(hL' hm).2
       · rw[<-e'];exact k2
   · rcases m.over_get H b' with e'|⟨o',hm',e'⟩|⟨e',hm'⟩
     · exact absurd e' k2
     · refine absurd ec.symm (mixed b' b p' p ?_ e2 ?_ hm e1)
       · rw[(hL' hm').1];exact(hL' hm').2
       · rw[<-e];exact k1
     · rw[e]at k1
       rw[e']at k2
       obtain⟨q,hq,_⟩:=place b k1
       obtain⟨q',hq',_⟩:=place b' k2
       have:=h2.le _ _ hq
       rw[e1]at this
       cases this
       have:=h2.le _ _ hq'
       rw[e2]at this
       cases this
       exact hr.inj b b' _ _ k1 k2 hq hq' ec
 · rw[m.over_next]at hb
   exact h1.fresh b (by rw[hln];exact hb)
 · refine⟨h2.le,h2.size,fun c hc hn=>h2.keep c hc (fun hh=>hn (holds_held hf hh)),fun c hc=>?_,fun b p hp=>?_,?_,h2.tape,h2.os,h2.output,h2.same⟩
   · obtain⟨b,p,k1,k2,k3⟩:=hc
     rcases m.over_get H b with e|⟨o,hm,e⟩|⟨e,hm⟩
     · exact absurd e k1
     · rcases h2.range c ⟨b,p,by rw[(hL' hm).1];exact(hL' hm).2,k2,k3⟩ with h|h
       · exact .inl h
       · exact .inr (holds_held hf h)
     · rw[e]at k1
       obtain⟨q,hq,_⟩:=place b k1
       have:=h2.le _ _ hq
       rw[k2]at this
       cases this
       exact .inr ⟨b,_,k1,hq,k3⟩
   · rcases h2.dom b p hp with e|e
     · exact .inl e
     · exact .inr (by rw[hfn];exact e)
   · rw[m.over_next,hfn,<-hln]
     exact h2.next
theorem Memo.semF {m:Memo} {N d:Nat} (hG:EnvGood E) (hb:bodied (E.ft.get none m.f)=true) (h:m.runs E N d=true):CallSemF E m:=by
 unfold Memo.runs outIs at h
 cases hc:callA E (run E N) (lit d m.n m.L) m.f m.args with
 | bad=>rw[hc]at h;cases h
 | ok u H1=>
   rw[hc]at h
   simp only[Bool.and_eq_true]at h
   refine⟨d,H1,h.2,fun ρ w args hr ha=>?_⟩
   obtain⟨fn,c,hfn,hbd⟩:=of_bodied hb
   have hpf:=hG.ft m.f fn hfn
   refine⟨?_,?_⟩
   · have h1:fn.name ≠ "runtime.NumGoroutine":=by simpa using hG.nog m.f fn hfn
     simp[callFunc,hpf,h1,hbd]
   · rw[veq_eq h.1]at hc
     exact call_sound hG (run_sound hG N) ⟨fn,c,hfn,hbd⟩ hc hr ha
def pickF (H:Heap) (args:List Value):List Memo->Out
 | []=>.bad
 | m :: l=>match m.fits H args with
   | true=>.ok m.v (m.over H)
   | false=>pickF H args l
def ovrF (ms:List Memo) (f:FuncId) (o:Option (Heap->List Value->Out)):Option (Heap->List Value->Out):=match ofF f ms with
 | []=>o
 | l=>some fun H args=>pickF H args l
def Env.knowF (E:Env) (ms:List Memo):Env:={ E with ovr:=fun f=>ovrF ms f (E.ovr f) }
theorem pickF_sem {v':Value} {args':List Value}:∀ {l:List Memo},pickF H args' l=.ok v' H'->∃m ∈ l,m.fits H args'=true/\v'=m.v/\H'=m.over H
 | m :: l,h=>by
   simp only[pickF]at h
   cases hf:m.fits H args' with
   | true=>rw[hf]at h;cases h;exact⟨m,by simp,hf,rfl,rfl⟩
   | false=>
     rw[hf]at h
     obtain⟨m',a,b⟩:=pickF_sem h
     exact⟨m',by simp[a],b⟩
theorem knowF_good (hG:EnvGood E) {ms:List Memo} (h:∀m ∈ ms,CallSemF E m):EnvGood (E.knowF ms) where
 tt:=hG.tt
 ft:=hG.ft
 nog:=hG.nog
 cmp:=hG.cmp
 add:=hG.add
 ovr f g hg args args' ρ H w v' H' hr ha hc:=by
  have hg:ovrF ms f (E.ovr f)=some g:=hg
  unfold ovrF at hg
  split at hg
  · exact hG.ovr f g hg args args' ρ H w v' H' hr ha hc
  · cases hg
    obtain⟨m,hm,hf,rfl,rfl⟩:=pickF_sem hc
    obtain⟨hm2,e⟩:=ofF_mem hm
    subst e
    obtain⟨d,H1,hl,hs⟩:=h m hm2
    simp only[Memo.fits,Bool.and_eq_true]at hf
    have:=veqL_eq hf.2
    subst this
    obtain⟨h1,h2⟩:=hs ρ w args (hr.weaken hf.1) ha
    refine⟨h1,fun cs=>?_⟩
    obtain⟨e,w',fr,⟨ρ',v,rfl,hv,k1,k2⟩,s1,s2,s3⟩:=h2 cs
    have:=Memo.frame hf.1 hl hr k1 k2
    exact⟨ρ',v,w',fr,s1,s2,s3,hv,this.1,this.2⟩
end
end Ex

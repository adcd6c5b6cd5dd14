/- A verified executor for closed Go calls, part of it: its lemmas carry no condition. -/
import Derived.Test.YtbhnjkegkadodaaGreatDoorXG02
import Derived.Laws.BytesString
import Derived.Laws.Externs
import Derived.Lib.ConvBytes
import Derived.RangeFuncOwn
set_option linter.unusedVariables false
set_option linter.unusedSimpArgs false
set_option maxRecDepth 100000
set_option maxHeartbeats 8000000
namespace Ex
open Go
variable {E:Env} {ρ ρ':Rho} {H H':Heap} {w w':World}
theorem isInt_inv (hE:EnvOk E) {u:TypeId} (h:isInt (E.tt.und u)=some false):∃d,E.P.underlying u=some d/\∀k,d≠.int k:=by
 cases hu:E.tt.und u with
 | none=>rw[hu]at h;cases h
 | some d=>rw[hu]at h;exact⟨d,und_eq hE hu,fun k e=>by subst e;cases h⟩
theorem move_sound (h:HR E.ng ρ H w) {b o k n size:Nat} {p:Pl} {cs old' new' new:List Value} (hp:ρ b=some p) (hb:H.get b=.cells cs k) (hk:k≠0) (hks:k=size) (hend:o+n*size=cs.length)
 (hold:old'=(cs.drop o).take (n*size)) (hn:LR ρ new new') (h1:∀v ∈ new,oneCell v=true) (hfit:o+n*size+new.length<=p.z):
 ∃ρ' w',(storeCells ⟨p.c,p.s+o+n*size,none⟩ new).run E.P w=.ok () w'/\ρ' H.next=some ⟨p.c,p.s+o,p.z-o,k⟩/\HR E.ng ρ' (newRowA (H.set b .none) (old' ++ new') k) w'/\Ext ρ H w ρ' (newRowA (H.set b .none) (old' ++ new') k) w':=by
 obtain⟨hpk,hc⟩:=h.cells hp hb
 have halive:H.get b≠.none:=by rw[hb];simp
 obtain⟨cells,e,fr,c1,c2,c3,c4,c5,c6⟩:=hc
 have hfit':p.s+o+n*size+0+new.length<=cells.size:=by rw[c2];omega
 have hrun:=run_store_cells (P:=E.P) (p.s+o+n*size) new 0 cells w c1 hfit' (fun o ho=>c5 o (.inl ho)) h1
 have hlt:=(Array.getElem?_eq_some_iff.1 c1).1
 have hkill:=h.kill halive
 have hnext:(H.set b .none).next=H.next:=Heap.next_set _ _ _
 have hnotheld:¬Held ρ (H.set b .none) p.c:=by
  rintro⟨b',q,hb',hq,hqc⟩
  by_cases e:b'=b
  · subst e;rw[Heap.get_set_same H _ halive]at hb';exact hb' rfl
  · rw[Heap.get_set_ne H _ e]at hb'
    exact e (h.inj b' b q p hb' halive hq hp hqc)
 have hother:∀c,c≠p.c → (withObj w p.c (.cells (splice cells (p.s+o+n*size+0) new) e fr)).heap[c]?=w.heap[c]?:=fun c hne=>by
  rw[withObj_heap _ _ _ _ hlt,if_neg hne]
 have hle:ρ.le (ρ.put H.next ⟨p.c,p.s+o,p.z-o,k⟩):=Rho.le_put (h.fresh _ (Nat.le_refl _))
 have holdlen:old'.length=n*size:=by rw[hold];simp;omega
 have hobj:ObjAt (ρ.put H.next ⟨p.c,p.s+o,p.z-o,k⟩) (withObj w p.c (.cells (splice cells (p.s+o+n*size+0) new) e fr)) H.next (.cells (old' ++ new') k):=by
  refine⟨_,Rho.put_same _ _ _,rfl,_,e,fr,by rw[withObj_heap _ _ _ _ hlt,if_pos rfl],by rw[splice_size,c2];simp only;omega,?_,fun h0=>absurd h0 hk,by rw[splice_size];exact fun o ho=>c5 o (.inl (ho.resolve_right hk)),fun i v' hv=>?_⟩
  · simp only[List.length_append,holdlen,<-hn.1];omega
  · simp only
    rw[splice_get _ _ _ _ hfit']
    by_cases hi:i<n*size
    · rw[List.getElem?_append_left (by omega),hold,List.getElem?_take_of_lt hi,List.getElem?_drop]at hv
      rw[if_neg (by omega)]
      obtain⟨v,a,b'⟩:=c6 _ v' hv
      exact⟨v,by rw[Nat.add_assoc];exact a,b'.mono hle⟩
    · rw[List.getElem?_append_right (by omega),holdlen]at hv
      obtain⟨v,a,b'⟩:=hn.get hv
      have hi2:=(List.getElem?_eq_some_iff.1 a).1
      rw[if_pos (by omega)]
      exact⟨v,by rw[show p.s+o+i-(p.s+o+n*size+0)=i-n*size by omega];exact a,b'.mono hle⟩
 have hadd:=hkill.addObj (p:=⟨p.c,p.s+o,p.z-o,k⟩) (o:=.cells (old' ++ new') k) (w':=withObj w p.c (.cells (splice cells (p.s+o+n*size+0) new) e fr)) hnotheld
  (fun c hc=>hother c (fun e=>hnotheld (e▸hc))) (by rw[hnext];exact hobj)
 rw[hnext]at hadd
 refine⟨_,_,hrun,Rho.put_same _ _ _,hadd,?_⟩
 exact { le:=hle,size:=by rw[withObj_size];exact Nat.le_refl _,keep:=fun c _ hnh=>hother c (fun e=>hnh ⟨b,p,halive,hp,e.symm⟩),
         range:=fun c hh=>by
          have hh:Held (ρ.put (H.set b .none).next ⟨p.c,p.s+o,p.z-o,k⟩) ((H.set b .none).add (.cells (old' ++ new') k)) c:=by rw[hnext];exact hh
          rcases Held.add hh with e|hh
          · exact .inr ⟨b,p,halive,hp,e.symm⟩
          · exact .inr (Held.set halive hh),
         dom:=fun x q hq=>by
          by_cases e:x=H.next
          · exact .inr (by omega)
          · rw[Rho.put_ne _ _ e]at hq;exact .inl hq
         next:=by show H.next<=((H.set b .none).add _).next;rw[Heap.next_add,hnext];omega,tape:=rfl,os:=rfl,output:=rfl,same:=Shape.of_cells hother c1 (by rw[withObj_heap _ _ _ _ hlt,if_pos rfl]) }
theorem Ext.of_kill {b:Nat} (hb:H.get b≠.none) (h:Ext ρ (H.set b .none) w ρ' H' w'):Ext ρ H w ρ' H' w' where
 le:=h.le
 size:=h.size
 keep c hc hn:=h.keep c hc (fun hh=>hn (Held.set hb hh))
 range c hc:=(h.range c hc).imp id (Held.set hb)
 dom b p hp:=(h.dom b p hp).imp id (fun x=>by rwa [Heap.next_set]at x)
 next:=by have:=h.next;rwa [Heap.next_set]at this
 tape:=h.tape
 os:=h.os
 output:=h.output
 same:=h.same
theorem append_sound (hE:EnvOk E) (h:HR E.ng ρ H w) {t u ty:TypeId} {s s' x x' v':Value} (hd:isInt (E.tt.und u)=some false) (hs:VR ρ s s') (hx:VR ρ x x') (ha:appendA E.tt H t s' x'=.ok v' H'):
 ∃ρ' v w',(Builtin.append_ #[t,u] ty #[s,x]).run E.P w=.ok v w'/\VR ρ' v v'/\HR E.ng ρ' H' w'/\Ext ρ H w ρ' H' w':=by
 obtain⟨d,hu,hdn⟩:=isInt_inv hE hd
 unfold appendA at ha
 cases hsz:appSize E.tt t with
 | none=>rw[hsz]at ha;cases ha
 | some size=>
   rw[hsz]at ha
   obtain⟨e,i,z,ht,hi,hisz,hz,hzs,hb1,hb0,hpos⟩:=appSize_inv hE hsz
   simp only[appLen]at ha
   cases hl:lenA x' with
   | none=>rw[hl]at ha;cases ha
   | some n=>
     rw[hl]at ha
     simp only[appSrc]at ha
     cases hsrc:srcCells H size n x' with
     | none=>rw[hsrc]at ha;cases ha
     | some new'=>
       rw[hsrc]at ha
       simp only at ha
       cases hq:(Nat.beq new'.length (n*size) && allOne new') with
       | false=>rw[hq]at ha;cases ha
       | true=>
         rw[hq]at ha
         simp only[Bool.and_eq_true]at hq
         have hnl:new'.length=n*size:=Nat.eq_of_beq_eq_true hq.1
         obtain⟨new,hnr,hnrun⟩:=src_sound h hx hl hsrc
         have hnew1:∀v ∈ new,oneCell v=true:=allOne_rel hnr hq.2
         have hnlen:new.length=n*size:=by rw[hnr.1,hnl]
         have hlen:=lenA_sound hx hl E.P
         simp only at ha
         cases s' with
         | slice a len cap=>
           cases a with
           | none=>
             cases hs
             simp only[appTo]at ha
             cases n with
             | zero=>
               cases ha
               refine⟨ρ,.slice none (0+0) 0,w,?_,.snil,h,Ext.refl _ _ _⟩
               exact run_append_near ht hu hdn hi hlen (by rw[hisz];exact hnrun w rfl) (Nat.le_refl _) (fun a e=>by cases e) (fun _=>rfl)
             | succ n=>
               simp only at ha
               cases hle:Nat.ble (n+1) 1048576 with
               | false=>rw[hle]at ha;cases ha
               | true=>
                 rw[hle]at ha
                 have hle:=Nat.le_of_ble_eq_true hle
                 simp only[fresh]at ha
                 cases ha
                 have hr:=run_append_far (w:=w) (ty:=ty) (base:=none) (sLen:=0) (sCap:=0) (old:=[]) (new:=new) ht hu hdn hi hz hlen rfl (by rw[hisz];exact hnrun w.drew rfl) (by omega) (by omega) hb1 hb0
                 rw[Nat.zero_add]at hr
                 exact freshRes h hzs hpos (grownCap_ge _ _ _ _) (by simpa using hnlen) (LR.nil ρ) hnr hr
           | some a=>
             obtain⟨b,o,sp⟩:=a
             have ha:(match Nat.ble (len+n) 1048576 with|true=>appIn H b o len cap size n new' (H.get b)|false=>.bad)=.ok v' H':=ha
             cases hsm:Nat.ble (len+n) 1048576 with
             | false=>rw[hsm]at ha;cases ha
             | true=>
               rw[hsm]at ha
               have hsm:=Nat.le_of_ble_eq_true hsm
               simp only at ha
               obtain⟨p,hp,hcase⟩:=slice_inv hs
               cases hob:H.get b<;>rw[hob]at ha<;>simp only[appIn]at ha<;>try (cases ha;done)
               rename_i cs k
               obtain⟨hpk,hcells⟩:=h.cells hp hob
               cases hnear:Nat.ble (len+n) cap with
               | true=>
                 rw[hnear]at ha
                 have hnear:=Nat.le_of_ble_eq_true hnear
                 simp only at ha
                 cases hnew':new' with
                 | nil=>
                   rw[hnew']at ha hnl hnr
                   cases ha
                   have hn0:n=0:=by
                    rcases Nat.mul_eq_zero.1 (by simpa using hnl.symm) with h|h
                    · exact h
                    · omega
                   have hnil:=hnr.nil_inv
                   subst hnil;subst hn0
                   rcases hcase with⟨c,rfl,hc,h0,hk⟩|⟨a,c,rfl,rfl,rfl,hk⟩
                   · exact⟨ρ,_,w,run_append_near ht hu hdn hi hlen (by rw[hisz];exact hnrun w rfl) (Nat.le_trans hnear hc) (fun a e=>rfl) (fun e=>by cases e),.slice hp hc h0 hk,h,Ext.refl _ _ _⟩
                   · exact⟨ρ,_,w,run_append_near ht hu hdn hi hlen (by rw[hisz];exact hnrun w rfl) (Nat.zero_le _) (fun a e=>rfl) (fun e=>by cases e),.sempty _ hp hk,h,Ext.refl _ _ _⟩
                 | cons y ys=>
                   rw[hnew']at ha
                   rw[<-hnew']at ha
                   have ha:appNear b o len cap n (writeCells H b (o+len*size) new')=.ok v' H':=by rw[hnew']at ha;simpa[hnew'] using ha
                   cases hwr:writeCells H b (o+len*size) new' with
                   | none=>rw[hwr]at ha;cases ha
                   | some H1=>
                     rw[hwr]at ha
                     cases ha
                     obtain⟨w',g1,g2,g3⟩:=write_cells h hp hwr hnr hnew1
                     rcases hcase with⟨c,rfl,hc,h0,hk⟩|⟨a,c,rfl,rfl,rfl,hk⟩
                     · refine⟨ρ,_,w',run_append_near ht hu hdn hi hlen (by rw[hisz];exact hnrun w rfl) (Nat.le_trans hnear hc) (fun a e=>?_) (fun e=>by cases e),.slice hp hc h0 hk,g2,g3⟩
                       cases e
                       rw[addr_add,hisz,Nat.add_assoc]
                       rw[<-Nat.add_assoc]at g1
                       rw[<-Nat.add_assoc]
                       exact g1
                     · exfalso
                       have hn0:n=0:=by omega
                       rw[hn0,Nat.zero_mul,hnew']at hnl
                       simp at hnl
               | false=>
                 rw[hnear]at ha
                 have hfar:cap<len+n:=by
                  rcases Nat.lt_or_ge cap (len+n) with h|h
                  · exact h
                  · rw[Nat.ble_eq_true_of_le h]at hnear;cases hnear
                 simp only at ha
                 cases hold:takeL (len*size) (dropL o cs) with
                 | none=>rw[hold]at ha;cases ha
                 | some old'=>
                   rw[hold]at ha
                   simp only[appFar]at ha
                   have hread:readCells H b o (len*size)=some old':=by simp only[readCells,hob];exact hold
                   obtain⟨old,ho1,ho2,ho3⟩:=read_cells h hp hread
                   rw[dropL_eq]at hold
                   obtain⟨hol,hoe⟩:=takeL_some hold
                   have hgrow:∀H0,HR E.ng ρ H0 w->∀c,s=.slice (some ⟨p.c,p.s+o,none⟩) len c->c<len+n->∃ρ' v w',(Builtin.append_ #[t,u] ty #[s,x]).run E.P w=.ok v w'/\VR ρ' v (.slice (some ⟨H0.next,0,none⟩) (len+n) (len+n)) /\
                      HR E.ng ρ' (newRowA H0 (old' ++ new') size) w'/\Ext ρ H0 w ρ' (newRowA H0 (old' ++ new') size) w':=by
                    intro H0 h0w c hse hcl
                    subst hse
                    have hfo:(Builtin.firstCells i.size len (.slice (some ⟨p.c,p.s+o,none⟩) len c)).run E.P w.drew=.ok ⟨old⟩ w.drew:=by
                     have hrun:=run_loadCells_list (P:=E.P) w.drew ⟨p.c,p.s+o,none⟩ old (fun j v hv=>by
                      rw[addr_add];exact ho3 j v hv)
                     rw[ho2]at hrun
                     rw[hisz];exact hrun
                    have hr:=run_append_far (w:=w) (ty:=ty) (base:=some ⟨p.c,p.s+o,none⟩) (sLen:=len) (sCap:=c) (old:=old) (new:=new) ht hu hdn hi hz hlen hfo (by rw[hisz];exact hnrun w.drew rfl) hcl hsm hb1 hb0
                    exact freshRes h0w hzs hpos (grownCap_ge _ _ _ _) (by rw[List.length_append,ho2,hnlen,<-Nat.add_mul]) ho1 hnr hr
                   cases k with
                   | zero=>
                     simp only[fresh]at ha
                     cases ha
                     rcases hcase with⟨c,hse,hc,h0,hk⟩|⟨a,c,rfl,rfl,rfl,hk⟩
                     · exact hgrow H h c hse (by rw[h0 hpk];exact hfar)
                     · exact absurd hpk hk
                   | succ k=>
                     simp only at ha
                     cases hq2:(Nat.beq (k+1) size && Nat.beq (o+len*size) cs.length && Nat.blt 0 cap) with
                     | false=>rw[hq2]at ha;cases ha
                     | true=>
                       rw[hq2]at ha
                       simp only[Bool.and_eq_true,Nat.blt_eq]at hq2
                       obtain⟨⟨q1,q2⟩,q3⟩:=hq2
                       have q1:=Nat.eq_of_beq_eq_true q1
                       have q2:=Nat.eq_of_beq_eq_true q2
                       simp only[fresh]at ha
                       cases ha
                       rcases hcase with⟨c,hse,hc,h0,hk⟩|⟨a,c,rfl,rfl,rfl,hk⟩
                       · rcases Nat.lt_or_ge c (len+n) with hcl|hcl
                         ·
                          have hal:H.get b≠.none:=by rw[hob];simp
                          obtain⟨ρ',v,w',r1,r2,r3,r4⟩:=hgrow _ (h.kill hal) c hse hcl
                          exact⟨ρ',v,w',r1,r2,r3,r4.of_kill hal⟩
                         ·
                          subst hse
                          have hkk:p.k≠0:=by rw[hpk];omega
                          have hroom:=hk hkk
                          have hfit:o+len*size+new.length<=p.z:=by
                           rw[hnlen,hpk,q1]at *
                           have e1:len*size+n*size=(len+n)*size:=by rw[Nat.add_mul]
                           have e2:size*(len+n)<=size*c:=Nat.mul_le_mul_left _ hcl
                           have e3:size*(len+n)=(len+n)*size:=Nat.mul_comm _ _
                           omega
                          obtain⟨ρ',w',m1,m2,m3,m4⟩:=move_sound h hp hob (by omega) q1 q2 hoe hnr hnew1 hfit
                          rw[q1]at m2 m3 m4
                          refine⟨ρ',.slice (some ⟨p.c,p.s+o,none⟩) (len+n) c,w',?_,?_,?_,?_⟩
                          · refine run_append_near ht hu hdn hi hlen (by rw[hisz];exact hnrun w rfl) hcl (fun a e=>?_) (fun e=>by cases e)
                            cases e
                            rw[addr_add,hisz]
                            exact m1
                          · have hn2:(H.set b .none).next=H.next:=Heap.next_set _ _ _
                            rw[hn2]
                            refine VR.slice (o:=0) (p:=⟨p.c,p.s+o,p.z-o,size⟩) m2 hcl (fun h0=>absurd h0 (by simp only;omega)) (fun _=>?_)
                            simp only
                            have:p.k=size:=by rw[hpk];exact q1
                            rw[this]at hroom
                            omega
                          · exact m3
                          · exact m4
                       · omega
         | _=>simp only[appTo]at ha;cases ha
theorem src_zero {size:Nat} {x:Value} {l:List Value} (h:srcCells H size 0 x=some l):l=[]:=by
 have hz:∀(m:List Value) (r:List Value),takeL 0 m=some r->r=[]:=fun m r hr=>by obtain⟨_,e⟩:=takeL_some hr;simpa using e
 cases x with
 | slice a len cap=>
   cases a with
   | none=>cases h;rfl
   | some a=>
     obtain⟨b,o,s⟩:=a
     have h:readCells H b o (0*size)=some l:=h
     rw[Nat.zero_mul]at h
     unfold readCells at h
     cases hb:H.get b<;>rw[hb]at h<;>simp only at h<;>try (cases h;done)
     exact hz _ _ h
 | string bs=>obtain⟨⟨s⟩⟩:=bs;exact hz (ofBytes s) _ h
 | _=>cases h
theorem copy_sound (hE:EnvOk E) (h:HR E.ng ρ H w) {A:Array TypeId} {t ty:TypeId} {d d' x x' v':Value} (hA:A[0]?=some t) (hd:VR ρ d d') (hx:VR ρ x x') (hc:copyA H d' x' (elemA E.tt t)=.ok v' H'):
 ∃v w',(Builtin.copy_ A ty #[d,x]).run E.P w=.ok v w'/\VR ρ v v'/\HR E.ng ρ H' w'/\Ext ρ H w ρ H' w':=by
 cases he:elemA E.tt t with
 | none=>rw[he]at hc;cases hc
 | some e=>
   rw[he]at hc
   obtain⟨hu,hsz⟩:=elemA_inv hE he
   obtain⟨e,size⟩:=e
   simp only at hu hsz
   simp only[copyA]at hc
   cases d' with
   | slice a len cap=>
     simp only at hc
     cases hl:lenA x' with
     | none=>rw[hl]at hc;cases hc
     | some m=>
       rw[hl]at hc
       simp only at hc
       cases hsrc:srcCells H size (Nat.min m len) x' with
       | none=>rw[hsrc]at hc;cases hc
       | some l'=>
         rw[hsrc]at hc
         obtain⟨l,h1,h2⟩:=src_sound_le h hx hl (Nat.min_le_left m len) hsrc
         have hlen:=lenA_sound hx hl E.P
         obtain⟨base,c0,rfl⟩:∃base c0,d=.slice base len c0:=by cases hd<;>exact⟨_,_,rfl⟩
         have hrun:∀w',(∀a,base=some a → (storeCells a l).run E.P w=.ok () w') → (base=none->w'=w) → (Builtin.copy_ A ty #[.slice base len c0,x]).run E.P w=.ok (goInt (Nat.min m len)) w':=by
          intro w' g1 g2
          cases base with
          | none=>have:=g2 rfl;subst this;simp[Builtin.copy_,hA,run_underlying hu,Result.andThen,hlen,run_sizeOf_eq hE hsz,h2 w' rfl]
          | some a=>simp[Builtin.copy_,hA,run_underlying hu,Result.andThen,hlen,run_sizeOf_eq hE hsz,h2 w rfl,g1 a rfl]
         cases hl':l' with
         | nil=>
           rw[hl']at hc h1
           cases hc
           have:=h1.nil_inv
           subst this
           exact⟨_,w,hrun w (fun a _=>rfl) (fun _=>rfl),.int _ _,h,Ext.refl _ _ _⟩
         | cons y ys=>
           rw[hl']at hc
           simp only[copyTo]at hc
           cases a with
           | none=>cases hc
           | some a=>
             obtain⟨b,o,s⟩:=a
             simp only at hc
             cases ho:allOne (y :: ys) with
             | false=>rw[ho]at hc;cases hc
             | true=>
               rw[ho]at hc
               simp only at hc
               cases hw:writeCells H b o (y :: ys) with
               | none=>rw[hw]at hc;cases hc
               | some H1=>
                 rw[hw]at hc
                 cases hc
                 rw[hl']at h1
                 obtain⟨p,hp,⟨c,hse,-⟩|⟨a,c,hse,h0,-⟩⟩:=slice_inv hd
                 · cases hse
                   obtain⟨w',g1,g2,g3⟩:=write_cells h hp hw h1 (allOne_rel h1 ho)
                   exact⟨_,w',hrun w' (fun a e=>by cases e;exact g1) (fun e=>by cases e),.int _ _,g2,g3⟩
                 · exfalso
                   subst h0
                   rw[show Nat.min m 0=0 from Nat.min_zero m]at hsrc
                   have:=src_zero hsrc
                   rw[this]at hl';cases hl'
   | _=>simp only at hc;cases hc
theorem clear_sound (hE:EnvOk E) (h:HR E.ng ρ H w) {A:Array TypeId} {t ty:TypeId} {x x' v':Value} (hA:A[0]?=some t) (hx:VR ρ x x') (hc:clearA E.tt H x' (elemA E.tt t)=.ok v' H'):
 ∃v w',(Builtin.clear_ A ty #[x]).run E.P w=.ok v w'/\VR ρ v v'/\HR E.ng ρ H' w'/\Ext ρ H w ρ H' w':=by
 cases he:elemA E.tt t with
 | none=>rw[he]at hc;cases hc
 | some e=>
   rw[he]at hc
   obtain⟨hu,hsz⟩:=elemA_inv hE he
   obtain⟨e,size⟩:=e
   simp only at hu hsz
   simp only[clearA]at hc
   cases x' with
   | slice a len cap=>
     cases a with
     | none=>
       cases hc
       cases hx
       exact⟨.tuple #[],w,by simp[Builtin.clear_,hA,run_underlying hu,Result.andThen],.undef,h,Ext.refl _ _ _⟩
     | some a=>
       obtain⟨b,o,s⟩:=a
       have hc:clearTo H b o (zeros E.tt e len)=.ok v' H':=hc
       cases hz:zeros E.tt e len with
       | none=>rw[hz]at hc;cases hc
       | some z=>
         rw[hz]at hc
         obtain⟨i,z0,hi,hzi,hzs,hpos,rfl,hlr⟩:=zeros_inv hE hz
         obtain⟨p,hp,hcase⟩:=slice_inv hx
         cases len with
         | zero=>
           have hc:clearTo H b o (some [])=.ok v' H':=hc
           cases hc
           rcases hcase with⟨c,rfl,-⟩|⟨a,c,rfl,-⟩
           · exact⟨.tuple #[],w,by simp[Builtin.clear_,hA,run_underlying hu,Result.andThen],.undef,h,Ext.refl _ _ _⟩
           · exact⟨.tuple #[],w,by simp[Builtin.clear_,hA,run_underlying hu,Result.andThen],.undef,h,Ext.refl _ _ _⟩
         | succ len=>
           rcases hcase with⟨c,rfl,-⟩|⟨a,c,-,h0,-⟩
           · have hrun:∀w',(storeCells ⟨p.c,p.s+o,none⟩ (repl (len+1) z0.cells.toList)).run E.P w=.ok () w' → (Builtin.clear_ A ty #[.slice (some ⟨p.c,p.s+o,none⟩) (len+1) c]).run E.P w=.ok (.tuple #[]) w':=by
              intro w' g
              have hzc:Builtin.zeroCells z0.cells (len+1)=⟨repl (len+1) z0.cells.toList⟩:=zeros_eq (len+1) z0.cells (by rw[hzs];exact hpos)
              simp[Builtin.clear_,hA,run_underlying hu,Result.andThen,runZero hi hzi,hzc,g]
             cases hl':repl (len+1) z0.cells.toList with
             | nil=>
               have:=repl_length (len+1) z0.cells.toList
               rw[hl']at this
               have e1:(len+1)*z0.cells.toList.length=0:=this.symm
               rcases Nat.mul_eq_zero.1 e1 with h|h
               · omega
               · rw[Array.length_toList]at h;omega
             | cons y ys=>
               rw[hl']at hc
               have hc:(match allOne (y :: ys) with|true=>ounit (writeCells H b o (y :: ys))|false=>.bad)=Out.ok v' H':=hc
               cases ho:allOne (y :: ys) with
               | false=>rw[ho]at hc;cases hc
               | true=>
                 rw[ho]at hc
                 simp only at hc
                 cases hw:writeCells H b o (y :: ys) with
                 | none=>rw[hw]at hc;cases hc
                 | some H1=>
                   rw[hw]at hc
                   cases hc
                   have hlr:=hlr ρ
                   rw[hl']at hlr hrun
                   obtain⟨w',g1,g2,g3⟩:=write_cells h hp hw hlr (allOne_rel hlr ho)
                   exact⟨.tuple #[],w',hrun w' g1,.undef,g2,g3⟩
           · cases h0
   | _=>cases hc
theorem bytesA_sound {l l':List Value} {bs:List UInt8} (hl:LR ρ l l') (hb:bytesA l'=some bs):∃ns:List Int,l=ns.map (Value.int .u8)/\bs=ns.map fun n=>UInt8.ofNat n.toNat:=by
 induction l' generalizing l bs with
 | nil=>rw[hl.nil_inv];cases hb;exact⟨[],rfl,rfl⟩
 | cons v t ih=>
   obtain⟨x,y,rfl,hx,hy⟩:=hl.cons_inv
   simp only[bytesA]at hb
   cases hv:byteA v with
   | none=>rw[hv]at hb;cases hb
   | some b=>
     rw[hv]at hb
     simp only at hb
     cases ht:bytesA t with
     | none=>rw[ht]at hb;cases hb
     | some r=>
       rw[ht]at hb
       cases hb
       obtain⟨ns,h1,h2⟩:=ih hy ht
       unfold byteA at hv
       split at hv
       · cases hv
         rename_i n
         refine⟨(n:Int) :: ns,?_,?_⟩
         · rw[h1,hx.int_inv];rfl
         · rw[h2];rfl
       · cases hv
theorem foldl_push:∀(ns:List Int) (acc:ByteArray),(ns.foldl (fun r n=>r.push (UInt8.ofNat n.toNat)) acc).data.toList=acc.data.toList ++ ns.map fun n=>UInt8.ofNat n.toNat
 | [],acc=>by simp
 | n :: ns,acc=>by
   rw[List.foldl_cons,foldl_push ns]
   simp[ByteArray.push]
theorem loadBytes_run {P:Program} (w:World) (c:Nat):∀(ns:List Int) (o:Nat) (acc:ByteArray),(∀(j:Nat) v,(ns.map (Value.int .u8))[j]?=some v->w.cell? ⟨c,o+j,none⟩=some v) ->
 ∃r,(Extern.Bytes.loadBytes ⟨c,o,none⟩ ns.length acc).run P w=.ok r w/\r.data.toList=acc.data.toList ++ ns.map fun n=>UInt8.ofNat n.toNat
 | [],o,acc,_=>⟨acc,rfl,by simp⟩
 | n :: ns,o,acc,h=>by
   have h0:=h 0 (.int .u8 n) rfl
   obtain⟨r,h1,h2⟩:=loadBytes_run (P:=P) w c ns (o+1) (acc.push n.toNat.toUInt8) (fun j v hv=>by
     have:=h (j+1) v (by simpa using hv)
     rwa [show o+(j+1)=o+1+j by omega]at this)
   refine⟨r,?_,?_⟩
   · simp only[List.length_cons,Extern.Bytes.loadBytes,Sem.run_bind,run_load]
     have h0:w.cell? ⟨c,o,none⟩=some (.int .u8 n):=h0
     simp only[h0,Result.andThen,addr_add]
     exact h1
   · rw[h2];simp[ByteArray.push]
theorem isByteSl_inv (hE:EnvOk E) {t:TypeId} (h:isByteSl E.tt t=true):∃e,E.P.underlying t=some (.slice e)/\E.P.underlying e=some (.int .u8):=by
 unfold isByteSl at h
 split at h
 · rename_i e he
   obtain⟨hu,_⟩:=elemA_inv hE he
   split at h
   · rename_i hd;exact⟨e,hu,und_eq hE hd⟩
   · cases h
 · cases h
theorem isStr_inv (hE:EnvOk E) {t:TypeId} (h:isStr E.tt t=true):E.P.underlying t=some .string:=by
 unfold isStr at h
 split at h
 · rename_i hd;exact und_eq hE hd
 · cases h
theorem ofBytes_row (l:List UInt8) (n:Nat):∃rest,bytesRow ⟨⟨l⟩⟩ n=⟨ofBytes l ++ rest⟩:=by
 refine⟨List.replicate (n-l.length) (.int .u8 0),?_⟩
 apply Array.ext'
 rw[ofBytes_eq]
 simp[bytesRow]
 rfl
theorem bytes_string (hE:EnvOk E) (h:HR E.ng ρ H w) {s d:TypeId} {x x' v':Value} {n:Nat} (hx:VR ρ x x') (hl:lenA x'=some n) (hsl:∃a l c,x'=.slice a l c) (hs:isByteSl E.tt s=true) (hd:isStr E.tt d=true)
 (hv:strOf (srcCells H 1 n x')=some v'):(convert s d x).run E.P w=.ok v' w/\free v'=true:=by
 obtain⟨e,hu,he⟩:=isByteSl_inv hE hs
 have hd:=isStr_inv hE hd
 cases hsrc:srcCells H 1 n x' with
 | none=>rw[hsrc]at hv;cases hv
 | some l'=>
   rw[hsrc]at hv
   simp only[strOf]at hv
   cases hb:bytesA l' with
   | none=>rw[hb]at hv;cases hv
   | some bs=>
     rw[hb]at hv
     cases hv
     refine⟨?_,rfl⟩
     obtain⟨l,h1,h2⟩:=src_sound h hx hl hsrc
     obtain⟨ns,rfl,rfl⟩:=bytesA_sound h1 hb
     obtain⟨a,len,c,rfl⟩:=hsl
     cases hl
     obtain⟨a0,c0,rfl⟩:∃a0 c0,x=.slice a0 n c0:=by cases hx<;>exact⟨_,_,rfl⟩
     rw[run_convert_bytes_string w s d e a0 n c0 hu he hd]
     cases a0 with
     | none=>
       have hf:(Builtin.firstCells 1 n (.slice none n c0)).run E.P w=.ok ⟨[]⟩ w:=rfl
       rw[h2 w rfl]at hf
       have:ns.map (Value.int .u8)=[]:=by injection hf with a;injection a
       have hns:ns=[]:=by simpa using this
       subst hns
       rfl
     | some a0=>
       have hf:=h2 w rfl
       simp only[Builtin.firstCells,Nat.mul_one]at hf
       rw[run_bytesToString w a0 n c0 ns hf]
       congr 2
       apply ByteArray.ext
       apply Array.ext'
       rw[foldl_push]
       simp
theorem bytes_row_string (hE:EnvOk E) (h:HR E.ng ρ H w) {s d:TypeId} {l:List UInt8} {v':Value} (hs:isStr E.tt s=true) (hd:isByteSl E.tt d=true) (hf:fresh H (ofBytes l) l.length 1=.ok v' H'):
 ∃ρ' v w',(convert s d (.string ⟨⟨l⟩⟩)).run E.P w=.ok v w'/\VR ρ' v v'/\HR E.ng ρ' H' w'/\Ext ρ H w ρ' H' w':=by
 obtain⟨e,hu,he⟩:=isByteSl_inv hE hd
 have hss:=isStr_inv hE hs
 have hrun:=run_bytes_of_string w s d e ⟨⟨l⟩⟩ hss hu he
 simp only[fresh]at hf
 cases hf
 obtain⟨rest,hrow⟩:=ofBytes_row l (grownCap w l.length 0 e)
 have hsz:(⟨⟨l⟩⟩:ByteArray).size=l.length:=rfl
 rw[hsz,hrow]at hrun
 have hp:ObjAt (ρ.put H.next ⟨w.heap.size,0,(ofBytes l ++ rest).length,1⟩) (w.drew.alloc (.cells ⟨ofBytes l ++ rest⟩ e ((⟨ofBytes l ++ rest⟩:Array Value).size,(⟨ofBytes l ++ rest⟩:Array Value).size+1))) H.next (.cells (ofBytes l) 1):=by
  refine⟨_,Rho.put_same _ _ _,rfl,_,_,_,alloc_new w.drew _,by simp,by simp,fun h0=>absurd h0 Nat.one_ne_zero,fun o ho=>by simp at ho ⊢;omega,fun i v' hv=>?_⟩
  have hi:=(List.getElem?_eq_some_iff.1 hv).1
  refine⟨v',?_,LR.of_free _ _ (freeL_ofBytes l) i _ _ hv hv⟩
  simp only[Nat.zero_add,List.getElem?_toArray,List.getElem?_append_left hi]
  exact hv
 obtain⟨h1,h2⟩:=ext_alloc (w':=w.drew.alloc (.cells ⟨ofBytes l ++ rest⟩ e ((⟨ofBytes l ++ rest⟩:Array Value).size,(⟨ofBytes l ++ rest⟩:Array Value).size+1))) h _ _ _ rfl rfl rfl rfl rfl hp
 refine⟨_,_,_,hrun,?_,h1,h2⟩
 have hge:=grownCap_ge w l.length 0 e
 refine VR.slice (o:=0) (p:=⟨w.heap.size,0,(ofBytes l ++ rest).length,1⟩) (Rho.put_same _ _ _) hge (fun h0=>absurd h0 Nat.one_ne_zero) (fun _=>?_)
 have hlen:(ofBytes l ++ rest).length=(bytesRow ⟨⟨l⟩⟩ (grownCap w l.length 0 e)).size:=by rw[hrow];rfl
 simp only[hlen]
 simp[bytesRow]
 show grownCap w l.length 0 e<=l.length+(grownCap w l.length 0 e-l.length)
 omega
theorem conv_sound (hE:EnvOk E) (h:HR E.ng ρ H w) {ev:Operand->Value} {t:Tr Value} {o:Oper} {s d:TypeId} {x:Operand} {v':Value} (ho:o.op=.convert s d x) (hx:VR ρ (ev x) (evA t x)) (hc:convA E H t o s d (evA t x)=.ok v' H'):
 OpRes E ρ H w (execOp ev o) v' H':=by
 have hexec:execOp ev o=(do pure (Next.value (<-convert s d (ev x)))):=by
  obtain⟨dst,op',type,pos,after,guard⟩:=o
  simp only at ho;subst ho;rfl
 have pureCase:oval H (pureOp E.P t o (free (evA t x)))=.ok v' H'->OpRes E ρ H w (execOp ev o) v' H':=by
  intro hv
  obtain⟨hv2,rfl⟩:=oval_inv hv
  unfold pureOp at hv2
  cases hf:free (evA t x) with
  | false=>rw[hf]at hv2;cases hv2
  | true=>
    rw[hf]at hv2
    simp only at hv2
    refine pureOp_sound h (by rw[ho];simp) (fun z hz=>?_) hv2
    rw[ho]at hz
    simp[Op.operands]at hz
    subst hz
    exact free_operands hx hf
 have slow:convSlow E H t o s d (evA t x)=.ok v' H'->OpRes E ρ H w (execOp ev o) v' H':=by
  intro hv
  generalize hxe:evA t x=x' at hv pureCase hx
  cases x' with
  | slice a n c=>
    have hv:(match isByteSl E.tt s && isStr E.tt d with|true=>oval H (strOf (srcCells H 1 n (.slice a n c)))|false=>.bad)=Out.ok v' H':=hv
    cases hb:(isByteSl E.tt s && isStr E.tt d) with
    | false=>rw[hb]at hv;cases hv
    | true=>
      rw[hb]at hv
      simp only[Bool.and_eq_true]at hb
      obtain⟨hv2,rfl⟩:=oval_inv hv
      obtain⟨h1,h2⟩:=bytes_string hE h hx rfl ⟨a,n,c,rfl⟩ hb.1 hb.2 hv2
      exact OpRes.ofSem h hexec h1 (VR.of_free ρ _ h2)
  | string bs=>
    obtain⟨⟨l⟩⟩:=bs
    have hv:(match isStr E.tt s && isByteSl E.tt d with|true=>fresh H (ofBytes l) l.length 1|false=>oval H (pureOp E.P t o (free (.string ⟨⟨l⟩⟩))))=Out.ok v' H':=hv
    cases hb:(isStr E.tt s && isByteSl E.tt d) with
    | false=>rw[hb]at hv;exact pureCase hv
    | true=>
      rw[hb]at hv
      simp only[Bool.and_eq_true]at hb
      obtain⟨ρ',v,w',h1,h2,h3,h4⟩:=bytes_row_string hE h hb.1 hb.2 hv
      rw[hx.string_inv]at hexec
      exact⟨ρ',v,w',.inl (by rw[hexec];exact run_v h1),h2,h3,h4⟩
  | _=>exact pureCase hv
 unfold convA at hc
 split at hc
 · rename_i k n hxe
   cases hi:intTo E.tt s d n with
   | none=>rw[hi]at hc;exact slow hc
   | some u=>
     rw[hi]at hc
     cases hc
     unfold intTo at hi
     split at hi
     · rename_i k' hd
       cases hsd0:E.tt.und s with
       | none=>rw[hsd0]at hi;cases hi
       | some sd=>
       rw[hsd0]at hi
       cases hi
       rw[hxe]at hx
       have hxv:=hx.int_inv
       have hsd:=und_eq hE hsd0
       refine OpRes.ofSem h hexec (v:=fit k' n) ?_ (VR.of_free ρ _ (free_fit _ _))
       rw[hxv,fit_eq]
       simp[convert,run_underlying hsd,run_underlying (und_eq hE hd),Result.andThen,Conv.intToInt]
     · cases hi
 · exact slow hc
inductive IR (ρ:Rho):List AItem->List Item->Prop
 | nil:IR ρ [] []
 | code (c:Code) {k:List AItem} {k':List Item} (t:IR ρ k k'):IR ρ (.code c :: k) (.code c :: k')
 | inBlock (id:Nat) {k:List AItem} {k':List Item} (t:IR ρ k k'):IR ρ (.inBlock id :: k) (.inBlock id :: k')
 | inLoop (c:Code) {k:List AItem} {k':List Item} (t:IR ρ k k'):IR ρ (.inLoop c :: k) (.inLoop c :: k')
 | inScope (c:Code) {k:List AItem} {k':List Item} (t:IR ρ k k'):IR ρ (.inScope c :: k) (.inScope c :: k')
 | beginRound {k:List AItem} {k':List Item} (t:IR ρ k k'):IR ρ (.beginRound :: k) (.beginRound :: k')
 | endRange {b l:Nat} (h:ρ b=some ⟨l,0,0,0⟩) {k:List AItem} {k':List Item} (t:IR ρ k k'):IR ρ (.endRange b :: k) (.endRangeFunc l :: k')
theorem IR.mono (hle:ρ.le ρ') {k:List AItem} {k':List Item} (h:IR ρ k k'):IR ρ' k k':=by
 induction h with
 | nil=>exact .nil
 | code c _ ih=>exact .code c ih
 | inBlock id _ ih=>exact .inBlock id ih
 | inLoop c _ ih=>exact .inLoop c ih
 | inScope c _ ih=>exact .inScope c ih
 | beginRound _ ih=>exact .beginRound ih
 | endRange h _ ih=>exact .endRange (hle _ _ h) ih
inductive DR (ρ:Rho):List Nat->List Deferred->Prop
 | nil:DR ρ [] []
 | cons {b r:Nat} (h:ρ b=some ⟨r,0,0,0⟩) {d:List Nat} {d':List Deferred} (t:DR ρ d d'):DR ρ (b :: d) ({ target:=.collected r,args:=#[] } :: d')
theorem DR.mono (hle:ρ.le ρ') {d:List Nat} {d':List Deferred} (h:DR ρ d d'):DR ρ' d d':=by
 induction h with
 | nil=>exact .nil
 | cons h _ ih=>exact .cons (hle _ _ h) ih
structure FrR (ρ:Rho) (c:Cx) (d:List Nat) (todo:List AItem) (t:Tr Value) (fr:Frame):Prop where
 fn:fr.fn=c.fn
 mode:fr.mode=.run
 kind:fr.kind=.normal
 tmps:TR ρ fr.tmps t c.nt
 todo:IR ρ todo fr.todo
 defers:DR ρ d fr.defers
 round:match c.round with
  | none=>fr.roundOf=none
  | some b=>∃l,ρ b=some ⟨l,0,0,0⟩/\fr.roundOf=some l
def Ends (P:Program) (fr:Frame) (cs:List Frame) (w:World) (v:Value) (w':World):Prop:=
 (fr.roundOf=none->∃fr',Steps P (lone fr cs w) (lone fr' cs w')/\fr'.fn=fr.fn/\fr'.leaving P w' (.returned v)) /\
 (fr.roundOf≠none->∀c cs',cs=c :: cs'->Steps P (lone fr cs w) (lone (c.finish v) cs' w'))
theorem Ends.finish {P:Program} {fr c:Frame} {cs:List Frame} {v:Value} (h:Ends P fr (c :: cs) w v w'):Steps P (lone fr (c :: cs) w) (lone (c.finish v) cs w'):=by
 by_cases hr:fr.roundOf=none
 · obtain⟨fr',h1,_,h2⟩:=h.1 hr
   exact Steps.trans h1 (.one (step_leave_returned h2))
 · exact h.2 hr c cs rfl
def SoundEx (E:Env) (ex:Ex):Prop:=
 ∀c d todo t H v' H',ex c d todo t H=.ok v' H'->∀ρ fr w cs,FrR ρ c d todo t fr->HR E.ng ρ H w->∃ρ' v w',Ends E.P fr cs w v w'/\VR ρ' v v'/\HR E.ng ρ' H' w'/\Ext ρ H w ρ' H' w'
def App (P:Program) (fr:Frame) (cs:List Frame) (s:Sem Next) (w:World) (v:Value) (w':World):Prop:=
 ∃fr1 cs1 w1,(stepG.apply P true fr cs none s w).bare=.go { frame:=fr1,callers:=cs1,status:=.running,dying:=none } w1/\Steps P (lone fr1 cs1 w1) (lone (fr.finish v) cs w')
def OpGo (E:Env) (ρ:Rho) (H:Heap) (w:World) (fr:Frame) (cs:List Frame) (s:Sem Next) (v':Value) (H':Heap):Prop:=
 ∃ρ' v w',App E.P fr cs s w v w'/\VR ρ' v v'/\HR E.ng ρ' H' w'/\Ext ρ H w ρ' H' w'
theorem App.value {P:Program} {fr:Frame} {cs:List Frame} {s:Sem Next} {v:Value} (h:s.run P w=.ok (.value v) w'):App P fr cs s w v w':=
 ⟨fr.finish v,cs,w',by simp[stepG.apply,Sem.runT_eq,h,GStep.bare_after],Steps.refl _ _⟩
theorem App.skip {P:Program} {fr:Frame} {cs:List Frame} {s:Sem Next} (h:s.run P w=.ok .skip w'):App P fr cs s w undef w':=
 ⟨fr.finish undef,cs,w',by simp[stepG.apply,Sem.runT_eq,h,GStep.bare_after],Steps.refl _ _⟩
theorem OpRes.go {s:Sem Next} {v':Value} (h:OpRes E ρ H w s v' H') (fr:Frame) (cs:List Frame):OpGo E ρ H w fr cs s v' H':=by
 obtain⟨ρ',v,w',h1|⟨h1,rfl⟩,h2⟩:=h
 · exact⟨ρ',v,w',.value h1,h2⟩
 · exact⟨ρ',undef,w',.skip h1,h2⟩
def Plain (fr:Frame):Prop:=∀d r s k,fr.todo≠.call d true r s :: k
theorem App.enter {P:Program} {fr:Frame} {cs:List Frame} {s:Sem Next} {f:FuncId} {args:Array Value} {w1:World} {v:Value} (hp:Plain fr) (h:s.run P w=.ok (.enter f args) w1)
 (hs:Steps P (lone (Frame.enter P f args .normal) (fr :: cs) w1) (lone (fr.finish v) cs w')):App P fr cs s w v w':=by
 refine⟨Frame.enter P f args .normal,fr :: cs,w1,?_,hs⟩
 simp only[stepG.apply,Sem.runT_eq,h,GStep.bare_after,if_true]
 simp only[GStep.bare]
 split
 · rename_i heq;exact absurd heq (hp _ _ _ _)
 · rfl
theorem App.round {P:Program} {fr:Frame} {cs:List Frame} {s:Sem Next} {l:Nat} {f:FuncId} {tmps:Array Value} {as bd:Code} {w1:World} {v:Value} (h:s.run P w=.ok (.round l f tmps as bd) w1)
 (hs:Steps P (lone (Frame.round l f tmps as bd .normal) (fr :: cs) w1) (lone (fr.finish v) cs w')):App P fr cs s w v w':=
 ⟨Frame.round l f tmps as bd .normal,fr :: cs,w1,by simp[stepG.apply,Sem.runT_eq,h,GStep.bare_after],hs⟩
structure EnvGood (E:Env):Prop extends EnvOk E where
 nog:∀f fn,E.ft.get none f=some fn → (fn.name == "runtime.NumGoroutine")=false
 cmp:∀f,E.ext f=.cmp->∀(a b:Value) (w w':World) v,(Extern.BytealgCompare.compare #[a,b]).run E.P w=.ok v w' → (callFunc f #[a,b]).run E.P w=.ok (.value v) w'
 add:∀f,E.ext f=.add->∀(a b:Value) (w w':World) v,(Extern.Atomic.update (Op.intArith .add) .i64 true #[a,b]).run E.P w=.ok v w' → (callFunc f #[a,b]).run E.P w=.ok (.value v) w'
 ovr:∀f g,E.ovr f=some g->∀(args args':List Value) ρ H w v' H',HR E.ng ρ H w->LR ρ args args'->g H args'=.ok v' H' ->
  (callFunc f ⟨args⟩).run E.P w=.ok (.enter f ⟨args⟩) w/\∀cs,∃ρ' v w' fr,Steps E.P (lone (Frame.enter E.P f ⟨args⟩ .normal) cs w) (lone fr cs w')/\fr.fn=f/\fr.leaving E.P w' (.returned v)/\VR ρ' v v'/\HR E.ng ρ' H' w'/\Ext ρ H w ρ' H' w'
theorem TR.put {a:Array Value} {t:Tr Value} {nt d:Nat} {v v':Value} (h:TR ρ a t nt) (hd:d<nt) (hv:VR ρ v v'):TR ρ (a.setIfInBounds d v) (t.set d v') nt:=by
 refine⟨by simp[h.size],fun j=>?_,fun j hj=>by rw[Tr.has_set];exact h.has j hj⟩
 by_cases e:j=d
 · subst e
   rw[Tr.get_set_same _ _ _ _ (h.has j hd)]
   have:j<a.size:=by rw[h.size];exact hd
   simp[this]
   exact hv
 · rw[Tr.get_set_other _ _ _ _ _ e]
   have:=h.rel j
   simp only[Array.getD_eq_getD_getElem?,Array.getElem?_setIfInBounds_ne (Ne.symm e)]at this ⊢
   exact this
theorem setArgs_get (d:Value):∀(l:List Value) (t:Tr Value) (i j:Nat),(∀k,i<=k->k<i+l.length->t.has k=true) ->
 (setArgs t i l).get d j=if i<=j/\j<i+l.length then(l[j-i]?).getD d else t.get d j
 | [],t,i,j,_=>by simp only[setArgs,List.length_nil];rw[if_neg (by omega)]
 | v :: l,t,i,j,h=>by
   simp only[List.length_cons]at h
   simp only[setArgs]
   rw[setArgs_get d l _ _ _ (fun k h1 h2=>by rw[Tr.has_set];exact h k (by omega) (by omega))]
   simp only[List.length_cons]
   by_cases h1:i+1<=j/\j<i+1+l.length
   · rw[if_pos h1,if_pos (by omega)]
     have:j-i=(j-(i+1))+1:=by omega
     rw[this,List.getElem?_cons_succ]
   · rw[if_neg h1]
     by_cases h2:j=i
     · subst h2
       rw[if_pos (by omega),Tr.get_set_same _ _ _ _ (h j (Nat.le_refl _) (by omega))]
       simp
     · rw[if_neg (by omega),Tr.get_set_other _ _ _ _ _ h2]
theorem setArgs_has:∀(l:List Value) (t:Tr Value) (i j:Nat),(setArgs t i l).has j=t.has j
 | [],_,_,_=>rfl
 | v :: l,t,i,j=>by simp only[setArgs];rw[setArgs_has l,Tr.has_set]
theorem enter_TR {args args':List Value} {nt:Nat} (h:args.length<=nt) (hl:LR ρ args args'):
 TR ρ ((⟨args⟩:Array Value) ++ Array.replicate (nt-args.length) undef) (setArgs (Tr.full Undef (depthOf nt)) 0 args') nt:=by
 have hfull:∀j,j<nt → (Tr.full Undef (depthOf nt)).has j=true:=fun j hj=>by
  refine Tr.has_full _ _ _ ?_
  have:=Nat.lt_log2_self (n:=nt)
  unfold depthOf
  have e:2 ^ (nt.log2+2)=2*2 ^ (nt.log2+1):=by rw[Nat.pow_succ 2 (nt.log2+1),Nat.mul_comm]
  rw[e];omega
 refine⟨by simp;omega,fun j=>?_,fun j hj=>by rw[setArgs_has];exact hfull j hj⟩
 rw[setArgs_get _ _ _ _ _ (fun k _ hk=>hfull k (by rw[<-hl.1]at hk;omega)),Tr.get_full]
 by_cases hj:j<args.length
 · rw[if_pos (by rw[<-hl.1];omega)]
   obtain⟨v,hv⟩:∃v,args[j]?=some v:=⟨_,List.getElem?_eq_getElem hj⟩
   obtain⟨v',hv'⟩:∃v',args'[j]?=some v':=⟨_,List.getElem?_eq_getElem (by rw[<-hl.1];exact hj)⟩
   have:=hl.2 j v v' hv hv'
   have e1:((⟨args⟩:Array Value) ++ Array.replicate (nt-args.length) undef).getD j undef=v:=by
    rw[Array.getD_eq_getD_getElem?,Array.getElem?_append_left (by simpa using hj)]
    simp[hv]
   rw[e1,Nat.sub_zero,hv']
   exact this
 · rw[if_neg (by rw[<-hl.1];omega)]
   have e1:((⟨args⟩:Array Value) ++ Array.replicate (nt-args.length) undef).getD j undef=undef:=by
    rw[Array.getD_eq_getD_getElem?,Array.getElem?_append_right (by simp;omega)]
    by_cases h2:j-args.length<nt-args.length
    · simp[Array.getElem?_replicate,h2]
    · simp[Array.getElem?_replicate,h2]
   rw[e1];exact .undef
theorem setParams_rel {nt:Nat}:∀ {ps:List Tmp} {args args':List Value} {a:Array Value} {t t':Tr Value},TR ρ a t nt->LR ρ args args'->setParams nt ps args' t=some t' ->
 args.length=ps.length/\TR ρ ((ps.zip args).foldl (fun tmps (x:Tmp × Value)=>tmps.setIfInBounds x.1 x.2) a) t' nt
 | [],args,args',a,t,t',h,hl,hs=>by
   cases args' with
   | nil=>rw[hl.nil_inv];cases hs;exact⟨rfl,h⟩
   | cons _ _=>cases hs
 | p :: ps,args,args',a,t,t',h,hl,hs=>by
   cases args' with
   | nil=>cases hs
   | cons v' l'=>
     obtain⟨v,l,rfl,hv,ht⟩:=hl.cons_inv
     simp only[setParams]at hs
     cases hb:Nat.blt p nt with
     | false=>rw[hb]at hs;cases hs
     | true=>
       rw[hb]at hs
       obtain⟨h1,h2⟩:=setParams_rel (h.put (by simpa[Nat.blt_eq] using hb) hv) ht hs
       exact⟨by simp[h1],h2⟩
end Ex
namespace Ex
open Go
variable {E:Env} {ρ ρ':Rho} {H H':Heap} {w w':World} {ex:Ex}
theorem freeL_eq' {l l':List Value} (h:LR ρ l l') (hf:freeL l'=true):l=l':=freeL_eq h.2 h.1 hf
theorem runCall {fr:Frame} {cs:List Frame} {s:Sem Next} {v v':Value} (h:HR E.ng ρ H w) (hs:s.run E.P w=.ok (.value v) w) (hv:VR ρ v v'):OpGo E ρ H w fr cs s v' H:=
 (OpRes.val h hs hv).go fr cs
theorem cells_bytes (h:HR E.ng ρ H w) {x x':Value} {n:Nat} {l':List Value} {bs:List UInt8} (hx:VR ρ x x') (hl:lenA x'=some n) (hs:srcCells H 1 n x'=some l') (hb:bytesA l'=some bs):
 ∃r:ByteArray,(Extern.Bytes.bytesOf x).run E.P w=.ok r w/\r=⟨⟨bs⟩⟩:=by
 obtain⟨l,h1,h2⟩:=src_sound h hx hl hs
 obtain⟨ns,rfl,rfl⟩:=bytesA_sound h1 hb
 have hf:=h2 w rfl
 cases x' with
 | slice a len c=>
   cases hl
   cases a with
   | none=>
     cases hx
     have:(ns.map (Value.int .u8))=[]:=by
      have hf:Result.ok #[] w=Result.ok ⟨ns.map (Value.int .u8)⟩ w:=hf
      injection hf with a;injection a with a;exact a.symm
     have hns:ns=[]:=by simpa using this
     subst hns
     exact⟨_,rfl,rfl⟩
   | some a=>
     obtain⟨b,o,s⟩:=a
     obtain⟨p,hp,⟨c0,rfl,-⟩|⟨a,c0,rfl,rfl,-,-⟩⟩:=slice_inv hx
     · have hs:readCells H b o (n*1)=some l':=hs
       obtain⟨l2,g1,g2,g3⟩:=read_cells h hp hs
       have hrun:=run_loadCells_list (P:=E.P) w ⟨p.c,p.s+o,none⟩ l2 (fun j v hv=>by rw[addr_add];exact g3 j v hv)
       rw[g2]at hrun
       have hf:(loadCells ⟨p.c,p.s+o,none⟩ (n*1)).run E.P w=.ok ⟨ns.map (Value.int .u8)⟩ w:=hf
       rw[hrun]at hf
       have e:l2=ns.map (Value.int .u8):=by injection hf with a;injection a
       subst e
       obtain⟨r,r1,r2⟩:=loadBytes_run (P:=E.P) w p.c ns (p.s+o) .empty g3
       have hn:ns.length=n:=by have:=g2;simp at this;omega
       rw[hn]at r1
       refine⟨r,r1,?_⟩
       apply ByteArray.ext
       apply Array.ext'
       rw[r2];simp
     · have:l'=[]:=src_zero (H:=H) (size:=1) (x:=.slice (some ⟨b,o,s⟩) 0 c) hs
       subst this
       have:=h1.nil_inv
       have hns:ns=[]:=by simpa using this
       subst hns
       exact⟨_,rfl,rfl⟩
 | string bs2=>
   obtain⟨⟨s⟩⟩:=bs2
   rw[hx.string_inv]
   refine⟨_,rfl,?_⟩
   cases hl
   have hs:takeL s.length (ofBytes s)=some l':=hs
   obtain⟨hn,rfl⟩:=takeL_some hs
   have hlen:(ofBytes s).length=s.length:=by rw[ofBytes_eq];simp
   have htake:(ofBytes s).take s.length=ofBytes s:=by rw[<-hlen,List.take_length]
   rw[htake]at h1 hb
   have e1:ns.map (Value.int .u8)=ofBytes s:=freeL_eq' h1 (freeL_ofBytes s)
   rw[ofBytes_eq]at e1
   have e2:ns=s.map fun b=>(b.toNat:Int):=by
    have:∀(a b:List Int),a.map (Value.int .u8)=b.map (Value.int .u8)->a=b:=by
     intro a
     induction a with
     | nil=>intro b hb;cases b with|nil=>rfl|cons _ _=>cases hb
     | cons x a ih=>intro b hb;cases b with
       | nil=>cases hb
       | cons y b=>simp only[List.map_cons,List.cons.injEq]at hb;rw[ih b hb.2];injection hb.1 with _ e;rw[e]
    apply this
    rw[e1];simp
   subst e2
   have hid:(s.map fun b=>(b.toNat:Int)).map (fun n=>UInt8.ofNat n.toNat)=s:=by
    rw[List.map_map]
    conv=>rhs;rw[<-List.map_id s]
    apply List.map_congr_left
    intro b _
    simp
   rw[hid]
 | _=>cases hl
theorem cmp_go (hG:EnvGood E) (h:HR E.ng ρ H w) {f:FuncId} {x y x' y' v':Value} (hf:E.ext f=.cmp) (hx:VR ρ x x') (hy:VR ρ y y') (hc:cmpV H x' y'=some v'):(callFunc f #[x,y]).run E.P w=.ok (.value v') w/\free v'=true:=by
 unfold cmpV at hc
 cases h1:lenA x' with
 | none=>rw[h1]at hc;cases hc
 | some n=>
 rw[h1]at hc;simp only at hc
 cases h2:lenA y' with
 | none=>rw[h2]at hc;cases hc
 | some m=>
 rw[h2]at hc;simp only at hc
 cases h3:srcCells H 1 n x' with
 | none=>rw[h3]at hc;cases hc
 | some a=>
 rw[h3]at hc;simp only at hc
 cases h4:srcCells H 1 m y' with
 | none=>rw[h4]at hc;cases hc
 | some b=>
 rw[h4]at hc;simp only at hc
 cases h5:bytesA a with
 | none=>rw[h5]at hc;cases hc
 | some p=>
 rw[h5]at hc;simp only at hc
 cases h6:bytesA b with
 | none=>rw[h6]at hc;cases hc
 | some q=>
 rw[h6]at hc
 cases hc
 obtain⟨r1,g1,rfl⟩:=cells_bytes h hx h1 h3 h5
 obtain⟨r2,g2,rfl⟩:=cells_bytes h hy h2 h4 h6
 refine⟨hG.cmp f hf x y w w _ ?_,rfl⟩
 show(do pure (goInt (Extern.BytealgCompare.cmp (<-Extern.Bytes.bytesOf x) (<-Extern.Bytes.bytesOf y))):Sem Value).run E.P w=_
 simp[g1,g2,Result.andThen,goInt]
theorem add_go (hG:EnvGood E) (h:HR E.ng ρ H w) {f:FuncId} {x y x' y' v':Value} (hf:E.ext f=.add) (hx:VR ρ x x') (hy:VR ρ y y') (hc:addI64 H x' y'=.ok v' H'):
 ∃w',(callFunc f #[x,y]).run E.P w=.ok (.value v') w'/\free v'=true/\HR E.ng ρ H' w'/\Ext ρ H w ρ H' w':=by
 unfold addI64 at hc
 split at hc
 · rename_i b o s
   split at hc
   · rename_i d
     split at hc
     · rename_i n hr
       obtain⟨p,hp,rfl⟩:=ptr_inv hx
       have hyv:=hy.int_inv
       subst hyv
       obtain⟨v,g1,g2⟩:=read_cell h hp hr
       have:=g2.int_inv
       subst this
       unfold addCell at hc
       cases hw:writeCells H b o [.int .i64 (IntKind.i64.wrap (n+d))] with
       | none=>rw[hw]at hc;cases hc
       | some H1=>
         rw[hw]at hc
         cases hc
         have hlr:LR ρ [.int .i64 (IntKind.i64.wrap (n+d))] [.int .i64 (IntKind.i64.wrap (n+d))]:=LR.cons (.int _ _) (LR.nil ρ)
         obtain⟨w',k1,k2,k3⟩:=write_cells h hp hw hlr (by simp[oneCell])
         refine⟨w',hG.add f hf _ _ w w' _ ?_,rfl,k2,k3⟩
         have hst:(store ⟨p.c,p.s+o,none⟩ (.int .i64 (IntKind.i64.wrap (n+d))) .atomic).run E.P w=.ok () w':=by
          simp only[storeCells,Sem.run_bind,addr_add,Nat.add_zero]at k1
          have hpl:(store ⟨p.c,p.s+o,none⟩ (.int .i64 (IntKind.i64.wrap (n+d)))).run E.P w=.ok () w':=by
           cases hs:(store ⟨p.c,p.s+o,none⟩ (.int .i64 (IntKind.i64.wrap (n+d)))).run E.P w with
           | ok u w2=>rw[hs]at k1;simpa[Result.andThen] using k1
           | halt x w2=>rw[hs]at k1;simp[Result.andThen]at k1
          rw[run_store E.P w _ _ _ rfl]at hpl ⊢
          simpa[g1] using hpl
         show(do
          let a <-asAddr (.pointer (some ⟨p.c,p.s+o,none⟩))
          let old <-Extern.Atomic.read (.int .i64) a
          let new <-Op.intArith .add .i64 (<-asInt old) (<-asInt (.int .i64 d))
          store a new .atomic
          pure (if true then new else old):Sem Value).run E.P w=_
         have hld:(load ⟨p.c,p.s+o,none⟩ .atomic).run E.P w=.ok (.int .i64 n) w:=by rw[run_load];simp[g1]
         simp[asAddr,Extern.Atomic.read,asInt,asIntOf,Op.intArith,Result.andThen,hld,hst]
     · cases hc
   · cases hc
 · cases hc
theorem callFn_go (hG:EnvGood E) (hex:SoundEx E ex) (h:HR E.ng ρ H w) {f:FuncId} {args args':List Value} {v':Value} (ha:LR ρ args args') {fr:Frame} {cs:List Frame} (hp:Plain fr) (hc:callFn E ex H f args' (E.ft.get none f)=.ok v' H'):
 OpGo E ρ H w fr cs (callFunc f ⟨args⟩) v' H':=by
 simp only[callFn]at hc
 cases hfn:E.ft.get none f with
 | none=>rw[hfn]at hc;cases hc
 | some fn=>
   rw[hfn]at hc
   have hpf:=hG.ft f fn hfn
   simp only at hc
   cases hb:fn.body with
   | some c=>
     rw[hb]at hc
     simp only[enterA]at hc
     cases hle:Nat.ble args'.length fn.ntmps with
     | false=>rw[hle]at hc;cases hc
     | true=>
       rw[hle]at hc
       have hle:=Nat.le_of_ble_eq_true hle
       simp only at hc
       rw[<-ha.1]at hle
       have hent:Frame.enter E.P f ⟨args⟩ .normal = { fn:=f,tmps:=(⟨args⟩:Array Value) ++ Array.replicate (fn.ntmps-args.length) undef,todo:=[.code c],defers:=[],mode:=.run,kind:=.normal }:=by
        simp[Frame.enter,hpf,hb]
       have hfr:FrR ρ ⟨f,fn.ntmps,none⟩ [] [.code c] (setArgs (Tr.full Undef (depthOf fn.ntmps)) 0 args') (Frame.enter E.P f ⟨args⟩ .normal):=by
        rw[hent]
        exact⟨rfl,rfl,rfl,enter_TR hle ha,.code c .nil,.nil,rfl⟩
       obtain⟨ρ',v,w',g1,g2⟩:=hex _ _ _ _ _ _ _ hc ρ _ w (fr :: cs) hfr h
       have hcall:(callFunc f ⟨args⟩).run E.P w=.ok (.enter f ⟨args⟩) w:=by
        have hn:=hG.nog f fn hfn
        have h1:fn.name ≠ "runtime.NumGoroutine":=by simpa using hn
        simp[callFunc,hpf,h1,hb]
       exact⟨ρ',v,w',.enter hp hcall g1.finish,g2⟩
   | none=>
     rw[hb]at hc
     simp only[externA]at hc
     cases he:E.ext f with
     | pure=>
       rw[he]at hc
       simp only at hc
       cases hfl:freeL args' with
       | false=>rw[hfl]at hc;cases hc
       | true=>
         rw[hfl]at hc
         simp only at hc
         obtain⟨h1,rfl⟩:=oval_inv hc
         obtain⟨h2,h3⟩:=opValue_inv h1
         have hargs:args=args':=freeL_eq' ha hfl
         rw[hargs]
         exact runCall h (pureRun_run h2 w) (VR.of_free ρ _ h3)
     | cmp=>
       rw[he]at hc
       simp only at hc
       split at hc
       · rename_i x' y'
         obtain⟨x,l,rfl,hx,hl⟩:=ha.cons_inv
         obtain⟨y,l2,rfl,hy,hl2⟩:=hl.cons_inv
         have:=hl2.nil_inv
         subst this
         obtain⟨h1,rfl⟩:=oval_inv hc
         obtain⟨h2,h3⟩:=cmp_go hG h he hx hy h1
         exact runCall h h2 (VR.of_free ρ _ h3)
       · cases hc
     | add=>
       rw[he]at hc
       simp only at hc
       split at hc
       · rename_i x' y'
         obtain⟨x,l,rfl,hx,hl⟩:=ha.cons_inv
         obtain⟨y,l2,rfl,hy,hl2⟩:=hl.cons_inv
         have:=hl2.nil_inv
         subst this
         obtain⟨w',h1,h2,h3,h4⟩:=add_go hG h he hx hy hc
         exact⟨ρ,v',w',.value h1,VR.of_free ρ _ h2,h3,h4⟩
       · cases hc
theorem call_go (hG:EnvGood E) (hex:SoundEx E ex) (h:HR E.ng ρ H w) {f:FuncId} {args args':List Value} {v':Value} (ha:LR ρ args args') {fr:Frame} {cs:List Frame} (hp:Plain fr) (hc:callA E ex H f args'=.ok v' H'):
 OpGo E ρ H w fr cs (callFunc f ⟨args⟩) v' H':=by
 unfold callA at hc
 cases ho:E.ovr f with
 | some g=>
   rw[ho]at hc
   cases hg:g H args' with
   | bad=>exact callFn_go hG hex h ha hp (by simp only[hg]at hc;exact hc)
   | ok u H1=>
     have hc:Out.ok u H1=.ok v' H':=by simp only[hg]at hc;exact hc
     rw[hc]at hg
     obtain⟨h1,h2⟩:=hG.ovr f g ho args args' ρ H w v' H' h ha hg
     obtain⟨ρ',v,w',fr',g1,g2,g3,g4⟩:=h2 (fr :: cs)
     exact⟨ρ',v,w',.enter hp h1 (Steps.trans g1 (.one (step_leave_returned g3))),g4⟩
 | none=>
   rw[ho]at hc
   exact callFn_go hG hex h ha hp hc
theorem HR.loop (h:HR E.ng ρ H w) {b l:Nat} {st:LoopState} {pe:Option Code} {fn:FuncId} {tmps:Tr Value} {nt:Nat} {ps:Array Tmp} {as bd:Code} {df:Nat} (hb:ρ b=some ⟨l,0,0,0⟩) (ho:H.get b=.loop st pe fn tmps nt ps as bd df):
 ∃a dl,ρ df=some ⟨dl,0,0,0⟩/\TR ρ a tmps nt/\w.heap[l]?=some (.loop { state:=st,pending:=pe,fn,tmps:=a,params:=ps,assign:=as,body:=bd,defers:=dl }):=by
 have:=h.obj b
 rw[ho]at this
 obtain⟨l',a,dl,h1,h2,h3,h4⟩:=this
 rw[hb]at h1;cases h1
 exact⟨a,dl,h2,h3,h4⟩
theorem round_go (hex:SoundEx E ex) (h:HR E.ng ρ H w) {b l:Nat} {args args':List Value} {v':Value} (hb:ρ b=some ⟨l,0,0,0⟩) (ha:LR ρ args args') {fr:Frame} {cs:List Frame} (hc:roundA ex H b args'=.ok v' H'):
 OpGo E ρ H w fr cs (Instr.yield l ⟨args⟩) v' H':=by
 unfold roundA at hc
 cases ho:H.get b<;>rw[ho]at hc<;>simp only at hc<;>try (cases hc;done)
 rename_i st pe fn tmps nt ps as bd df
 obtain⟨a,dl,h1,h2,h3⟩:=h.loop hb ho
 cases hsp:setParams nt ps.toList args' tmps with
 | none=>rw[hsp]at hc;cases hc
 | some t'=>
   rw[hsp]at hc
   simp only[roundRun]at hc
   obtain⟨g1,g2⟩:=setParams_rel h2 ha hsp
   have hy:=run_yield (P:=E.P) (args:=(⟨args⟩:Array Value)) h3 (by simpa using g1)
   simp only at hy
   have hz:(ps.zip ⟨args⟩).foldl (fun tmps (x:Tmp × Value)=>tmps.setIfInBounds x.1 x.2) a=(ps.toList.zip args).foldl (fun tmps (x:Tmp × Value)=>tmps.setIfInBounds x.1 x.2) a:=by
    rw[<-Array.foldl_toList,Array.toList_zip]
   have hfr:FrR ρ ⟨fn,nt,some b⟩ [] [.code as,.beginRound,.code bd] t' (Frame.round l fn ((ps.zip ⟨args⟩).foldl (fun tmps (x:Tmp × Value)=>tmps.setIfInBounds x.1 x.2) a) as bd .normal):=by
    rw[hz]
    exact⟨rfl,rfl,rfl,g2,.code as (.beginRound (.code bd .nil)),.nil,⟨l,hb,rfl⟩⟩
   obtain⟨ρ',v,w',k1,k2⟩:=hex _ _ _ _ _ _ _ hc ρ _ w (fr :: cs) hfr h
   exact⟨ρ',v,w',.round hy k1.finish,k2⟩
theorem callV_go (hG:EnvGood E) (hex:SoundEx E ex) (h:HR E.ng ρ H w) {g g':Value} {args args':List Value} {v':Value} (hg:VR ρ g g') (ha:LR ρ args args') {fr:Frame} {cs:List Frame} (hp:Plain fr) (hc:callV E ex H g' args'=.ok v' H'):
 ∃d,(∀w,(Deferred.ofValue g ⟨args⟩).run E.P w=.ok d w)/\OpGo E ρ H w fr cs (invoke d.target d.args) v' H':=by
 unfold callV at hc
 split at hc
 · rename_i f first captured
   cases hg with
   | func x x' y y' hf hx hh hy hh'=>
     cases hf
     refine⟨{ target:=.fn (.func f) ⟨y⟩,args:=⟨x⟩ ++ ⟨args⟩ },fun _=>rfl,?_⟩
     have:invoke (.fn (.func f) ⟨y⟩) ((⟨x⟩:Array Value) ++ ⟨args⟩)=callFunc f ⟨x ++ args ++ y⟩:=by
      show callFunc f (((⟨x⟩:Array Value) ++ ⟨args⟩) ++ ⟨y⟩)=_
      congr 1
      apply Array.ext'
      simp
     simp only[this]
     exact call_go hG hex h ((LR.append ⟨hx,hh⟩ ha).append ⟨hy,hh'⟩) hp hc
 · rename_i b
   cases hg with
   | func x x' y y' hf hx hh hy hh'=>
     cases hf with
     | yield hb=>
       rename_i l
       have e1:x=[]:=by simpa using hx
       subst e1
       refine⟨{ target:=.fn (.yield l) ⟨y⟩,args:=(⟨[]⟩:Array Value) ++ ⟨args⟩ },fun _=>rfl,?_⟩
       have:invoke (.fn (.yield l) ⟨y⟩) ((⟨[]⟩:Array Value) ++ ⟨args⟩)=Instr.yield l ⟨args⟩:=by
        show Instr.yield l ((⟨[]⟩:Array Value) ++ ⟨args⟩)=_
        congr 1
        apply Array.ext'
        simp
       simp only[this]
       exact round_go hex h hb ha hc
 · cases hc
end Ex

/- A verified executor for closed Go calls, part of it: its lemmas carry no condition. -/
import Derived.Test.YtbhnjkegkadodaaGreatDoorXG01
import Derived.Laws.Tables
set_option linter.unusedVariables false
set_option linter.unusedSimpArgs false
set_option maxRecDepth 100000
set_option maxHeartbeats 8000000
namespace Ex
open Go
variable {E:Env} {ρ ρ':Rho} {H H':Heap} {w w':World}
theorem OpRes.ofSem (h:HR E.ng ρ H w) {s:Sem Next} {sv:Sem Value} {v v':Value} (hs:s=(do pure (Next.value (<-sv)))) (hr:sv.run E.P w=.ok v w) (hv:VR ρ v v'):OpRes E ρ H w s v' H:=
 OpRes.val h (by rw[hs];exact run_v hr) hv
theorem pick_sound (h:HR E.ng ρ H w) {c a b c' a' b' v':Value} (hc:VR ρ c c') (ha:VR ρ a a') (hb:VR ρ b b') (hp:asBoolA c' a' b'=some v'):
 OpRes E ρ H w (do pure (Next.value (if <-asBool c then a else b))) v' H:=by
 unfold asBoolA at hp
 split at hp<;>cases hp
 · rw[hc.bool_inv];exact OpRes.val h rfl ha
 · rw[hc.bool_inv];exact OpRes.val h rfl hb
theorem nilCk_inv {x' v':Value} (hp:nilCk x'=some v'):v'=x':=by
 unfold nilCk at hp
 split at hp<;>simp_all
theorem extract_sound {x x' v':Value} {i:Nat} (hx:VR ρ x x') (hp:extractV x' i=some v') (P:Program) (w:World):∃v,(Instr.extract x i).run P w=.ok v w/\VR ρ v v':=by
 unfold extractV at hp
 split at hp
 · rename_i vs
   rw[nth_eq]at hp
   cases hx with
   | tuple l l' hl hh=>
     obtain⟨v,h1,h2⟩:=LR.get (ρ:=ρ) ⟨hl,hh⟩ hp
     refine⟨v,?_,h2⟩
     have:((⟨l⟩:Array Value)[i]?:Option Value)=some v:=by simpa using h1
     simp[Instr.extract,this]
 · cases hp
theorem part_sound (hE:EnvOk E) {t:TypeId} {cs cs':List Value} {off:Nat} {v':Value} (hc:LR ρ cs cs') (hp:partA E.tt t cs' off=some v') (w:World):
 ∃v,(part t ⟨cs⟩ off).run E.P w=.ok v w/\VR ρ v v':=by
 unfold partA shapeA at hp
 cases ha:isAggA E.tt t with
 | none=>rw[ha]at hp;cases hp
 | some g=>
   rw[ha]at hp
   cases g with
   | true=>
     simp only at hp
     cases hs:sizeA E.tt t with
     | none=>rw[hs]at hp;cases hp
     | some n=>
       rw[hs]at hp
       simp only[partOf]at hp
       cases ht:takeL n (dropL off cs') with
       | none=>rw[ht]at hp;cases hp
       | some l'=>
         rw[ht]at hp
         simp only[omap,Option.some.injEq]at hp
         subst hp
         rw[dropL_eq]at ht
         obtain⟨hn,rfl⟩:=takeL_some ht
         refine⟨.agg ⟨(cs.drop off).take n⟩,?_,VR.agg_of ((hc.drop off).take n)⟩
         simp only[part,Sem.run_bind,run_isAgg_eq hE ha,run_sizeOf_eq hE hs,Result.andThen,if_true]
         show Result.ok _ w=_
         congr 2
         apply Array.ext'
         simp[Array.toList_extract,List.extract_eq_take_drop]
   | false=>
     simp only[partOf]at hp
     rw[nth_eq]at hp
     obtain⟨v,h1,h2⟩:=hc.get hp
     refine⟨v,?_,h2⟩
     have:((⟨cs⟩:Array Value)[off]?:Option Value)=some v:=by simpa using h1
     simp[part,run_isAgg_eq hE ha,Result.andThen,this]
theorem fieldOf_inv (hE:EnvOk E) {t:TypeId} {i:Nat} {f:TypeId × Nat × Nat} (h:fieldOf E.tt t i=some f):
 ∃fs fd,E.P.underlying t=some (.struct fs)/\fs[i]?=some fd/\f=(fd.type,fd.offset,f.2.2)/\sizeA E.tt fd.type=some f.2.2:=by
 unfold fieldOf at h
 split at h
 · rename_i fs hu
   split at h
   · rename_i fd hf
     split at h
     · rename_i n hs
       cases h
       exact⟨fs,fd,und_eq hE hu,hf,rfl,hs⟩
     · cases h
   · cases h
 · cases h
theorem field_sound (hE:EnvOk E) {t:TypeId} {x x' v':Value} {i:Nat} (hx:VR ρ x x') (hp:fieldV E.tt x' (fieldOf E.tt t i)=some v') (w:World):
 ∃v,(Instr.field t x i).run E.P w=.ok v w/\VR ρ v v':=by
 cases hf:fieldOf E.tt t i with
 | none=>rw[hf]at hp;cases hp
 | some f=>
   obtain⟨fs,fd,hu,hfd,hfe,hs⟩:=fieldOf_inv hE hf
   obtain⟨ty,off,n⟩:=f
   simp only[Prod.mk.injEq]at hfe
   obtain⟨rfl,rfl,-⟩:=hfe
   rw[hf]at hp
   simp only[fieldV]at hp
   split at hp
   · rename_i cs'
     cases hx with
     | agg l l' hl hh=>
       obtain⟨v,h1,h2⟩:=part_sound (ρ:=ρ) hE ⟨hl,hh⟩ hp w
       refine⟨v,?_,h2⟩
       simp only[Instr.field,Sem.run_bind,run_underlying hu,Result.andThen,hfd,asAgg,Sem.run_pure]
       exact h1
   · cases hp
theorem fieldAddr_sound (hE:EnvOk E) {t:TypeId} {x x' v':Value} {i:Nat} (hx:VR ρ x x') (hp:fieldAddrV x' (fieldOf E.tt t i)=some v') (w:World):
 ∃v,(Instr.fieldAt t x i).run E.P w=.ok v w/\VR ρ v v':=by
 cases hf:fieldOf E.tt t i with
 | none=>rw[hf]at hp;cases hp
 | some f=>
   obtain⟨fs,fd,hu,hfd,hfe,hs⟩:=fieldOf_inv hE hf
   obtain⟨ty,off,n⟩:=f
   simp only[Prod.mk.injEq]at hfe
   obtain⟨rfl,rfl,-⟩:=hfe
   rw[hf]at hp
   simp only[fieldAddrV]at hp
   split at hp
   · rename_i b o s
     cases hn:Nat.beq n 0 with
     | true=>rw[hn]at hp;cases hp
     | false=>
       rw[hn]at hp
       have hne:n≠0:=fun e=>by rw[e]at hn;cases hn
       obtain⟨p,hp2,rfl⟩:=ptr_inv hx
       cases hp
       refine⟨.pointer (some ⟨p.c,p.s+(o+fd.offset),none⟩),?_,.ptr hp2⟩
       simp only[Instr.fieldAt,Sem.run_bind,run_underlying hu,Result.andThen,hfd,Instr.sureAddr,Sem.run_pure,fieldPlace,run_sizeOf_eq hE hs,hne,if_false,addr_add,Nat.add_assoc]
   · cases hp
theorem elemA_inv (hE:EnvOk E) {t:TypeId} {e:TypeId × Nat} (h:elemA E.tt t=some e):E.P.underlying t=some (.slice e.1)/\sizeA E.tt e.1=some e.2:=by
 unfold elemA at h
 split at h
 · rename_i el hu
   split at h
   · rename_i n hs;cases h;exact⟨und_eq hE hu,hs⟩
   · cases h
 · cases h
theorem arrA_inv (hE:EnvOk E) {t:TypeId} {e:Nat × TypeId × Nat} (h:arrA E.tt t=some e):E.P.underlying t=some (.array e.1 e.2.1)/\sizeA E.tt e.2.1=some e.2.2:=by
 unfold arrA at h
 split at h
 · rename_i l el hu
   split at h
   · rename_i n hs;cases h;exact⟨und_eq hE hu,hs⟩
   · cases h
 · cases h
theorem natOf_inv {v v':Value} {n:Nat} (hv:VR ρ v v') (h:natOf v'=some n):∃k,v=.int k (n:Int):=by
 unfold natOf at h
 split at h
 · cases h;exact⟨_,hv.int_inv⟩
 · cases h
theorem idxIn_inv {i len:Nat} {v v':Value} (h:idxIn i len v=some v'):i<len/\v'=v:=by
 unfold idxIn at h
 cases hb:Nat.blt i len with
 | false=>rw[hb]at h;cases h
 | true=>rw[hb]at h;exact⟨by simpa[Nat.blt_eq] using hb,(Option.some.inj h).symm⟩
theorem slice_inv {v:Value} {b o len cap:Nat} {s:Option Nat} (h:VR ρ v (.slice (some ⟨b,o,s⟩) len cap)):
 ∃p,ρ b=some p/\((∃c,v=.slice (some ⟨p.c,p.s+o,none⟩) len c/\cap<=c/\(p.k=0->c=cap)/\(p.k≠0->o+p.k*c<=p.z))\/(∃a c,v=.slice (some a) 0 c/\len=0/\cap=0/\p.k≠0)):=by
 cases h with
 | slice hp hc h0 hk=>exact⟨_,hp,.inl ⟨_,rfl,hc,h0,hk⟩⟩
 | sempty a hp hk=>exact⟨_,hp,.inr ⟨a,_,rfl,rfl,rfl,hk⟩⟩
theorem indexAddr_sound (hE:EnvOk E) {t:TypeId} {x x' i i' v':Value} (hx:VR ρ x x') (hi:VR ρ i i') (hp:idxAddr1 E.tt t x' (natOf i')=some v') (w:World):
 ∃v,(Instr.indexAt t x i).run E.P w=.ok v w/\VR ρ v v':=by
 cases hn:natOf i' with
 | none=>rw[hn]at hp;cases hp
 | some n=>
   rw[hn]at hp
   obtain⟨k,rfl⟩:=natOf_inv hi hn
   have array:idxArr x' n (arrA E.tt t)=some v'->∃v,(Instr.indexAt t x (.int k (n:Int))).run E.P w=.ok v w/\VR ρ v v':=by
    intro hp
    cases he:arrA E.tt t with
    | none=>rw[he]at hp;cases hp
    | some e=>
      rw[he]at hp
      obtain⟨hu,hs⟩:=arrA_inv hE he
      cases x' with
      | pointer a=>
        cases a with
        | none=>cases hp
        | some a=>
          obtain⟨b,o,s⟩:=a
          obtain⟨hlt,rfl⟩:=idxIn_inv (show idxIn n e.1 _=some v' from hp)
          obtain⟨p,hp2,rfl⟩:=ptr_inv hx
          refine⟨.pointer (some ⟨p.c,p.s+(o+n*e.2.2),none⟩),?_,.ptr hp2⟩
          simp[Instr.indexAt,asIntOf,run_underlying hu,Result.andThen,Instr.sureAddr,run_sizeOf_eq hE hs,addr_add,Nat.add_assoc,hlt]
      | _=>cases hp
   cases x' with
   | slice a len cap=>
     have hp:idxSl (.slice a len cap) n (elemA E.tt t)=some v':=hp
     cases he:elemA E.tt t with
     | none=>rw[he]at hp;cases hp
     | some e=>
       rw[he]at hp
       obtain⟨hu,hs⟩:=elemA_inv hE he
       cases a with
       | none=>cases hp
       | some a=>
         obtain⟨b,o,s⟩:=a
         obtain⟨hlt,rfl⟩:=idxIn_inv (show idxIn n len _=some v' from hp)
         obtain⟨p,hp2,⟨c,rfl,-⟩|⟨a,c,-,h0,-⟩⟩:=slice_inv hx
         · refine⟨.pointer (some ⟨p.c,p.s+(o+n*e.2),none⟩),?_,.ptr hp2⟩
           simp[Instr.indexAt,asIntOf,run_underlying hu,Result.andThen,run_sizeOf_eq hE hs,addr_add,Nat.add_assoc,hlt]
         · omega
   | _=>exact array hp
theorem index_sound (hE:EnvOk E) {t:TypeId} {x x' i i' v':Value} (hx:VR ρ x x') (hi:VR ρ i i') (hp:indexV E.tt t x' i'=some v') (w:World):
 ∃v,(Instr.index t x i).run E.P w=.ok v w/\VR ρ v v':=by
 cases x' with
 | agg arr=>
   obtain⟨cs'⟩:=arr
   have hp:idxAgg E.tt cs' (natOf i') (arrA E.tt t)=some v':=hp
   cases he:arrA E.tt t with
   | none=>rw[he]at hp;cases hp
   | some e=>
     rw[he]at hp
     obtain⟨hu,hs⟩:=arrA_inv hE he
     obtain⟨len,ty,size⟩:=e
     simp only[idxAgg]at hp
     cases hn:natOf i' with
     | none=>rw[hn]at hp;cases hp
     | some n=>
       rw[hn]at hp
       obtain⟨k,rfl⟩:=natOf_inv hi hn
       simp only at hp
       cases hb:Nat.blt n len with
       | false=>rw[hb]at hp;cases hp
       | true=>
         rw[hb]at hp
         have hlt:n<len:=by simpa[Nat.blt_eq] using hb
         cases hx with
         | agg l l' hl hh=>
           obtain⟨v,h1,h2⟩:=part_sound (ρ:=ρ) hE ⟨hl,hh⟩ hp w
           refine⟨v,?_,h2⟩
           simp only at hu hs
           simp[Instr.index,asIntOf,run_underlying hu,Result.andThen,run_sizeOf_eq hE hs,hlt,h1]
 | string bs=>
   obtain⟨⟨s⟩⟩:=bs
   have hp:(match E.tt.und t with|some .string=>idxStr s (natOf i')|_=>none)=some v':=hp
   split at hp
   · rename_i hd
     have hu:=und_eq hE hd
     rw[hx.string_inv]
     cases hn:natOf i' with
     | none=>rw[hn]at hp;cases hp
     | some n=>
       rw[hn]at hp
       obtain⟨k,rfl⟩:=natOf_inv hi hn
       simp only[idxStr,nth_eq]at hp
       cases hb:s[n]? with
       | none=>rw[hb]at hp;cases hp
       | some b=>
         rw[hb]at hp
         simp only[omap,Option.some.injEq]at hp
         subst hp
         refine⟨ofByte b,?_,VR.of_free ρ _ rfl⟩
         have hget:((⟨⟨s⟩⟩:ByteArray)[n]?:Option UInt8)=some b:=by
          obtain⟨hlt,e⟩:=List.getElem?_eq_some_iff.1 hb
          have hlt':n<(⟨⟨s⟩⟩:ByteArray).size:=hlt
          rw[getElem?_pos (⟨⟨s⟩⟩:ByteArray) n hlt']
          exact congrArg some e
         simp[Instr.index,asIntOf,run_underlying hu,Result.andThen,hget,ofByte]
   · cases hp
 | _=>cases hp
theorem zeroA_inv (hE:EnvOk E) {t:TypeId} {z:Value} (h:zeroA E.tt t=some z):∃i,E.P.info? t=some i/\i.zero=some z/\free z=true:=by
 unfold zeroA at h
 cases hi:Ts.info E.tt t with
 | none=>rw[hi]at h;cases h
 | some i=>
   rw[hi]at h
   simp only at h
   cases hz:i.zero with
   | none=>rw[hz]at h;cases h
   | some z'=>
     rw[hz]at h
     simp only[freeV]at h
     cases hf:free z' with
     | false=>rw[hf]at h;cases h
     | true=>rw[hf]at h;cases h;exact⟨i,hE.tt t i hi,hz,hf⟩
theorem runZero {P:Program} {t:TypeId} {i:TypeInfo} {z:Value} (hi:P.info? t=some i) (hz:i.zero=some z) (w:World):(zeroValue t).run P w=.ok z w:=by
 simp only[zeroValue,Sem.run_bind,runTI hi,Result.andThen,hz];rfl
theorem alloc_new (w:World) (o:Obj):(w.alloc o).heap[w.heap.size]?=some o:=by show(w.heap.push o)[w.heap.size]?=_;simp
theorem VR.newPtr (ρ:Rho) (b c z k:Nat):VR (ρ.put b ⟨c,0,z,k⟩) (.pointer (some ⟨c,0,none⟩)) (ptrAt b 0):=VR.ptr (o:=0) (p:=⟨c,0,z,k⟩) (Rho.put_same _ _ _)
theorem new_exact (h:HR E.ng ρ H w) {arr cs:List Value} (e:TypeId) (hl:LR ρ arr cs):
 HR E.ng (ρ.put H.next ⟨w.heap.size,0,arr.length,0⟩) (newRowA H cs 0) (w.alloc (.cells ⟨arr⟩ e)) /\
 Ext ρ H w (ρ.put H.next ⟨w.heap.size,0,arr.length,0⟩) (newRowA H cs 0) (w.alloc (.cells ⟨arr⟩ e)):=by
 refine ext_alloc h _ _ _ rfl rfl rfl rfl rfl ?_
 refine⟨_,Rho.put_same _ _ _,rfl,?_⟩
 exact Pl.exactCells (alloc_new w _) (hl.mono (Rho.le_put (h.fresh _ (Nat.le_refl _))))
theorem new_open (h:HR E.ng ρ H w) {w1:World} {arr rest cs:List Value} {k:Nat} (e:TypeId) (hk:k≠0) (hl:LR ρ arr cs) (hw:w1.heap=w.heap) (ht:w1.tape=w.tape) (ho:w1.os=w.os) (hout:w1.output=w.output):
 HR E.ng (ρ.put H.next ⟨w.heap.size,0,(arr ++ rest).length,k⟩) (newRowA H cs k) (w1.alloc (.cells ⟨arr ++ rest⟩ e)) /\
 Ext ρ H w (ρ.put H.next ⟨w.heap.size,0,(arr ++ rest).length,k⟩) (newRowA H cs k) (w1.alloc (.cells ⟨arr ++ rest⟩ e)):=by
 refine ext_alloc h (.cells ⟨arr ++ rest⟩ e) _ _ rfl (by rw[<-hw];rfl) ht ho hout ?_
 refine⟨_,Rho.put_same _ _ _,rfl,⟨arr ++ rest⟩,e,(0,0),(by have:=alloc_new w1 (.cells ⟨arr ++ rest⟩ e);rwa [hw]at this),by simp,by simp[hl.1],fun h0=>absurd h0 hk,fun o _=>by simp,fun i v' hv=>?_⟩
 obtain⟨v,a,b⟩:=(hl.mono (Rho.le_put (h.fresh _ (Nat.le_refl _)))).get hv
 have hi:=(List.getElem?_eq_some_iff.1 a).1
 refine⟨v,?_,b⟩
 simp only[Nat.zero_add,List.getElem?_toArray,List.getElem?_append_left hi]
 exact a
theorem alloc_sound (hE:EnvOk E) (h:HR E.ng ρ H w) {t:TypeId} {v' z:Value} (hz:zeroA E.tt t=some z) (hn:Ex.newVar H (cellsV z)=.ok v' H'):
 OpRes E ρ H w (do pure (Next.value (<-Instr.alloc t true (.tuple #[])))) v' H':=by
 obtain⟨i,hi,hzi,hf⟩:=zeroA_inv hE hz
 have hrel:=cells_rel (VR.of_free ρ z hf)
 cases hn
 obtain⟨h1,h2⟩:=new_exact h t hrel
 have hr:(Instr.alloc t true (.tuple #[])).run E.P w=.ok (.pointer (some ⟨w.heap.size,0,none⟩)) (w.alloc (.cells ⟨z.cells.toList⟩ t)):=by
  simp only[Instr.alloc,Sem.run_bind,runZero hi hzi,Result.andThen];rfl
 exact⟨_,_,_,.inl (run_v hr),.newPtr _ _ _ _ _,h1,h2⟩
inductive PR (ρ:Rho):List (Nat × Value)->List (Nat × Value)->Prop
 | nil:PR ρ [] []
 | cons {i:Nat} {v v':Value} {l l':List (Nat × Value)} (h:VR ρ v v') (t:PR ρ l l'):PR ρ ((i,v) :: l) ((i,v') :: l')
theorem splice_rel {cells:Array Value} {cs l l':List Value} {off:Nat} (hc:LR ρ cells.toList cs) (hl:LR ρ l l') (ho:off+l'.length<=cs.length):
 LR ρ (splice cells off l).toList (cs.take off ++ l' ++ cs.drop (off+l'.length)):=by
 have hsz:cells.size=cs.length:=by rw[<-hc.1];simp
 have hfit:off+l.length<=cells.size:=by rw[hsz,hl.1];exact ho
 refine⟨?_,fun i u v a b=>?_⟩
 · simp[splice_size,hsz];omega
 · rw[Array.getElem?_toList,splice_get _ _ _ _ hfit]at a
   by_cases hi:i<off
   · rw[if_neg (by omega)]at a
     rw[List.append_assoc,List.getElem?_append_left (by simp;omega),List.getElem?_take_of_lt hi]at b
     exact hc.2 i u v (by simpa using a) b
   · by_cases hi2:i<off+l'.length
     · have e1:(cs.take off).length=off:=by simp;omega
       rw[List.append_assoc,List.getElem?_append_right (by omega),e1,List.getElem?_append_left (by omega)]at b
       rw[if_pos (by rw[hl.1];omega)]at a
       exact hl.2 _ u v a b
     · have e1:(cs.take off ++ l').length=off+l'.length:=by simp;omega
       rw[List.getElem?_append_right (by omega),e1,List.getElem?_drop]at b
       rw[if_neg (by rw[hl.1];omega)]at a
       exact hc.2 i u v (by simpa using a) (by rwa [show off+l'.length+(i-(off+l'.length))=i by omega]at b)
theorem foldl_splice:∀(l:List Value) (k off:Nat) (cells:Array Value),(l.zipIdx k).foldl (fun cs (x:Value × Nat)=>cs.setIfInBounds (off+x.2) x.1) cells=splice cells (off+k) l
 | [],_,_,_=>rfl
 | v :: l,k,off,cells=>by
   simp only[List.zipIdx_cons,List.foldl_cons,splice]
   rw[foldl_splice l (k+1) off]
   rfl
theorem fill_sound {place:Nat->Option (Nat × Nat)} {place':Nat->Option (Nat × Nat)} (hp:∀i x,place' i=some x->place i=some x):∀ {parts parts':List (Nat × Value)} {cells:Array Value} {cs r':List Value},
 PR ρ parts parts'->LR ρ cells.toList cs->fillA place' parts' cs=some r'->∃r,Instr.fill place cells parts=some r/\LR ρ r.toList r':=by
 intro parts parts'
 induction parts' generalizing parts with
 | nil=>
   intro cells cs r' hpr hc hf
   cases hpr
   cases hf
   exact⟨cells,rfl,hc⟩
 | cons x l' ih=>
   intro cells cs r' hpr hc hf
   cases hpr with
   | cons hv ht=>
     rename_i i v v' l
     simp only[fillA]at hf
     cases hq:place' i with
     | none=>rw[hq]at hf;cases hf
     | some q=>
       obtain⟨off,size⟩:=q
       rw[hq]at hf
       simp only[fill2]at hf
       cases hb:Nat.beq (cellsV v').length size with
       | false=>rw[hb]at hf;cases hf
       | true=>
         rw[hb]at hf
         simp only at hf
         cases hpa:putAt off (cellsV v') cs with
         | none=>rw[hpa]at hf;cases hf
         | some cs1=>
           rw[hpa]at hf
           obtain⟨hlen,rfl⟩:=putAt_some hpa
           have hrel:=cells_rel hv
           have hsz:v.cells.size=size:=by rw[<-Nat.eq_of_beq_eq_true hb,<-hrel.1];simp
           have hcs:cells.size=cs.length:=by rw[<-hc.1];simp
           obtain⟨r,h1,h2⟩:=ih ht (splice_rel hc hrel hlen) hf
           refine⟨r,?_,h2⟩
           simp only[Instr.fill,hp i _ hq]
           have hcond:¬(v.cells.size≠size || off+v.cells.size > cells.size)=true:=by
            have:off+v.cells.size<=cells.size:=by rw[hcs,hsz,<-Nat.eq_of_beq_eq_true hb];exact hlen
            simp[hsz];omega
           rw[if_neg hcond]
           have hfold:v.cells.zipIdx.foldl (fun cs (c,j)=>cs.setIfInBounds (off+j) c) cells=splice cells off v.cells.toList:=by
            rw[<-Array.foldl_toList,Array.toList_zipIdx]
            exact foldl_splice v.cells.toList 0 off cells
           rw[hfold]
           exact h1
theorem places_of (hE:EnvOk E):∀(fs:List Field),allSized E.tt fs=true->∃places,fs.mapM (fun f=>(E.P.info? f.type).map fun i=>(f.offset,i.size))=some places /\
 ∀(i:Nat) f,fs[i]?=some f->∀n,sizeA E.tt f.type=some n->places[i]?=some (f.offset,n)
 | [],_=>⟨[],rfl,by simp⟩
 | f :: fs,h=>by
   simp only[allSized]at h
   cases hs:sizeA E.tt f.type with
   | none=>rw[hs]at h;cases h
   | some n=>
     rw[hs]at h
     obtain⟨places,h1,h2⟩:=places_of hE fs h
     obtain⟨i,hi,hn⟩:=size_eq hE hs
     refine⟨(f.offset,n) :: places,by simp[List.mapM_cons,hi,h1,hn],fun j g hg m hm=>?_⟩
     cases j with
     | zero=>simp at hg;subst hg;rw[hs]at hm;cases hm;rfl
     | succ j=>simp at hg ⊢;exact h2 j g hg m hm
theorem build_sound (hE:EnvOk E) {t:TypeId} {parts:Array (Nat × Value)} {parts':List (Nat × Value)} {v':Value} (hp:PR ρ parts.toList parts') (hb:buildA E.tt t parts'=some v') (w:World):
 ∃v,(Instr.build t parts).run E.P w=.ok v w/\VR ρ v v':=by
 unfold buildA at hb
 cases hz:zeroA E.tt t with
 | none=>rw[hz]at hb;cases hb
 | some z=>
   rw[hz]at hb
   obtain⟨i,hi,hzi,hf⟩:=zeroA_inv hE hz
   have hrel:=cells_rel (VR.of_free ρ z hf)
   simp only[buildA2]at hb
   split at hb
   · rename_i fs hd
     have hu:=und_eq hE hd
     split at hb
     · rename_i hall
       obtain⟨places,h1,h2⟩:=places_of hE _ hall
       cases hfl:fillA (structPlace E.tt t) parts' (cellsV z) with
       | none=>rw[hfl]at hb;cases hb
       | some r'=>
         rw[hfl]at hb
         cases hb
         obtain⟨r,g1,g2⟩:=fill_sound (place:=(places.toArray[·]?)) (fun j x hx=>by
          unfold structPlace at hx
          cases hfo:fieldOf E.tt t j with
          | none=>rw[hfo]at hx;cases hx
          | some y=>
            rw[hfo]at hx
            obtain⟨fs2,fd,hu2,hfd,he,hs⟩:=fieldOf_inv hE hfo
            rw[hu]at hu2;cases hu2
            obtain⟨a,b,c⟩:=y
            simp only[Prod.mk.injEq]at he
            obtain⟨rfl,rfl,-⟩:=he
            cases hx
            have:=h2 j fd (by simpa using hfd) c hs
            simpa using this) hp hrel hfl
         refine⟨.agg r,run_build w t parts r ?_,VR.agg_of g2⟩
         simp only[Program.built,hi,hu,hzi,h1]
         exact g1
     · cases hb
   · rename_i n e hd
     have hu:=und_eq hE hd
     cases hs:sizeA E.tt e with
     | none=>rw[hs]at hb;cases hb
     | some m=>
       rw[hs]at hb
       cases hfl:fillA (elemPlace m) parts' (cellsV z) with
       | none=>simp only[hfl]at hb;cases hb
       | some r'=>
         simp only[hfl]at hb
         cases hb
         obtain⟨r,g1,g2⟩:=fill_sound (place:=fun i=>some (i*m,m)) (fun j x hx=>hx) hp hrel hfl
         obtain⟨ie,hie,hm⟩:=size_eq hE hs
         refine⟨.agg r,run_build w t parts r ?_,VR.agg_of g2⟩
         simp only[Program.built,hi,hu,hzi,hie,hm]
         exact g1
   · cases hb
theorem cellsV_eq (v:Value):cellsV v=v.cells.toList:=by cases v<;>rfl
theorem repl_get:∀(n:Nat) (z:List Value) (i:Nat),(repl n z)[i]?=if i<n*z.length then z[i % z.length]? else none
 | 0,z,i=>by show([]:List Value)[i]?=_;simp
 | n+1,z,i=>by
   show(z ++ repl n z)[i]?=_
   by_cases h:i<z.length
   · rw[List.getElem?_append_left h,if_pos (by rw[Nat.add_mul,Nat.one_mul];omega),Nat.mod_eq_of_lt h]
   · rw[List.getElem?_append_right (by omega),repl_get n z]
     have h1:(i-z.length) % z.length=i % z.length:=by rw[<-Nat.mod_eq_sub_mod (by omega)]
     by_cases h2:i-z.length<n*z.length
     · rw[if_pos h2,if_pos (by rw[Nat.add_mul,Nat.one_mul];omega),h1]
     · rw[if_neg h2,if_neg (by rw[Nat.add_mul,Nat.one_mul];omega)]
theorem repl_length:∀(n:Nat) (z:List Value),(repl n z).length=n*z.length
 | 0,z=>by show([]:List Value).length=_;simp
 | n+1,z=>by
   show(z ++ repl n z).length=_
   rw[List.length_append,repl_length n z,Nat.add_mul,Nat.one_mul];omega
theorem zeros_eq (n:Nat) (z:Array Value) (hz:0<z.size):(Array.range (n*z.size)).map (fun i=>z[i % z.size]!)=⟨repl n z.toList⟩:=by
 apply Array.ext'
 apply List.ext_getElem?
 intro i
 rw[repl_get]
 simp only[Array.toList_map,Array.toList_range,List.getElem?_map,Array.length_toList,List.getElem?_range]
 by_cases h:i<n*z.size
 · have hm:i % z.size<z.size:=Nat.mod_lt _ hz
   simp[h,hm]
 · simp[h]
theorem LR.repl {l l':List Value} (h:LR ρ l l'):∀n,LR ρ (repl n l) (repl n l')
 | 0=>LR.nil ρ
 | n+1=>h.append (LR.repl h n)
theorem zeros_inv (hE:EnvOk E) {t:TypeId} {n:Nat} {l:List Value} (h:zeros E.tt t n=some l):
 ∃i z,E.P.info? t=some i/\i.zero=some z/\z.cells.size=i.size/\0<i.size/\l=repl n z.cells.toList/\∀ρ,LR ρ l l:=by
 unfold zeros at h
 cases hz:zeroA E.tt t with
 | none=>rw[hz]at h;cases h
 | some z=>
   rw[hz]at h
   obtain⟨i,hi,hzi,hf⟩:=zeroA_inv hE hz
   simp only at h
   cases hs:sizeA E.tt t with
   | none=>rw[hs]at h;cases h
   | some s=>
     rw[hs]at h
     simp only[zeros2]at h
     obtain⟨i',hi',hn⟩:=size_eq hE hs
     rw[hi]at hi';cases hi'
     cases hb:(Nat.beq (cellsV z).length s && Nat.blt 0 s) with
     | false=>rw[hb]at h;cases h
     | true=>
       rw[hb]at h
       cases h
       simp only[Bool.and_eq_true,Nat.blt_eq]at hb
       have h1:(cellsV z).length=s:=Nat.eq_of_beq_eq_true hb.1
       rw[cellsV_eq]at h1 ⊢
       refine⟨i,z,hi,hzi,by rw[hn,<-h1];simp,by rw[hn];exact hb.2,rfl,fun ρ=>?_⟩
       have:=cells_rel (VR.of_free ρ z hf)
       rw[cellsV_eq]at this
       exact this.repl n
theorem buildSlice_sound (hE:EnvOk E) (h:HR E.ng ρ H w) {t:TypeId} {len:Nat} {parts:Array (Nat × Value)} {parts':List (Nat × Value)} {v':Value} (hp:PR ρ parts.toList parts') (hb:bslA E.tt H len parts' (elemA E.tt t)=.ok v' H'):
 OpRes E ρ H w (do pure (Next.value (<-Instr.buildSlice t len parts))) v' H':=by
 cases he:elemA E.tt t with
 | none=>rw[he]at hb;cases hb
 | some e=>
   rw[he]at hb
   obtain⟨hu,hs⟩:=elemA_inv hE he
   obtain⟨e,size⟩:=e
   simp only at hu hs
   simp only[bslA]at hb
   cases hle:Nat.ble (len*size) 65536 with
   | false=>rw[hle]at hb;cases hb
   | true=>
     rw[hle]at hb
     have hsm:len*size<=65536:=Nat.le_of_ble_eq_true hle
     simp only at hb
     cases hz:zeros E.tt e len with
     | none=>rw[hz]at hb;cases hb
     | some z=>
       rw[hz]at hb
       obtain⟨i,z0,hi,hzi,hzs,hpos,rfl,hlr⟩:=zeros_inv hE hz
       obtain⟨i',hi',hn⟩:=size_eq hE hs
       rw[hi]at hi';cases hi'
       simp only[bslA2,rowA]at hb
       cases hfl:fillA (elemPlace size) parts' (repl len z0.cells.toList) with
       | none=>rw[hfl]at hb;cases hb
       | some cs=>
         rw[hfl]at hb
         cases hb
         obtain⟨r,g1,g2⟩:=fill_sound (place:=fun i=>some (i*size,size)) (cells:=⟨repl len z0.cells.toList⟩) (fun j x hx=>hx) hp (hlr ρ) hfl
         obtain⟨h1,h2⟩:=new_exact h e g2
         have hrun:(Instr.buildSlice t len parts).run E.P w=.ok (.slice (some ⟨w.heap.size,0,none⟩) len len) (w.alloc (.cells ⟨r.toList⟩ e)):=by
          have hbig:¬(len*size > 2 ^ 24):=by omega
          simp only[Instr.buildSlice,Sem.run_bind,run_underlying hu,run_sizeOf_eq hE hs,Result.andThen,hbig,if_false]
          by_cases h0:len*size=0
          · have hlen:len=0:=by
             rcases Nat.mul_eq_zero.1 h0 with h|h
             · exact h
             · omega
            subst hlen
            have g1':Instr.fill (fun i=>some (i*size,size)) #[] parts.toList=some r:=g1
            simp only[h0,if_true,Sem.run_bind,Sem.run_pure,Result.andThen]
            rw[show(Array.map (fun x=>(#[]:Array Value)[x % (#[]:Array Value).size]!) (Array.range 0))=#[] from by simp,g1']
            rfl
          · have hrow:(Array.range (len*size)).map (fun i=>z0.cells[i % z0.cells.size]!)=⟨repl len z0.cells.toList⟩:=by
             rw[show len*size=len*z0.cells.size by rw[hzs,hn]]
             exact zeros_eq len z0.cells (by rw[hzs];exact hpos)
            simp only[h0,if_false,Sem.run_bind,runZero hi hzi,Result.andThen,Sem.run_pure,hrow,g1]
            rfl
         refine⟨_,_,_,.inl (run_v hrun),?_,h1,h2⟩
         exact VR.slice (o:=0) (p:=⟨w.heap.size,0,r.toList.length,0⟩) (Rho.put_same _ _ _) (Nat.le_refl _) (fun _=>rfl) (fun h=>absurd rfl h)
theorem makeSlice_sound (hE:EnvOk E) (h:HR E.ng ρ H w) {t:TypeId} {l l' c c':Value} {v':Value} (hl:VR ρ l l') (hc:VR ρ c c') (hb:mkSlA E.tt H t (natOf l') (natOf c')=.ok v' H'):
 OpRes E ρ H w (do pure (Next.value (<-Instr.makeSlice t l c))) v' H':=by
 cases hnl:natOf l' with
 | none=>rw[hnl]at hb;cases hb
 | some nl=>
   cases hnc:natOf c' with
   | none=>rw[hnl,hnc]at hb;cases hb
   | some nc=>
     rw[hnl,hnc]at hb
     obtain⟨k1,rfl⟩:=natOf_inv hl hnl
     obtain⟨k2,rfl⟩:=natOf_inv hc hnc
     simp only[mkSlA]at hb
     cases he:elemA E.tt t with
     | none=>rw[he]at hb;cases hb
     | some e=>
       rw[he]at hb
       obtain⟨hu,hs⟩:=elemA_inv hE he
       obtain⟨e,size⟩:=e
       simp only at hu hs
       simp only[mkSl2]at hb
       cases hle:(Nat.ble nl nc && Nat.ble nc 65536) with
       | false=>rw[hle]at hb;cases hb
       | true=>
         rw[hle]at hb
         simp only[Bool.and_eq_true]at hle
         have h1:=Nat.le_of_ble_eq_true hle.1
         have h2:=Nat.le_of_ble_eq_true hle.2
         simp only at hb
         cases hi0:E.tt.info e with
         | none=>rw[hi0]at hb;cases hb
         | some i0=>
           rw[hi0]at hb
           simp only at hb
           cases hby:Nat.ble i0.bytes 1024 with
           | false=>rw[hby]at hb;cases hb
           | true=>
             rw[hby]at hb
             have h3:=Nat.le_of_ble_eq_true hby
             simp only at hb
             cases hz:zeros E.tt e nc with
             | none=>rw[hz]at hb;cases hb
             | some z=>
               rw[hz]at hb
               obtain⟨i,z0,hi,hzi,hzs,hpos,rfl,hlr⟩:=zeros_inv hE hz
               have hii:=hE.tt e i0 hi0
               rw[hi]at hii;cases hii
               simp only[rowA]at hb
               cases hb
               obtain⟨g1,g2⟩:=new_exact h e (hlr ρ)
               have hmul:i0.bytes*nc<=1024*65536:=Nat.mul_le_mul h3 h2
               have hmul':(i0.bytes:Int)*(nc:Int)<=281474976710656:=by
                have:((i0.bytes*nc:Nat):Int)<=((1024*65536:Nat):Int):=Int.ofNat_le.2 hmul
                rw[Int.natCast_mul]at this
                omega
               have hrun:=run_make (P:=E.P) w t e i0 z0 hu hi hzi k1 k2 nl nc (by omega) (by omega) hmul' (by omega)
               have hm:madeCells z0.cells ((nc:Int).toNat*i0.size)=⟨repl nc z0.cells.toList⟩:=by
                rw[Int.toNat_natCast,<-hzs]
                exact zeros_eq nc z0.cells (by rw[hzs];exact hpos)
               rw[hm]at hrun
               refine⟨_,_,_,.inl (run_v hrun),?_,g1,g2⟩
               exact VR.slice (o:=0) (p:=⟨w.heap.size,0,(repl nc z0.cells.toList).length,0⟩) (Rho.put_same _ _ _) (Nat.le_of_eq (Int.toNat_natCast _).symm) (fun _=>Int.toNat_natCast _) (fun h=>absurd rfl h)
inductive OR (ρ:Rho):Option Value->Option Value->Prop
 | none:OR ρ none none
 | some {v v':Value} (h:VR ρ v v'):OR ρ (some v) (some v')
theorem boundA_some {ρ:Rho} {v v':Value} {d most n:Nat} (hv:VR ρ v v') (h:boundA (some v') d most=some n):n<=most/\∃k,v=.int k (n:Int):=by
 unfold boundA at h
 split at h
 · rename_i heq;cases heq
 · rename_i k m heq
   cases heq
   cases hb:Nat.ble m most with
   | false=>rw[hb]at h;cases h
   | true=>rw[hb]at h;cases h;exact⟨Nat.le_of_ble_eq_true hb,k,hv.int_inv⟩
 · cases h
theorem run_bound {P:Program} {k:IntKind} {n y:Nat} (h:n<=y) (code:BoundsCode) (w:World):(Instr.sliceBound (.int k (n:Int)) y code).run P w=.ok n w:=by
 have h1:(0:Int)<=(n:Int)/\(n:Int)<=(y:Int):=by omega
 simp[Instr.sliceBound,asIntOf,Result.andThen,h]
theorem bounds_sound {P:Program} {lo hi mx lo' hi' mx':Option Value} {len cap c l h m:Nat} (hlo:OR ρ lo lo') (hhi:OR ρ hi hi') (hmx:OR ρ mx mx') (hb:boundsA lo' hi' mx' len cap=some (l,h,m)) (hc:cap<=c) (sl:Bool) (w:World):
 l<=h/\h<=m/\m<=cap/\∃m',(Instr.sliceBounds sl len c lo hi mx).run P w=.ok (l,h,m') w/\m<=m'/\m'<=c/\(c=cap->m'=m):=by
 unfold boundsA at hb
 cases hmx with
 | none=>
   simp only[bounds1]at hb
   cases hh:boundA hi' len cap with
   | none=>rw[hh]at hb;cases hb
   | some h1=>
     rw[hh]at hb
     simp only[bounds2]at hb
     cases hl:boundA lo' 0 h1 with
     | none=>rw[hl]at hb;cases hb
     | some l1=>
       rw[hl]at hb
       simp only[bounds3]at hb
       cases hle:Nat.ble h1 cap with
       | false=>rw[hle]at hb;cases hb
       | true=>
         rw[hle]at hb
         cases hb
         have hle:=Nat.le_of_ble_eq_true hle
         cases hhi with
         | none=>
           cases hh
           cases hlo with
           | none=>cases hl;exact⟨Nat.zero_le _,hle,Nat.le_refl _,c,by simp[Instr.sliceBounds],hc,Nat.le_refl _,fun e=>e⟩
           | some hv=>
             obtain⟨h2,k,rfl⟩:=boundA_some hv hl
             exact⟨h2,hle,Nat.le_refl _,c,by simp[Instr.sliceBounds,run_bound h2,Result.andThen],hc,Nat.le_refl _,fun e=>e⟩
         | some hv2=>
           obtain⟨h3,k2,rfl⟩:=boundA_some hv2 hh
           cases hlo with
           | none=>cases hl;exact⟨Nat.zero_le _,hle,Nat.le_refl _,c,by simp[Instr.sliceBounds,run_bound (Nat.le_trans h3 hc),Result.andThen],hc,Nat.le_refl _,fun e=>e⟩
           | some hv=>
             obtain⟨h2,k,rfl⟩:=boundA_some hv hl
             exact⟨h2,hle,Nat.le_refl _,c,by simp[Instr.sliceBounds,run_bound h2,run_bound (Nat.le_trans h3 hc),Result.andThen],hc,Nat.le_refl _,fun e=>e⟩
 | some hvm=>
   simp only at hb
   cases hhi with
   | none=>cases hb
   | some hv2=>
     simp only[bounds1]at hb
     rename_i vm vm' vh vh'
     cases hm:boundA (some vm') cap cap with
     | none=>rw[hm]at hb;cases hb
     | some m1=>
       rw[hm]at hb
       simp only[bounds2]at hb
       obtain⟨h5,k5,rfl⟩:=boundA_some hvm hm
       cases hh:boundA (some vh') len m1 with
       | none=>rw[hh]at hb;cases hb
       | some h1=>
         rw[hh]at hb
         simp only at hb
         obtain⟨h3,k2,rfl⟩:=boundA_some hv2 hh
         cases hl:boundA lo' 0 h1 with
         | none=>rw[hl]at hb;cases hb
         | some l1=>
           rw[hl]at hb
           simp only[bounds3]at hb
           cases hle:Nat.ble h1 m1 with
           | false=>rw[hle]at hb;cases hb
           | true=>
             rw[hle]at hb
             cases hb
             have hle:=Nat.le_of_ble_eq_true hle
             cases hlo with
             | none=>cases hl;exact⟨Nat.zero_le _,hle,h5,m,by simp[Instr.sliceBounds,run_bound (Nat.le_trans h5 hc),run_bound h3,Result.andThen],Nat.le_refl _,Nat.le_trans h5 hc,fun _=>rfl⟩
             | some hv=>
               obtain⟨h2,k,rfl⟩:=boundA_some hv hl
               exact⟨h2,hle,h5,m,by simp[Instr.sliceBounds,run_bound h2,run_bound (Nat.le_trans h5 hc),run_bound h3,Result.andThen],Nat.le_refl _,Nat.le_trans h5 hc,fun _=>rfl⟩
theorem okRow_inv (h:HR E.ng ρ H w) {b size:Nat} {p:Pl} (hp:ρ b=some p) (ho:okRow (H.get b) size=true):p.k=0\/p.k=size:=by
 cases hb:H.get b<;>rw[hb]at ho<;>simp only[okRow]at ho<;>try (cases ho;done)
 rename_i cs k
 have hk:=(h.cells hp hb).1
 cases k with
 | zero=>exact .inl hk
 | succ k=>exact .inr (by rw[hk];exact Nat.eq_of_beq_eq_true ho)
theorem exactRow_inv (h:HR E.ng ρ H w) {b:Nat} {p:Pl} (hp:ρ b=some p) (ho:exactRow (H.get b)=true):p.k=0:=by
 cases hb:H.get b<;>rw[hb]at ho<;>simp only[exactRow]at ho<;>try (cases ho;done)
 rename_i cs k
 have hk:=(h.cells hp hb).1
 cases k with
 | zero=>exact hk
 | succ k=>cases ho
theorem slAt_eq (b o size l h m:Nat):slAt b o size (some (l,h,m))=some (.slice (some ⟨b,if m=l then o else o+l*size,none⟩) (h-l) (m-l)):=by
 simp only[slAt]
 congr 3
 by_cases e:m=l
 · subst e;simp
 · rw[if_neg e]
   have:Nat.beq m l=false:=by
    cases hb:Nat.beq m l with
    | false=>rfl
    | true=>exact absurd (Nat.eq_of_beq_eq_true hb) e
   rw[this]
theorem slice_sound (hE:EnvOk E) (h:HR E.ng ρ H w) {t:TypeId} {x x' v':Value} {lo hi mx lo' hi' mx':Option Value} (hx:VR ρ x x') (hlo:OR ρ lo lo') (hhi:OR ρ hi hi') (hmx:OR ρ mx mx')
 (hs:sliceA E.tt H t x' lo' hi' mx'=some v'):∃v,(Instr.sliceAt t x lo hi mx).run E.P w=.ok v w/\VR ρ v v':=by
 cases x' with
 | string bs=>
   obtain⟨⟨s⟩⟩:=bs
   cases hmx with
   | some _=>cases hs
   | none=>
     have hs:(match E.tt.und t with|some .string=>slStr s (boundsA lo' hi' none s.length s.length)|_=>none)=some v':=hs
     split at hs
     · rename_i hd
       have hu:=und_eq hE hd
       rw[hx.string_inv]
       cases hb:boundsA lo' hi' none s.length s.length with
       | none=>rw[hb]at hs;cases hs
       | some r=>
         obtain⟨l,hh,m⟩:=r
         rw[hb]at hs
         obtain⟨h1,h2,h3,m',h4,h5,h6,h7⟩:=bounds_sound (P:=E.P) hlo hhi .none hb (Nat.le_refl _) false w
         simp only[slStr]at hs
         cases ht:takeL (hh-l) (dropL l s) with
         | none=>rw[ht]at hs;cases hs
         | some x=>
           rw[ht]at hs
           cases hs
           rw[dropL_eq]at ht
           obtain⟨hn,rfl⟩:=takeL_some ht
           refine⟨.string ((⟨⟨s⟩⟩:ByteArray).extract l hh),?_,?_⟩
           · have hsz:(⟨⟨s⟩⟩:ByteArray).size=s.length:=rfl
             simp[Instr.sliceAt,Instr.slice,run_underlying hu,Result.andThen,hsz,h4]
           · have:(⟨⟨s⟩⟩:ByteArray).extract l hh=⟨⟨(s.drop l).take (hh-l)⟩⟩:=by
              apply ByteArray.ext
              rw[ByteArray.data_extract]
              apply Array.ext'
              simp[List.extract_eq_take_drop]
             rw[this];exact .string _
     · cases hs
 | slice a len cap=>
   have hs:slSl H (.slice a len cap) lo' hi' mx' (elemA E.tt t)=some v':=hs
   cases he:elemA E.tt t with
   | none=>rw[he]at hs;cases hs
   | some e=>
     rw[he]at hs
     obtain⟨hu,hsz⟩:=elemA_inv hE he
     obtain⟨e,size⟩:=e
     simp only at hu hsz
     have hrun:∀(A:Option Addr) (L C l hh m:Nat),(Instr.sliceBounds true L C lo hi mx).run E.P w=.ok (l,hh,m) w ->
        (Instr.sliceAt t (.slice A L C) lo hi mx).run E.P w=.ok (.slice (if m=l then A else A.map (·.add (l*size))) (hh-l) (m-l)) w:=fun A L C l hh m hb=>by
      simp[Instr.sliceAt,Instr.slice,run_underlying hu,Result.andThen,hb,run_sizeOf_eq hE hsz]
     cases a with
     | none=>
       have hs:slNil (boundsA lo' hi' mx' 0 0)=some v':=hs
       cases hb:boundsA lo' hi' mx' 0 0 with
       | none=>rw[hb]at hs;cases hs
       | some r=>
         obtain⟨l,hh,m⟩:=r
         rw[hb]at hs
         cases hs
         cases hx
         obtain⟨h1,h2,h3,m',h4,h5,h6,h7⟩:=bounds_sound (P:=E.P) hlo hhi hmx hb (Nat.le_refl 0) true w
         have hm0:m=0:=by omega
         have hm':m'=0:=by omega
         have hh0:hh=0:=by omega
         have hl0:l=0:=by omega
         subst hm0;subst hm';subst hh0;subst hl0
         exact⟨_,hrun _ _ _ _ _ _ h4,.snil⟩
     | some a=>
       obtain⟨b,o,s⟩:=a
       have hs:(match okRow (H.get b) size with|true=>slAt b o size (boundsA lo' hi' mx' len cap)|false=>none)=some v':=hs
       cases ho:okRow (H.get b) size with
       | false=>rw[ho]at hs;cases hs
       | true=>
         rw[ho]at hs
         simp only at hs
         cases hb:boundsA lo' hi' mx' len cap with
         | none=>rw[hb]at hs;cases hs
         | some r=>
           obtain⟨l,hh,m⟩:=r
           rw[hb,slAt_eq]at hs
           cases hs
           obtain⟨p,hp,⟨c,rfl,hc,h0,hk⟩|⟨a,c,rfl,rfl,rfl,hk⟩⟩:=slice_inv hx
           · obtain⟨h1,h2,h3,m',h4,h5,h6,h7⟩:=bounds_sound (P:=E.P) hlo hhi hmx hb hc true w
             refine⟨_,hrun _ _ _ _ _ _ h4,?_⟩
             rcases okRow_inv h hp ho with hk0|hks
             · have hm:m'=m:=h7 (h0 hk0)
               subst hm
               by_cases e:m'=l
               · rw[if_pos e,if_pos e]
                 exact .slice hp (Nat.le_refl _) (fun _=>rfl) (fun hne=>absurd hk0 hne)
               · rw[if_neg e,if_neg e]
                 simp only[Option.map_some,addr_add,Nat.add_assoc]
                 exact .slice hp (Nat.le_refl _) (fun _=>rfl) (fun hne=>absurd hk0 hne)
             · by_cases hk0:p.k=0
               · have hm:m'=m:=h7 (h0 hk0)
                 subst hm
                 by_cases e:m'=l
                 · rw[if_pos e,if_pos e]
                   exact .slice hp (Nat.le_refl _) (fun _=>rfl) (fun hne=>absurd hk0 hne)
                 · rw[if_neg e,if_neg e]
                   simp only[Option.map_some,addr_add,Nat.add_assoc]
                   exact .slice hp (Nat.le_refl _) (fun _=>rfl) (fun hne=>absurd hk0 hne)
               · by_cases e:m=l
                 · have hh':hh-l=0:=by omega
                   have hml:m-l=0:=by omega
                   rw[hh',hml,if_pos e]
                   by_cases e':m'=l
                   · rw[if_pos e'];exact .sempty _ hp hk0
                   · rw[if_neg e'];exact .sempty _ hp hk0
                 · have hmm:m<=m':=by omega
                   have hmc:m'<=c:=by omega
                   rw[if_neg e,if_neg (by omega)]
                   simp only[Option.map_some,addr_add,Nat.add_assoc]
                   refine .slice hp (by omega) (fun h=>absurd h hk0) (fun _=>?_)
                   have:=hk hk0
                   rw[<-hks]
                   have e1:l*p.k+p.k*(m'-l)=p.k*m':=by
                    rw[Nat.mul_comm l,<-Nat.mul_add];congr 1;omega
                   have e2:p.k*m'<=p.k*c:=Nat.mul_le_mul_left _ hmc
                   omega
           · obtain⟨h1,h2,h3,m',h4,h5,h6,h7⟩:=bounds_sound (P:=E.P) (c:=c) hlo hhi hmx hb (Nat.zero_le _) true w
             have hm0:m=0:=by omega
             have hh0:hh=0:=by omega
             have hl0:l=0:=by omega
             subst hm0;subst hh0;subst hl0
             refine⟨_,hrun _ _ _ _ _ _ h4,?_⟩
             by_cases e':m'=0
             · rw[if_pos e',if_pos rfl];exact .sempty _ hp hk
             · rw[if_neg e',if_pos rfl];exact .sempty _ hp hk
 | pointer a=>
   have hs:slArr H (.pointer a) lo' hi' mx' (arrA E.tt t)=some v':=hs
   cases he:arrA E.tt t with
   | none=>rw[he]at hs;cases hs
   | some e=>
     rw[he]at hs
     obtain⟨hu,hsz⟩:=arrA_inv hE he
     obtain⟨n,e,size⟩:=e
     simp only at hu hsz
     cases a with
     | none=>cases hs
     | some a=>
       obtain⟨b,o,s⟩:=a
       have hs:(match exactRow (H.get b) with|true=>slAt b o size (boundsA lo' hi' mx' n n)|false=>none)=some v':=hs
       cases ho:exactRow (H.get b) with
       | false=>rw[ho]at hs;cases hs
       | true=>
         rw[ho]at hs
         simp only at hs
         obtain⟨p,hp,rfl⟩:=ptr_inv hx
         have hk0:=exactRow_inv h hp ho
         cases hb:boundsA lo' hi' mx' n n with
         | none=>rw[hb]at hs;cases hs
         | some r=>
           obtain⟨l,hh,m⟩:=r
           rw[hb,slAt_eq]at hs
           cases hs
           obtain⟨h1,h2,h3,m',h4,h5,h6,h7⟩:=bounds_sound (P:=E.P) hlo hhi hmx hb (Nat.le_refl _) false w
           have hm:m'=m:=h7 rfl
           subst hm
           refine⟨.slice (some ⟨p.c,p.s+(if m'=l then o else o+l*size),none⟩) (hh-l) (m'-l),?_,.slice hp (Nat.le_refl _) (fun _=>rfl) (fun hne=>absurd hk0 hne)⟩
           by_cases e:m'=l
           · simp[Instr.sliceAt,run_underlying hu,Result.andThen,Instr.sureAddr,h4,run_sizeOf_eq hE hsz,e]
           · simp[Instr.sliceAt,run_underlying hu,Result.andThen,Instr.sureAddr,h4,run_sizeOf_eq hE hsz,e,addr_add,Nat.add_assoc]
 | _=>cases hs
theorem lenA_sound {x x':Value} {n:Nat} (hx:VR ρ x x') (hl:lenA x'=some n) (P:Program) (w:World):(Builtin.lenOf x).run P w=.ok n w:=by
 cases hx<;>simp only[lenA]at hl<;>first
  | (cases hl;rfl)
  | (cases hl;done)
  | skip
theorem ofBytes_eq:∀l:List UInt8,ofBytes l=l.map fun b=>Value.int .u8 (b.toNat:Int)
 | []=>rfl
 | b :: l=>by simp only[ofBytes,List.map_cons,ofBytes_eq l];rfl
theorem freeL_ofBytes:∀l:List UInt8,freeL (ofBytes l)=true
 | []=>rfl
 | b :: l=>by simp only[ofBytes,freeL,freeL_ofBytes l];rfl
theorem src_sound_le (h:HR E.ng ρ H w) {size n m:Nat} {x x':Value} {l':List Value} (hx:VR ρ x x') (hl:lenA x'=some m) (hnm:n<=m) (hs:srcCells H size n x'=some l'):
 ∃l,LR ρ l l'/\∀w1:World,w1.heap=w.heap → (Builtin.firstCells size n x).run E.P w1=.ok ⟨l⟩ w1:=by
 cases x' with
 | slice a len cap=>
   cases hl
   cases a with
   | none=>
     cases hs
     cases hx
     exact⟨[],LR.nil _,fun _ _=>rfl⟩
   | some a=>
     obtain⟨b,o,s⟩:=a
     have hs:readCells H b o (n*size)=some l':=hs
     obtain⟨p,hp,⟨c,rfl,-⟩|⟨a,c,rfl,rfl,rfl,hk⟩⟩:=slice_inv hx
     · obtain⟨l,h1,h2,h3⟩:=read_cells h hp hs
       refine⟨l,h1,fun w1 hw=>?_⟩
       have hrun:=run_loadCells_list (P:=E.P) w1 ⟨p.c,p.s+o,none⟩ l (fun j v hv=>by
        rw[addr_add]
        have:=h3 j v hv
        simpa[World.cell?,hw] using this)
       rw[h2]at hrun
       exact hrun
     · obtain⟨l,h1,h2,h3⟩:=read_cells h hp hs
       have hn0:n=0:=by omega
       subst hn0
       have:l=[]:=by rw[Nat.zero_mul]at h2;simpa using h2
       subst this
       refine⟨[],h1,fun w1 _=>?_⟩
       show(loadCells a (0*size)).run E.P w1=_
       rw[Nat.zero_mul];rfl
 | string bs=>
   obtain⟨⟨s⟩⟩:=bs
   cases hl
   have hs:takeL n (ofBytes s)=some l':=hs
   rw[hx.string_inv]
   obtain⟨hn,rfl⟩:=takeL_some hs
   have hfree:freeL ((ofBytes s).take n)=true:=by
    rw[ofBytes_eq,<-List.map_take,<-ofBytes_eq];exact freeL_ofBytes _
   refine⟨(ofBytes s).take n,⟨rfl,LR.of_free ρ _ hfree⟩,fun w1 _=>?_⟩
   show Result.ok (((⟨⟨s⟩⟩:ByteArray).extract 0 n).data.map fun b=>Value.int .u8 (b.toNat:Int)) w1=_
   congr 1
   rw[ByteArray.data_extract,ofBytes_eq]
   apply Array.ext'
   simp[List.extract_eq_take_drop]
 | _=>cases hl
theorem src_sound (h:HR E.ng ρ H w) {size n:Nat} {x x':Value} {l':List Value} (hx:VR ρ x x') (hl:lenA x'=some n) (hs:srcCells H size n x'=some l'):
 ∃l,LR ρ l l'/\∀w1:World,w1.heap=w.heap → (Builtin.firstCells size n x).run E.P w1=.ok ⟨l⟩ w1:=src_sound_le h hx hl (Nat.le_refl n) hs
theorem appSize_inv (hE:EnvOk E) {t:TypeId} {n:Nat} (h:appSize E.tt t=some n):
 ∃e i z,E.P.underlying t=some (.slice e)/\E.P.info? e=some i/\i.size=n/\i.zero=some z/\z.cells.size=n/\i.bytes<=1024/\0<i.bytes/\0<n:=by
 unfold appSize at h
 cases he:elemA E.tt t with
 | none=>rw[he]at h;cases h
 | some e=>
   rw[he]at h
   obtain⟨hu,hs⟩:=elemA_inv hE he
   obtain⟨e,size⟩:=e
   simp only at hu hs h
   cases hi:E.tt.info e with
   | none=>rw[hi]at h;cases h
   | some i=>
     rw[hi]at h
     simp only at h
     cases hb:(Nat.ble i.bytes 1024 && Nat.blt 0 i.bytes && Nat.blt 0 size) with
     | false=>rw[hb]at h;cases h
     | true=>
       rw[hb]at h
       simp only[Bool.and_eq_true,Nat.blt_eq]at hb
       simp only at h
       cases hz:zeroA E.tt e with
       | none=>rw[hz]at h;cases h
       | some z=>
         rw[hz]at h
         simp only at h
         cases hq:Nat.beq (cellsV z).length size with
         | false=>rw[hq]at h;cases h
         | true=>
           rw[hq]at h
           cases h
           obtain⟨i',hi',hzi,_⟩:=zeroA_inv hE hz
           rw[hE.tt e i hi]at hi';cases hi'
           obtain⟨i',hi',hn⟩:=size_eq hE hs
           rw[hE.tt e i hi]at hi';cases hi'
           have:=Nat.eq_of_beq_eq_true hq
           rw[cellsV_eq]at this
           exact⟨e,i,z,hu,hE.tt e i hi,hn,hzi,by simpa using this,Nat.le_of_ble_eq_true hb.1.1,hb.1.2,hb.2⟩
theorem run_append_far {P:Program} {t u ty e:TypeId} {i:TypeInfo} {z x:Value} {d:TypeDesc} (ht:P.underlying t=some (.slice e)) (hu:P.underlying u=some d) (hd:∀k,d≠.int k) (hi:P.info? e=some i) (hz:i.zero=some z)
 {base:Option Addr} {sLen sCap n:Nat} {old new:List Value} (hn:∀w,(Builtin.lenOf x).run P w=.ok n w) (hfo:(Builtin.firstCells i.size sLen (.slice base sLen sCap)).run P w.drew=.ok ⟨old⟩ w.drew)
 (hf:(Builtin.firstCells i.size n x).run P w.drew=.ok ⟨new⟩ w.drew) (hg:sCap<sLen+n) (hsm:sLen+n<=1048576) (hb:i.bytes<=1024) (hb0:0<i.bytes):
 (Builtin.append_ #[t,u] ty #[.slice base sLen sCap,x]).run P w =
   .ok (.slice (some ⟨w.heap.size,0,none⟩) (sLen+n) (grownCap w (sLen+n) sCap e)) (w.drew.alloc (.cells ⟨old ++ (new ++ (Builtin.zeroCells z.cells (grownCap w (sLen+n) sCap e-(sLen+n))).toList)⟩ e)):=by
 have hneed:¬(sLen+n<=sCap):=by omega
 have hmul:(sLen+n)*i.bytes<=1048576*1024:=Nat.mul_le_mul hsm hb
 have hfit:=growslice_fits (bytes:=i.bytes) hg (by omega)
 have h63':¬(9223372036854775807<((sLen:Int)+(n:Int))):=by omega
 have h48':¬(281474976710656<Builtin.nextslicecap (sLen+n) sCap*i.bytes):=by omega
 have hnot:(match d with | .int _=>true|_=>false)=false:=by cases d<;>simp at hd ⊢
 have hb1:i.bytes≠0:=by omega
 simp[Builtin.append_,run_underlying ht,run_underlying hu,Go.sizeOf,typeInfo,zeroValue,hi,hz,hn,hneed,h63',h48',Question.forced,hf,hfo,newRow,grownCap,hnot]
 congr 2
 apply Array.ext'
 simp
theorem run_append_near {P:Program} {t u ty e:TypeId} {i:TypeInfo} {x:Value} {d:TypeDesc} (ht:P.underlying t=some (.slice e)) (hu:P.underlying u=some d) (hd:∀k,d≠.int k) (hi:P.info? e=some i)
 {base:Option Addr} {sLen sCap n:Nat} {new:List Value} (hn:∀w,(Builtin.lenOf x).run P w=.ok n w)
 (hf:(Builtin.firstCells i.size n x).run P w=.ok ⟨new⟩ w) (hg:sLen+n<=sCap)
 (hst:∀a,base=some a → (storeCells (a.add (sLen*i.size)) new).run P w=.ok () w') (hno:base=none->w'=w):
 (Builtin.append_ #[t,u] ty #[.slice base sLen sCap,x]).run P w=.ok (.slice base (sLen+n) sCap) w':=by
 have hnot:(match d with | .int _=>true|_=>false)=false:=by cases d<;>simp at hd ⊢
 cases base with
 | none=>have:=hno rfl;subst this;simp[Builtin.append_,run_underlying ht,run_underlying hu,Go.sizeOf,typeInfo,hi,hn,hg,hf,hnot]
 | some a=>simp[Builtin.append_,run_underlying ht,run_underlying hu,Go.sizeOf,typeInfo,hi,hn,hg,hf,hnot,hst a rfl]
theorem grownCap_ge (w:World) (need old:Nat) (e:TypeId):need<=grownCap w need old e:=by
 simp only[grownCap,Question.cut];omega
theorem zeroCells_size (z:Array Value) (n:Nat):(Builtin.zeroCells z n).size=n*z.size:=by simp[Builtin.zeroCells]
theorem freshRes (h:HR E.ng ρ H w) {s:Sem Value} {old new old' new':List Value} {need size cap:Nat} {e:TypeId} {z:Array Value} (hsz:z.size=size) (hpos:0<size) (hcap:need<=cap) (hlen:(old ++ new).length=need*size)
 (ho:LR ρ old old') (hn:LR ρ new new')
 (hr:s.run E.P w=.ok (.slice (some ⟨w.heap.size,0,none⟩) need cap) (w.drew.alloc (.cells ⟨old ++ (new ++ (Builtin.zeroCells z (cap-need)).toList)⟩ e))):
 ∃ρ' v w',s.run E.P w=.ok v w'/\VR ρ' v (.slice (some ⟨H.next,0,none⟩) need need)/\HR E.ng ρ' (newRowA H (old' ++ new') size) w'/\Ext ρ H w ρ' (newRowA H (old' ++ new') size) w':=by
 obtain⟨h1,h2⟩:=new_open (w1:=w.drew) (rest:=(Builtin.zeroCells z (cap-need)).toList) h e (Nat.pos_iff_ne_zero.1 hpos) (ho.append hn) rfl rfl rfl rfl
 rw[<-List.append_assoc]at hr
 refine⟨_,_,_,hr,?_,h1,h2⟩
 refine VR.slice (o:=0) (p:=⟨w.heap.size,0,(old ++ new ++ (Builtin.zeroCells z (cap-need)).toList).length,size⟩) (Rho.put_same _ _ _) hcap (fun h0=>absurd h0 (Nat.pos_iff_ne_zero.1 hpos)) (fun _=>?_)
 have e1:(Builtin.zeroCells z (cap-need)).toList.length=(cap-need)*size:=by rw[Array.length_toList,zeroCells_size,hsz]
 simp only[List.length_append]at hlen ⊢
 rw[e1]
 have e2:need*size+(cap-need)*size=cap*size:=by rw[<-Nat.add_mul];congr 1;omega
 have e3:size*cap=cap*size:=Nat.mul_comm _ _
 omega
end Ex

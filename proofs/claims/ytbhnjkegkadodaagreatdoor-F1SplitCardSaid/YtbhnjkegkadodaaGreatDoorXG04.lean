/- A verified executor for closed Go calls, part of it: its lemmas carry no condition. -/
import Derived.Test.YtbhnjkegkadodaaGreatDoorXG03
set_option linter.unusedVariables false
set_option linter.unusedSimpArgs false
set_option maxRecDepth 100000
set_option maxHeartbeats 8000000
namespace Ex
open Go
variable {E:Env} {ρ ρ':Rho} {H H':Heap} {w w':World}
theorem pureRun_bind {α β:Type} {P:Program} {f:α->Sem β} {b:β}:∀ {s:Sem α},pureRun P (s >>= f)=some b↔∃a,pureRun P s=some a/\pureRun P (f a)=some b
 | .pure a=>by
   show pureRun P (f a)=some b↔_
   simp[pureRun]
 | .program k=>by
   show pureRun P ((k P) >>= f)=some b↔_
   rw[pureRun_bind (s:=k P)];rfl
 | .mark m k=>by
   show pureRun P (k >>= f)=some b↔_
   rw[pureRun_bind (s:=k)];rfl
 | .load .. | .store .. | .new .. | .shape .. | .freeze .. | .frozen .. | .getObj .. | .setObj ..
 | .choose .. | .sys .. | .halt _=>by
   constructor
   · intro h;exact absurd h (by intro h;cases h)
   · rintro⟨a,h,_⟩;cases h
theorem findNow_keys (kind:TypeDesc) (k:Value):∀(a b:List MapEntry) (i:Nat),a.map (·.key)=b.map (·.key) ->
 (Instr.findNow kind k b i=none->Instr.findNow kind k a i=none)/\(Instr.findNow kind k b i=some none->Instr.findNow kind k a i=some none) /\
 (∀j v,Instr.findNow kind k b i=some (some (j,v))->∃e,i<=j/\a[j-i]?=some e/\Instr.findNow kind k a i=some (some (j,e.val)))
 | [],[],i,_=>⟨fun h=>h,fun h=>h,fun j v h=>by simp[Instr.findNow]at h⟩
 | [],_ :: _,_,h=>by simp at h
 | _ :: _,[],_,h=>by simp at h
 | x :: a,y :: b,i,h=>by
   simp only[List.map_cons,List.cons.injEq]at h
   obtain⟨h1,h2⟩:=h
   obtain⟨g1,g2,g3⟩:=findNow_keys kind k a b (i+1) h2
   simp only[Instr.findNow,h1]
   cases hs:Instr.sameNow kind k y.key with
   | none=>exact⟨fun _=>rfl,fun h=>(by cases h),fun j v h=>(by cases h)⟩
   | some c=>
     cases c with
     | true=>
       refine⟨fun h=>(by cases h),fun h=>(by cases h),fun j v h=>?_⟩
       simp only[Option.some.injEq,Prod.mk.injEq]at h
       obtain⟨rfl,_⟩:=h
       exact⟨x,Nat.le_refl _,by simp,rfl⟩
     | false=>
       refine⟨g1,g2,fun j v h=>?_⟩
       obtain⟨e,e1,e2,e3⟩:=g3 j v h
       refine⟨e,by omega,?_,e3⟩
       rw[show j-i=(j-(i+1))+1 by omega,List.getElem?_cons_succ]
       exact e2
theorem findAsking_keys {P:Program} (kt:TypeId) (k:Value):∀(a b:List MapEntry) (i:Nat),a.map (·.key)=b.map (·.key) ->
 (pureRun P (Instr.findAsking kt k b i)=some none->pureRun P (Instr.findAsking kt k a i)=some none) /\
 (∀j v,pureRun P (Instr.findAsking kt k b i)=some (some (j,v))->∃e,i<=j/\a[j-i]?=some e/\pureRun P (Instr.findAsking kt k a i)=some (some (j,e.val)))
 | [],[],i,_=>⟨fun h=>h,fun j v h=>by
   have h:some none=some (some (j,v)):=h
   cases h⟩
 | [],_ :: _,_,h=>by simp at h
 | _ :: _,[],_,h=>by simp at h
 | x :: a,y :: b,i,h=>by
   simp only[List.map_cons,List.cons.injEq]at h
   obtain⟨h1,h2⟩:=h
   obtain⟨g2,g3⟩:=findAsking_keys (P:=P) kt k a b (i+1) h2
   simp only[Instr.findAsking,h1]
   refine⟨fun h=>?_,fun j v h=>?_⟩
   · rw[pureRun_bind]at h ⊢
     obtain⟨c,hc,h⟩:=h
     refine⟨c,hc,?_⟩
     cases c with
     | true=>
       have h:some (some (i,y.val))=some none:=h
       cases h
     | false=>exact g2 h
   · rw[pureRun_bind]at h
     obtain⟨c,hc,h⟩:=h
     cases c with
     | true=>
       have h:pureRun P (pure (some (i,y.val)))=some (some (j,v)):=h
       have h:some (some (i,y.val))=some (some (j,v)):=h
       simp only[Option.some.injEq,Prod.mk.injEq]at h
       obtain⟨rfl,_⟩:=h
       exact⟨x,Nat.le_refl _,by simp,pureRun_bind.2 ⟨true,hc,rfl⟩⟩
     | false=>
       obtain⟨e,e1,e2,e3⟩:=g3 j v h
       refine⟨e,by omega,?_,pureRun_bind.2 ⟨false,hc,e3⟩⟩
       rw[show j-i=(j-(i+1))+1 by omega,List.getElem?_cons_succ]
       exact e2
theorem findKey_keys {P:Program} (kt:TypeId) (k:Value) {a b:List MapEntry} (h:a.map (·.key)=b.map (·.key)):
 (pureRun P (Instr.findKey kt k b)=some none->pureRun P (Instr.findKey kt k a)=some none) /\
 (∀j v,pureRun P (Instr.findKey kt k b)=some (some (j,v))->∃e,a[j]?=some e/\pureRun P (Instr.findKey kt k a)=some (some (j,e.val))):=by
 unfold Instr.findKey
 refine⟨fun hb=>?_,fun j v hb=>?_⟩
 · rw[pureRun_bind]at hb ⊢
   obtain⟨d,hd,hb⟩:=hb
   refine⟨d,hd,?_⟩
   obtain⟨g1,g2,g3⟩:=findNow_keys d k a b 0 h
   cases hn:Instr.findNow d k b 0 with
   | none=>
     rw[hn]at hb
     rw[g1 hn]
     exact(findAsking_keys kt k a b 0 h).1 hb
   | some r=>
     rw[hn]at hb
     have hb:some r=some none:=hb
     cases hb
     rw[g2 hn];rfl
 · rw[pureRun_bind]at hb
   obtain⟨d,hd,hb⟩:=hb
   obtain⟨g1,g2,g3⟩:=findNow_keys d k a b 0 h
   cases hn:Instr.findNow d k b 0 with
   | none=>
     rw[hn]at hb
     obtain⟨e,_,e2,e3⟩:=(findAsking_keys kt k a b 0 h).2 j v hb
     exact⟨e,by simpa using e2,pureRun_bind.2 ⟨d,hd,by rw[g1 hn];exact e3⟩⟩
   | some r=>
     rw[hn]at hb
     have hb:some r=some (some (j,v)):=hb
     cases hb
     obtain⟨e,_,e2,e3⟩:=g3 j v hn
     exact⟨e,by simpa using e2,pureRun_bind.2 ⟨d,hd,by rw[e3];rfl⟩⟩
theorem ents_keys:∀ {mes:List MapEntry} {i:Nat} {es:List (Value × Value)},MR ρ mes i es->keysFree es=true->mes.map (·.key)=(ents es).map (·.key)
 | _,_,_,.nil i,_=>rfl
 | _,_,_,.cons hk hv hb t,h=>by
   simp only[keysFree,Bool.and_eq_true]at h
   simp only[ents,List.map_cons]
   rw[free_eq hk h.1,ents_keys t h.2]
theorem MR.get {mes:List MapEntry}:∀ {i:Nat} {es:List (Value × Value)},MR ρ mes i es->∀(j:Nat) e kv,mes[j]?=some e->es[j]?=some kv->VR ρ e.key kv.1/\VR ρ e.val kv.2
 | _,_,.nil i,j,e,kv,h,_=>by simp at h
 | _,_,.cons hk hv hb t,j,e,kv,h1,h2=>by
   cases j with
   | zero=>simp at h1 h2;subst h1;subst h2;exact⟨hk,hv⟩
   | succ j=>exact t.get j e kv (by simpa using h1) (by simpa using h2)
theorem MR.length {mes:List MapEntry}:∀ {i:Nat} {es:List (Value × Value)},MR ρ mes i es->mes.length=es.length
 | _,_,.nil i=>rfl
 | _,_,.cons _ _ _ t=>by simp[t.length]
theorem findA_sound {P:Program} {kt:TypeId} {k:Value} {mes:List MapEntry} {i:Nat} {es:List (Value × Value)} {r:Option Nat} (hm:MR ρ mes i es) (hf:findA P kt k es=some r):
 free k=true/\keysFree es=true/\(r=none->∀w,(Instr.findKey kt k mes).run P w=.ok none w)/\(∀j,r=some j->∃e,mes[j]?=some e/\∀w,(Instr.findKey kt k mes).run P w=.ok (some (j,e.val)) w):=by
 unfold findA at hf
 cases hb:(free k && keysFree es) with
 | false=>rw[hb]at hf;cases hf
 | true=>
   rw[hb]at hf
   simp only[Bool.and_eq_true]at hb
   obtain⟨g1,g2⟩:=findKey_keys (P:=P) kt k (ents_keys hm hb.2)
   refine⟨hb.1,hb.2,fun hr w=>?_,fun j hr=>?_⟩
   · subst hr
     cases hp:pureRun P (Instr.findKey kt k (ents es)) with
     | none=>rw[hp]at hf;cases hf
     | some x=>
       cases x with
       | none=>exact pureRun_run (g1 hp) w
       | some y=>rw[hp]at hf;cases hf
   · subst hr
     cases hp:pureRun P (Instr.findKey kt k (ents es)) with
     | none=>rw[hp]at hf;cases hf
     | some x=>
       cases x with
       | none=>rw[hp]at hf;cases hf
       | some y=>
         rw[hp]at hf
         obtain⟨j',v⟩:=y
         have hf:some (some j')=some (some j):=hf
         cases hf
         obtain⟨e,e1,e2⟩:=g2 _ _ hp
         exact⟨e,e1,fun w=>pureRun_run e2 w⟩
theorem keyOkA_sound {P:Program} {em:Bool} {kt:TypeId} {k:Value} (h:keyOkA P em kt k=true) (w:World):(Instr.checkKey em 10000 kt k).run P w=.ok () w:=by
 unfold keyOkA at h
 cases hp:pureRun P (Instr.checkKey em 10000 kt k) with
 | none=>rw[hp]at h;cases h
 | some u=>exact pureRun_run hp w
theorem mapD_eq (hE:EnvOk E) {t k e:TypeId} (h:mapD (E.tt.und t)=some (k,e)) (w:World):(underlying t).run E.P w=.ok (.map k e) w:=by
 unfold mapD at h
 split at h
 · rename_i k' e' hd
   cases h
   exact run_underlying (und_eq hE hd) w
 · cases h
theorem mapOf_sound (h:HR E.ng ρ H w) {x x':Value} {es:List (Value × Value)} (hx:VR ρ x x') (hm:mapOf H x'=some es):
 (x=.map none/\es=[])\/∃l mes b,x=.map (some l)/\x'=.map (some b)/\ρ b=some ⟨l,0,0,0⟩/\H.get b=.map es/\w.heap[l]?=some (.map mes es.length)/\MR ρ mes.toList 0 es:=by
 unfold mapOf at hm
 split at hm
 · cases hx;cases hm;exact .inl ⟨rfl,rfl⟩
 · rename_i b
   split at hm
   · rename_i es' hb
     cases hm
     cases hx with
     | mp hp=>
       have:=h.obj b
       rw[hb]at this
       obtain⟨l,mes,h1,h2,h3⟩:=this
       rw[hp]at h1;cases h1
       exact .inr ⟨_,mes,b,rfl,rfl,hp,hb,h2,h3⟩
   · cases hm
 · cases hm
theorem run_getMap {P:Program} {l n:Nat} {mes:Array MapEntry} (h:w.heap[l]?=some (.map mes n)):(getObj l).run P w=.ok (.map mes n) w:=by simp[getObj,Sem.run,h]
theorem run_getIter {P:Program} {l s t:Nat} {m:Option Nat} {seen:Array Nat} (h:w.heap[l]?=some (.mapIter m s seen t)):(getObj l).run P w=.ok (.mapIter m s seen t) w:=by simp[getObj,Sem.run,h]
theorem look_found {P:Program} {ty kt et:TypeId} {x k v:Value} {ok:Bool} {mes:Array MapEntry} {j:Nat} (hx:(x=.map none/\mes=#[])\/∃l n,x=.map (some l)/\w.heap[l]?=some (.map mes n)) (hu:(underlying ty).run P w=.ok (.map kt et) w)
 (hc:(Instr.checkKey mes.isEmpty 10000 kt k).run P w=.ok () w) (hf:(Instr.findKey kt k mes.toList).run P w=.ok (some (j,v)) w):(Instr.lookup ty x k ok).run P w=.ok (packA ok v true) w:=by
 rcases hx with⟨rfl,rfl⟩|⟨l,n,rfl,hh⟩
 · simp only[Instr.lookup,Sem.run_bind,hu,Result.andThen,Sem.run_pure,hc,hf]
   cases ok<;>rfl
 · simp only[Instr.lookup,Sem.run_bind,hu,Result.andThen,Sem.run_pure,run_getMap hh,hc,hf]
   cases ok<;>rfl
theorem look_none {P:Program} {ty kt et:TypeId} {x k z:Value} {ok:Bool} {mes:Array MapEntry} (hx:(x=.map none/\mes=#[])\/∃l n,x=.map (some l)/\w.heap[l]?=some (.map mes n)) (hu:(underlying ty).run P w=.ok (.map kt et) w)
 (hc:(Instr.checkKey mes.isEmpty 10000 kt k).run P w=.ok () w) (hf:(Instr.findKey kt k mes.toList).run P w=.ok none w) (hz:(zeroValue et).run P w=.ok z w):(Instr.lookup ty x k ok).run P w=.ok (packA ok z false) w:=by
 rcases hx with⟨rfl,rfl⟩|⟨l,n,rfl,hh⟩
 · simp only[Instr.lookup,Sem.run_bind,hu,Result.andThen,Sem.run_pure,hc,hf,hz]
   cases ok<;>rfl
 · simp only[Instr.lookup,Sem.run_bind,hu,Result.andThen,Sem.run_pure,run_getMap hh,hc,hf,hz]
   cases ok<;>rfl
theorem lookup_sound (hE:EnvOk E) (h:HR E.ng ρ H w) {ty:TypeId} {ok:Bool} {x x' k k' v':Value} (hx:VR ρ x x') (hk:VR ρ k k') (hl:lookupA E.P E.tt H x' k' ok (mapD (E.tt.und ty))=some v'):
 ∃v,(Instr.lookup ty x k ok).run E.P w=.ok v w/\VR ρ v v':=by
 unfold lookupA at hl
 cases hd:mapD (E.tt.und ty) with
 | none=>rw[hd]at hl;cases hl
 | some d=>
 obtain⟨kt,et⟩:=d
 rw[hd]at hl
 simp only at hl
 cases hm:mapOf H x' with
 | none=>rw[hm]at hl;cases hl
 | some es=>
 rw[hm]at hl
 simp only[lookEs]at hl
 cases hck:(free k' && keyOkA E.P es.isEmpty kt k') with
 | false=>rw[hck]at hl;cases hl
 | true=>
 rw[hck]at hl
 simp only at hl
 simp only[Bool.and_eq_true]at hck
 have hkk:=free_eq hk hck.1
 subst hkk
 have hund:=mapD_eq hE hd w
 obtain⟨mes,hmr,hes⟩:∃mes:Array MapEntry,MR ρ mes.toList 0 es/\((x=.map none/\mes=#[])\/∃l n,x=.map (some l)/\w.heap[l]?=some (.map mes n)):=by
   rcases mapOf_sound h hx hm with⟨rfl,rfl⟩|⟨l,mes,b,rfl,rfl,hp,hb,hh,hmr⟩
   · exact⟨#[],.nil 0,.inl ⟨rfl,rfl⟩⟩
   · exact⟨mes,hmr,.inr ⟨_,_,rfl,hh⟩⟩
 have hemp:mes.isEmpty=es.isEmpty:=by
   have:=hmr.length
   cases mes with
   | mk l=>cases l<;>cases es<;>simp_all
 have hcheck:=keyOkA_sound hck.2 w
 rw[<-hemp]at hcheck
 unfold lookIn at hl
 cases hf:findA E.P kt k es with
 | none=>rw[hf]at hl;cases hl
 | some r=>
   rw[hf]at hl
   obtain⟨_,_,g1,g2⟩:=findA_sound hmr hf
   cases r with
   | none=>
     simp only at hl
     cases hz:zeroA E.tt et with
     | none=>rw[hz]at hl;cases hl
     | some z=>
       rw[hz]at hl
       simp only[Option.some.injEq]at hl
       obtain⟨i,hi,hzi,hzf⟩:=zeroA_inv hE hz
       refine⟨v',by rw[<-hl];exact look_none hes hund hcheck (g1 rfl w) (runZero hi hzi w),?_⟩
       · rw[<-hl]
         have:=VR.of_free ρ z hzf
         cases ok
         · exact this
         · exact .tuple _ _ rfl (LR.cons this (LR.cons (.bool false) (LR.nil ρ))).2
   | some j=>
     simp only at hl
     cases hn:nth es j with
     | none=>rw[hn]at hl;cases hl
     | some kv=>
       rw[hn]at hl
       simp only[Option.some.injEq]at hl
       rw[nth_eq]at hn
       obtain⟨e,e1,e2⟩:=g2 j rfl
       obtain⟨_,hv⟩:=hmr.get j e kv e1 hn
       refine⟨packA ok e.val true,look_found hes hund hcheck (e2 w),?_⟩
       · rw[<-hl]
         cases ok
         · exact hv
         · exact .tuple _ _ rfl (LR.cons hv (LR.cons (.bool true) (LR.nil ρ))).2
theorem mapLen_sound (hE:EnvOk E) (h:HR E.ng ρ H w) {A:Array TypeId} {t ty kt et:TypeId} {x x' v':Value} (hA:A[0]?=some t) (hd:E.tt.und t=some (.map kt et)) (hx:VR ρ x x') (hl:mapLen H x'=some v'):
 (Builtin.len_ A ty #[x]).run E.P w=.ok v' w/\free v'=true:=by
 have hu:=run_underlying (und_eq hE hd) w
 unfold mapLen at hl
 split at hl
 · cases hx;cases hl
   exact⟨by simp[Builtin.len_,hA,hu,Result.andThen,goInt],rfl⟩
 · rename_i b
   split at hl
   · rename_i es hb
     cases hl
     cases hx with
     | mp hp=>
       have:=h.obj b
       rw[hb]at this
       obtain⟨l,mes,h1,h2,h3⟩:=this
       rw[hp]at h1;cases h1
       have hlen:mes.size=es.length:=by have:=h3.length;simpa using this
       exact⟨by simp[Builtin.len_,hA,hu,Result.andThen,goInt,run_getMap h2,hlen],rfl⟩
   · cases hl
 · cases hl
theorem put_obj (h:HR E.ng ρ H w) {b l:Nat} {x:Obj} {o o':AObj} (hb:H.get b=o') (hn:o'≠.none) (hp:ρ b=some ⟨l,0,0,0⟩) (hlt:l<w.heap.size) (hold:∀(x:Array Value) (t:TypeId) (fr:Nat × Nat),w.heap[l]?≠some (.cells x t fr)) (ho:∀w',w'.heap[l]?=some x->ObjAt ρ w' b o):
 HR E.ng ρ (H.set b o) (withObj w l x)/\Ext ρ H w ρ (H.set b o) (withObj w l x):=by
 have halive:H.get b≠.none:=by rw[hb];exact hn
 refine⟨h.setObj halive hp (fun c hc=>by rw[withObj_heap _ _ _ _ hlt,if_neg hc]) (ho _ (by rw[withObj_heap _ _ _ _ hlt,if_pos rfl])),?_⟩
 exact { le:=ρ.le_refl,size:=by rw[withObj_size];exact Nat.le_refl _,keep:=fun c _ hn=>by rw[withObj_heap _ _ _ _ hlt,if_neg (fun e=>hn ⟨b,_,halive,hp,e.symm⟩)],range:=fun c hh=>.inr (Held.set halive hh),
         dom:=fun _ _ hq=>.inl hq,next:=by rw[Heap.next_set];exact Nat.le_refl _,tape:=rfl,os:=rfl,output:=rfl,same:=Shape.of_other (b:=l) (fun c hc=>by rw[withObj_heap _ _ _ _ hlt,if_neg hc]) (fun x t fr e=>absurd e (hold x t fr)) }
theorem new_obj (h:HR E.ng ρ H w) {x:Obj} {o:AObj} (ho:∀(ρ':Rho) (w':World),ρ.le ρ'->ρ' H.next=some ⟨w.heap.size,0,0,0⟩->w'.heap[w.heap.size]?=some x->ObjAt ρ' w' H.next o):
 HR E.ng (ρ.put H.next ⟨w.heap.size,0,0,0⟩) (H.add o) (w.alloc x)/\Ext ρ H w (ρ.put H.next ⟨w.heap.size,0,0,0⟩) (H.add o) (w.alloc x):=
 ext_alloc h x o ⟨w.heap.size,0,0,0⟩ rfl rfl rfl rfl rfl (ho _ _ (Rho.le_put (h.fresh _ (Nat.le_refl _))) (Rho.put_same _ _ _) (alloc_new w _))
theorem makeMap_sound (h:HR E.ng ρ H w) {ty:TypeId}:OpRes E ρ H w (do pure (Next.value (<-Instr.makeMap ty none))) (.map (some H.next)) (H.add (.map [])):=by
 obtain⟨h1,h2⟩:=new_obj h (x:=.map #[] 0) (o:=.map []) (fun ρ' w' _ hp hw=>⟨_,_,hp,hw,.nil 0⟩)
 have hr:(Instr.makeMap ty none).run E.P w=.ok (.map (some w.heap.size)) (w.alloc (.map #[] 0)):=rfl
 exact⟨_,_,_,.inl (run_v hr),.mp (Rho.put_same _ _ _),h1,h2⟩
theorem range_sound (hE:EnvOk E) (h:HR E.ng ρ H w) {ty:TypeId} {x x' v':Value} (hx:VR ρ x x') (hr:rangeA2 H x' (mapD (E.tt.und ty))=.ok v' H'):
 OpRes E ρ H w (do pure (Next.value (<-Instr.range ty x))) v' H':=by
 unfold rangeA2 at hr
 cases hd:mapD (E.tt.und ty) with
 | none=>rw[hd]at hr;cases hr
 | some d=>
   obtain⟨kt,et⟩:=d
   rw[hd]at hr
   have hund:=mapD_eq hE hd w
   simp only at hr
   unfold rangeMap at hr
   split at hr
   · cases hx;cases hr
     obtain⟨h1,h2⟩:=new_obj h (x:=.mapIter none 0 #[] 0) (o:=.iter none 0 [] 0) (fun ρ' w' _ hp hw=>⟨_,_,hp,hw,fun _=>rfl,fun mb hm=>(by cases hm)⟩)
     have hrun:(Instr.range ty (.map none)).run E.P w=.ok (.pointer (some ⟨w.heap.size,0,none⟩)) (w.alloc (.mapIter none 0 #[] 0)):=by
      simp only[Instr.range,Sem.run_bind,hund,Result.andThen];rfl
     exact⟨_,_,_,.inl (run_v hrun),.newPtr _ _ _ _ _,h1,h2⟩
   · rename_i b
     split at hr
     · rename_i es hb
       cases hr
       cases hx with
       | mp hp=>
         have:=h.obj b
         rw[hb]at this
         obtain⟨l,mes,g1,g2,g3⟩:=this
         rw[hp]at g1;cases g1
         rename_i l
         obtain⟨h1,h2⟩:=new_obj h (x:=.mapIter (some l) es.length #[] es.length) (o:=.iter (some b) es.length [] es.length) (fun ρ' w' hle hp' hw=>⟨_,_,hp',hw,fun hm=>(by cases hm),fun mb hm=>by cases hm;exact⟨l,rfl,hle _ _ hp⟩⟩)
         have hrun:(Instr.range ty (.map (some l))).run E.P w=.ok (.pointer (some ⟨w.heap.size,0,none⟩)) (w.alloc (.mapIter (some l) es.length #[] es.length)):=by
          simp only[Instr.range,Sem.run_bind,hund,Result.andThen,run_getMap g2];rfl
         exact⟨_,_,_,.inl (run_v hrun),.newPtr _ _ _ _ _,h1,h2⟩
     · cases hr
   · cases hr
theorem iter_inv (h:HR E.ng ρ H w) {b:Nat} {x:Value} {s:_} {m:Option Nat} {since last:Nat} {seen:List Nat} (hx:VR ρ x (.pointer (some ⟨b,0,s⟩))) (hb:H.get b=.iter m since seen last):
 ∃l m',x=.pointer (some ⟨l,0,none⟩)/\ρ b=some ⟨l,0,0,0⟩/\w.heap[l]?=some (.mapIter m' since seen.toArray last)/\(m=none->m'=none)/\(∀mb,m=some mb->∃c,m'=some c/\ρ mb=some ⟨c,0,0,0⟩):=by
 have:=h.obj b
 rw[hb]at this
 obtain⟨l,m',g1,g2,g0,g3⟩:=this
 cases hx with
 | ptr hp=>
   rw[g1]at hp;cases hp
   exact⟨l,m',rfl,g1,g2,g0,g3⟩
theorem map_inv (h:HR E.ng ρ H w) {b c:Nat} {es:List (Value × Value)} (hp:ρ b=some ⟨c,0,0,0⟩) (hb:H.get b=.map es):∃mes,w.heap[c]?=some (.map mes es.length)/\MR ρ mes.toList 0 es:=by
 have:=h.obj b
 rw[hb]at this
 obtain⟨l,mes,g1,g2,g3⟩:=this
 rw[hp]at g1;cases g1
 exact⟨mes,g2,g3⟩
theorem MR.one_inv {mes:Array MapEntry} {kv:Value × Value} (h:MR ρ mes.toList 0 [kv]):∃e,mes=#[e]/\VR ρ e.key kv.1/\VR ρ e.val kv.2/\e.born=0:=by
 obtain⟨l⟩:=mes
 cases h with
 | cons hk hv hb t=>
   rename_i e es k v
   cases t with
   | nil=>exact⟨_,rfl,hk,hv,hb⟩
theorem MR.zero_inv {mes:Array MapEntry} (h:MR ρ mes.toList 0 []):mes=#[]:=by
 obtain⟨l⟩:=mes
 cases h with
 | nil=>rfl
theorem over_rel:VR ρ (.tuple #[.bool false]) over:=.tuple _ _ rfl (LR.cons (.bool false) (LR.nil ρ)).2
theorem next_sound (h:HR E.ng ρ H w) {ty:TypeId} {x x' v':Value} {str:Bool} (hx:VR ρ x x') (hr:nextA H x' str=.ok v' H'):
 OpRes E ρ H w (do pure (Next.value (<-Instr.next x str ty))) v' H':=by
 unfold nextA at hr
 cases str with
 | true=>cases hr
 | false=>
   simp only at hr
   split at hr
   · rename_i b s
     unfold nextAt at hr
     split at hr
     · rename_i m since seen last hb
       obtain⟨l,m',rfl,hp,hh,hm0,hmm⟩:=iter_inv h hx hb
       have hlt:=(Array.getElem?_eq_some_iff.1 hh).1
       cases m with
       | none=>
         cases hr
         cases hm0 rfl
         have hrun:(Instr.next (.pointer (some ⟨l,0,none⟩)) false ty).run E.P w=.ok (.tuple #[.bool false]) w:=by
          simp only[Instr.next,Sem.run_bind,run_getIter hh,Result.andThen];rfl
         exact OpRes.val h (run_v hrun) over_rel
       | some m=>
         obtain⟨c,rfl,hpc⟩:=hmm m rfl
         simp only[nextIn]at hr
         split at hr
         · rename_i es hm
           obtain⟨mes,hmes,hMR⟩:=map_inv h hpc hm
           unfold nextOne at hr
           split at hr
           · cases hr
             have:=hMR.zero_inv
             subst this
             have hrun:(Instr.next (.pointer (some ⟨l,0,none⟩)) false ty).run E.P w=.ok (.tuple #[.bool false]) w:=by
              have e1:∀(p:MapEntry->Bool),Array.filter p #[] 0 0=#[]:=fun _=>rfl
              simp only[Instr.next,Sem.run_bind,run_getIter hh,run_getMap hmes,Result.andThen]
              simp[choose,Sem.run,Question.forced,e1]
             exact OpRes.val h (run_v hrun) over_rel
           · rename_i kv
             obtain⟨e,rfl,hk,hv,hborn⟩:=hMR.one_inv
             split at hr
             · cases hs:Nat.beq since 1 with
               | false=>rw[hs]at hr;cases hr
               | true=>
                 rw[hs]at hr
                 cases hr
                 have hs1:since=1:=Nat.eq_of_beq_eq_true hs
                 subst hs1
                 have hrun:(Instr.next (.pointer (some ⟨l,0,none⟩)) false ty).run E.P w=.ok (.tuple #[.bool true,e.key,e.val]) (withObj w l (.mapIter (some c) 1 #[0] 1)):=by
                  simp only[Instr.next,Sem.run_bind,run_getIter hh,run_getMap hmes,Result.andThen]
                  simp[choose,Sem.run,Question.forced,hborn,setObj,hh,withObj,Result.andThen]
                 obtain⟨g1,g2⟩:=put_obj h (x:=.mapIter (some c) 1 #[0] 1) (o:=.iter (some m) 1 [0] 1) hb (by simp) hp hlt (fun _ _ _ e=>by rw[hh]at e;cases e) (fun w' hw=>⟨l,some c,hp,hw,fun hm=>(by cases hm),fun mb hm=>by cases hm;exact⟨c,rfl,hpc⟩⟩)
                 exact⟨ρ,_,_,.inl (run_v hrun),.tuple _ _ rfl (LR.cons (.bool true) (LR.cons hk (LR.cons hv (LR.nil ρ)))).2,g1,g2⟩
             · cases hs:Nat.beq last 1 with
               | false=>rw[hs]at hr;cases hr
               | true=>
                 rw[hs]at hr
                 cases hr
                 have hs1:last=1:=Nat.eq_of_beq_eq_true hs
                 subst hs1
                 have hrun:(Instr.next (.pointer (some ⟨l,0,none⟩)) false ty).run E.P w=.ok (.tuple #[.bool false]) w:=by
                  simp only[Instr.next,Sem.run_bind,run_getIter hh,run_getMap hmes,Result.andThen]
                  simp[choose,Sem.run,Question.forced,hborn,Result.andThen]
                 exact OpRes.val h (run_v hrun) over_rel
             · cases hr
           · cases hr
         · cases hr
     · cases hr
   · cases hr
theorem endOf_back:∀ {l:List Nat} {j:Nat},endOf l=some j->∃s,l=s ++ [j]
 | [],_,h=>by cases h
 | [x],j,h=>by cases h;exact⟨[],rfl⟩
 | x :: y :: l,j,h=>by
   obtain⟨s,e⟩:=endOf_back (l:=y :: l) h
   exact⟨x :: s,by rw[e];rfl⟩
theorem MR.find {mes:List MapEntry}:∀ {i:Nat} {es:List (Value × Value)},MR ρ mes i es->∀(j:Nat) kv,es[j]?=some kv->∃e,mes.find? (fun e=>e.born == i+j)=some e/\VR ρ e.key kv.1/\VR ρ e.val kv.2
 | _,_,.nil i,j,kv,h=>by simp at h
 | _,_,.cons (e:=e) hk hv hb tl,0,kv,h=>by
   simp only[List.getElem?_cons_zero,Option.some.injEq]at h
   subst h
   refine⟨e,?_,hk,hv⟩
   rw[List.find?_cons_of_pos]
   simp[hb]
 | i,_,.cons (e:=e) hk hv hb tl,j+1,kv,h=>by
   obtain⟨e',h1,h2⟩:=MR.find tl j kv (by simpa using h)
   refine⟨e',?_,h2⟩
   rw[List.find?_cons_of_neg,<-h1]
   · congr 1;funext x;congr 1;omega
   · simp[hb]
theorem entry_sound (h:HR E.ng ρ H w) {x x' v':Value} (hx:VR ρ x x') (hr:entryA H x'=some v'):∃v,(Instr.entry x).run E.P w=.ok v w/\VR ρ v v':=by
 unfold entryA at hr
 split at hr
 · rename_i b s
   unfold entAt at hr
   split at hr
   · rename_i m since seen last hb
     obtain⟨l,m',rfl,hp,hh,hm0,hmm⟩:=iter_inv h hx hb
     obtain⟨c,rfl,hpc⟩:=hmm m rfl
     unfold entOne at hr
     split at hr
     · rename_i es hm
       obtain⟨mes,hmes,hMR⟩:=map_inv h hpc hm
       cases hs:Nat.beq last es.length with
       | false=>rw[hs]at hr;cases hr
       | true=>
         rw[hs]at hr
         have hs1:last=es.length:=Nat.eq_of_beq_eq_true hs
         subst hs1
         cases hl:endOf seen with
         | none=>rw[hl]at hr;cases hr
         | some j=>
           rw[hl]at hr
           obtain⟨s0,rfl⟩:=endOf_back hl
           simp only[entNth,nth_eq]at hr
           cases hj:es[j]? with
           | none=>rw[hj]at hr;cases hr
           | some kv=>
             rw[hj]at hr
             cases hr
             obtain⟨e,hf,hk,hv⟩:=hMR.find j kv hj
             refine⟨.tuple #[e.key,e.val],?_,.tuple _ _ rfl (LR.cons hk (LR.cons hv (LR.nil ρ))).2⟩
             rw[Nat.zero_add]at hf
             simp only[Instr.entry,Sem.run_bind,run_getIter hh,Result.andThen]
             have hf':mes.find? (fun e=>e.born == j)=some e:=by rw[<-Array.find?_toList];exact hf
             simp[run_getMap hmes,Result.andThen,hf']
     · cases hr
   · cases hr
 · cases hr
theorem MR.push {k v k' v':Value} (hk:VR ρ k k') (hv:VR ρ v v'):∀ {mes:List MapEntry} {i:Nat} {es:List (Value × Value)} (n:Nat),MR ρ mes i es->n=i+es.length->MR ρ (mes ++ [{ key:=k,val:=v,born:=n }]) i (es ++ [(k',v')])
 | _,_,_,n,.nil i,hn=>.cons hk hv (by simpa using hn) (.nil _)
 | _,_,_,n,.cons a b c t,hn=>.cons a b c (t.push hk hv n (by simp at hn;omega))
theorem MR.put {k v k' v':Value} (hk:VR ρ k k') (hv:VR ρ v v'):∀ {mes:List MapEntry} {i:Nat} {es:List (Value × Value)} (j:Nat),MR ρ mes i es->MR ρ (mes.modify j fun e=>{ e with key:=k,val:=v }) i (es.set j (k',v'))
 | _,_,_,j,.nil i=>by cases j<;>exact .nil i
 | _,_,_,j,.cons a b c t=>by
   cases j with
   | zero=>exact .cons hk hv c t
   | succ j=>exact .cons a b c (t.put hk hv j)
theorem update_sound (hE:EnvOk E) (h:HR E.ng ρ H w) {ty:TypeId} {x x' k k' v v' u:Value} (hx:VR ρ x x') (hk:VR ρ k k') (hv:VR ρ v v') (hr:updateA E.P H x' k' v' (mapD (E.tt.und ty))=.ok u H'):
 ∃w',(Instr.mapUpdate ty x k v).run E.P w=.ok () w'/\u=Undef/\HR E.ng ρ H' w'/\Ext ρ H w ρ H' w':=by
 unfold updateA at hr
 cases hd:mapD (E.tt.und ty) with
 | none=>rw[hd]at hr;cases hr
 | some d=>
   obtain⟨kt,et⟩:=d
   rw[hd]at hr
   have hund:=mapD_eq hE hd w
   simp only at hr
   split at hr
   · rename_i b
     unfold putEs at hr
     split at hr
     · rename_i es hb
       cases hck:(free k' && keyOkA E.P false kt k') with
       | false=>rw[hck]at hr;cases hr
       | true=>
         rw[hck]at hr
         simp only[Bool.and_eq_true]at hck hr
         have hkk:=free_eq hk hck.1
         subst hkk
         have hcheck:=keyOkA_sound hck.2 w
         cases hx with
         | mp hp=>
           rename_i l
           obtain⟨mes,hmes,hMR⟩:=map_inv h hp hb
           have hlt:=(Array.getElem?_eq_some_iff.1 hmes).1
           cases hf:findA E.P kt k es with
           | none=>rw[hf]at hr;cases hr
           | some r=>
             rw[hf]at hr
             obtain⟨_,hkf,g1,g2⟩:=findA_sound hMR hf
             cases r with
             | none=>
               cases hr
               obtain⟨p1,p2⟩:=put_obj h (x:=.map (mes.push { key:=k,val:=v,born:=es.length }) (es.length+1)) (o:=.map (es ++ [(k,v')])) hb (by simp) hp hlt (fun _ _ _ e=>by rw[hmes]at e;cases e) (fun w' hw=>⟨l,mes.push { key:=k,val:=v,born:=es.length },hp,by rw[hw];simp,by
                simp only[Array.toList_push]
                exact hMR.push hk hv _ (by simp)⟩)
               refine⟨_,?_,rfl,p1,p2⟩
               simp only[Instr.mapUpdate,Sem.run_bind,hund,Result.andThen,run_getMap hmes,hcheck,g1 rfl w]
               simp[setObj,Sem.run,hmes,withObj]
             | some j=>
               simp only[putIn]at hr
               cases hn:nth es j with
               | none=>rw[hn]at hr;cases hr
               | some kv=>
                 rw[hn]at hr
                 simp only at hr
                 cases hsb:Instr.sameBits 10000 kv.1 k with
                 | false=>rw[hsb]at hr;cases hr
                 | true=>
                   rw[hsb]at hr
                   cases hr
                   rw[nth_eq]at hn
                   obtain⟨e,e1,e2⟩:=g2 j rfl
                   have hek:e.key=kv.1:=by
                    have h1:=(hMR.get j e kv e1 hn).1
                    have h2:∀(l:List (Value × Value)) (j:Nat) (kv:Value × Value),keysFree l=true->l[j]?=some kv->free kv.1=true:=by
                     intro l
                     induction l with
                     | nil=>intro j kv _ h;simp at h
                     | cons y l ih=>
                       intro j kv hf h
                       simp only[keysFree,Bool.and_eq_true]at hf
                       cases j with
                       | zero=>simp at h;subst h;exact hf.1
                       | succ j=>exact ih j kv hf.2 (by simpa using h)
                    exact free_eq h1 (h2 es j kv hkf hn)
                   obtain⟨p1,p2⟩:=put_obj h (x:=.map (mes.modify j fun e=>{ e with key:=k,val:=v }) es.length) (o:=.map (es.set j (k,v'))) hb (by simp) hp hlt (fun _ _ _ e=>by rw[hmes]at e;cases e) (fun w' hw=>⟨l,mes.modify j fun e=>{ e with key:=k,val:=v },hp,by rw[hw];simp,by
                    simp only[Array.toList_modify]
                    exact hMR.put hk hv j⟩)
                   refine⟨_,?_,rfl,p1,p2⟩
                   have e1':mes[j]?=some e:=by simpa using e1
                   simp only[Instr.mapUpdate,Sem.run_bind,hund,Result.andThen,run_getMap hmes,hcheck,e2 w,e1',Option.map_some,Option.getD_some,hek,Instr.keyThatStays,hsb,if_true,Sem.run_pure]
                   simp[setObj,Sem.run,hmes,withObj]
     · cases hr
   · cases hr
end Ex
namespace Ex
open Go
variable {E:Env} {ρ ρ':Rho} {H H':Heap} {w w':World} {ex:Ex}
theorem evs_rel {ev:Operand->Value} {t:Tr Value}:∀ {l:List Operand},(∀x ∈ l,VR ρ (ev x) (evA t x))->LR ρ (l.map ev) (evs t l)
 | [],_=>LR.nil ρ
 | x :: l,h=>LR.cons (h x (by simp)) (evs_rel (fun y hy=>h y (by simp[hy])))
theorem evParts_rel {ev:Operand->Value} {t:Tr Value}:∀ {l:List (Nat × Operand)},(∀x ∈ l.map (·.2),VR ρ (ev x) (evA t x))->PR ρ (l.map fun(i,x)=>(i,ev x)) (evParts t l)
 | [],_=>.nil
 | (i,x) :: l,h=>.cons (h x (by simp)) (evParts_rel (fun y hy=>h y (by simp at hy ⊢;exact .inr hy)))
theorem evO_rel {ev:Operand->Value} {t:Tr Value} {x:Option Operand} (h:∀y,x=some y->VR ρ (ev y) (evA t y)):OR ρ (x.map ev) (evO t x):=by
 cases x with
 | none=>exact .none
 | some y=>exact .some (h y rfl)
theorem len_sound (hE:EnvOk E) {A:Array TypeId} {t ty:TypeId} {x x' v':Value} (hA:A[0]?=some t) (hx:VR ρ x x') (hl:lenV (E.tt.und t) x'=some v') (w:World):(Builtin.len_ A ty #[x]).run E.P w=.ok v' w/\free v'=true:=by
 cases x' with
 | slice a n c=>
   have hl:(match E.tt.und t with|some (.slice _)=>some (Value.int .i64 (.ofNat n))|_=>none)=some v':=hl
   split at hl
   · rename_i e hd
     cases hl
     have hu:=und_eq hE hd
     obtain⟨a0,c0,rfl⟩:∃a0 c0,x=.slice a0 n c0:=by cases hx<;>exact⟨_,_,rfl⟩
     exact⟨by simp[Builtin.len_,hA,run_underlying hu,Result.andThen,goInt],rfl⟩
   · cases hl
 | string bs=>
   obtain⟨⟨l⟩⟩:=bs
   have hl:(match E.tt.und t with|some .string=>some (Value.int .i64 (.ofNat l.length))|_=>none)=some v':=hl
   split at hl
   · rename_i hd
     cases hl
     have hu:=und_eq hE hd
     rw[hx.string_inv]
     exact⟨by simp[Builtin.len_,hA,run_underlying hu,Result.andThen,goInt];rfl,rfl⟩
   · cases hl
 | _=>cases hl
theorem cap_sound (hE:EnvOk E) (h:HR E.ng ρ H w) {A:Array TypeId} {t ty:TypeId} {e:TypeId × Nat} {x x' v':Value} (hA:A[0]?=some t) (he:elemA E.tt t=some e) (hx:VR ρ x x') (hl:capV H x'=some v'):
 (Builtin.cap_ A ty #[x]).run E.P w=.ok v' w/\free v'=true:=by
 obtain⟨hu,_⟩:=elemA_inv hE he
 have hrun:∀a n c,(Builtin.cap_ A ty #[.slice a n c]).run E.P w=.ok (.int .i64 (c:Int)) w:=fun a n c=>by
  simp[Builtin.cap_,hA,run_underlying hu,Result.andThen,goInt]
 cases x' with
 | slice a n c=>
   cases a with
   | none=>
     have hl:some (Value.int .i64 (.ofNat c))=some v':=hl
     cases hl;cases hx
     exact⟨hrun _ _ _,rfl⟩
   | some a=>
     obtain⟨b,o,s⟩:=a
     have hl:(match H.get b with | .cells _ 0=>some (Value.int .i64 (.ofNat c))|_=>none)=some v':=hl
     split at hl
     · rename_i cs hb
       cases hl
       obtain⟨p,hp,⟨c0,rfl,hc,h0,hk⟩|⟨a,c0,rfl,rfl,rfl,hk⟩⟩:=slice_inv hx
       · have:=(h.cells hp hb).1
         rw[h0 this]
         exact⟨hrun _ _ _,rfl⟩
       · exact absurd (h.cells hp hb).1 hk
     · cases hl
 | _=>cases hl
theorem head_of {A:Array TypeId} {t:TypeId} {l:List TypeId} (h:A.toList=t :: l):A[0]?=some t:=by
 obtain⟨a⟩:=A
 simp only at h
 subst h;rfl
theorem freeL_evs {t:Tr Value}:∀ {l:List Operand},freeL (evs t l)=true->∀ {x},x ∈ l->free (evA t x)=true
 | [],_,_,hx=>by cases hx
 | y :: l,h,x,hx=>by
   simp only[evs,freeL,Bool.and_eq_true]at h
   rcases List.mem_cons.1 hx with rfl|hx
   · exact h.1
   · exact freeL_evs h.2 hx
theorem box_sound (h:HR E.ng ρ H w) {v v' u:Value} (t:TypeId) (hv:VR ρ v v') (hn:Ex.newVar H (cellsV v')=.ok u H'):OpRes E ρ H w (do pure (Next.value (<-Instr.box t v))) u H':=by
 cases hn
 obtain⟨h1,h2⟩:=new_exact h t (cells_rel hv)
 have hr:(Instr.box t v).run E.P w=.ok (.pointer (some ⟨w.heap.size,0,none⟩)) (w.alloc (.cells ⟨v.cells.toList⟩ t)):=rfl
 exact⟨_,_,_,.inl (run_v hr),.newPtr _ _ _ _ _,h1,h2⟩
theorem pureOp_go (h:HR E.ng ρ H w) {ev:Operand->Value} {t:Tr Value} {o:Oper} {v':Value} (hev:∀x ∈ o.op.operands,VR ρ (ev x) (evA t x)) (l:List Operand) (fl:Bool) (hs:∀cs b,o.op≠.select cs b) (hl:∀x ∈ o.op.operands,x ∈ l)
 (hfl:fl=true->∀x ∈ l,free (evA t x)=true) (hv:oval H (pureOp E.P t o fl)=.ok v' H'):OpRes E ρ H w (execOp ev o) v' H':=by
 obtain⟨hv2,rfl⟩:=oval_inv hv
 unfold pureOp at hv2
 cases fl with
 | false=>cases hv2
 | true=>exact pureOp_sound h hs (fun x hx=>free_operands (hev x hx) (hfl rfl x (hl x hx))) hv2
theorem nilCk_form {x x' v':Value} (hx:VR ρ x x') (h:nilCk x'=some v'):(∃a,x=.pointer (some a))\/(∃f a b,x=.func (.func f) a b)\/(∃l a b,x=.func (.yield l) a b):=by
 unfold nilCk at h
 split at h
 · cases hx;exact .inl ⟨_,rfl⟩
 · cases hx with
   | func x x' y y' hf=>cases hf;exact .inr (.inl ⟨_,_,_,rfl⟩)
 · cases hx with
   | func x x' y y' hf=>cases hf;exact .inr (.inr ⟨_,_,_,rfl⟩)
 · cases h
theorem App.congr {P:Program} {fr:Frame} {cs:List Frame} {s s':Sem Next} {v:Value} (h:s.run P w=s'.run P w) (ha:App P fr cs s' w v w'):App P fr cs s w v w':=by
 obtain⟨fr1,cs1,w1,h1,h2⟩:=ha
 refine⟨fr1,cs1,w1,?_,h2⟩
 rw[<-h1]
 simp only[stepG.apply,Sem.runT_eq,GStep.bare_after,if_true,h]
theorem go_move (hG:EnvGood E) (hex:SoundEx E ex) (h:HR E.ng ρ H w) {ev:Operand->Value} {t:Tr Value} {dst:Option Tmp} {type:TypeId} {pos:String} {after:Array Edge} {guard:Option (Nat × Bool)} {x:Operand} {v':Value} (hev:∀z ∈ (Op.operands (.move x)),VR ρ (ev z) (evA t z)) {fr:Frame} {cs:List Frame} (hp:Plain fr)
 (hc:opA E ex H t ⟨dst,.move x,type,pos,after,guard⟩=.ok v' H'):OpGo E ρ H w fr cs (execOp ev ⟨dst,.move x,type,pos,after,guard⟩) v' H':=by
 have hE:=hG.toEnvOk
 simp only[Op.operands]at hev
 have hc:Out.ok (evA t x) H=.ok v' H':=hc
 cases hc;exact(OpRes.val h rfl (hev x (by simp))).go fr cs
theorem go_assign (hG:EnvGood E) (hex:SoundEx E ex) (h:HR E.ng ρ H w) {ev:Operand->Value} {t:Tr Value} {dst:Option Tmp} {type:TypeId} {pos:String} {after:Array Edge} {guard:Option (Nat × Bool)} {x:Operand} {v':Value} (hev:∀z ∈ (Op.operands (.assign x)),VR ρ (ev z) (evA t z)) {fr:Frame} {cs:List Frame} (hp:Plain fr)
 (hc:opA E ex H t ⟨dst,.assign x,type,pos,after,guard⟩=.ok v' H'):OpGo E ρ H w fr cs (execOp ev ⟨dst,.assign x,type,pos,after,guard⟩) v' H':=by
 have hE:=hG.toEnvOk
 simp only[Op.operands]at hev
 have hc:Out.ok (evA t x) H=.ok v' H':=hc
 cases hc;exact(OpRes.val h rfl (hev x (by simp))).go fr cs
theorem go_pick (hG:EnvGood E) (hex:SoundEx E ex) (h:HR E.ng ρ H w) {ev:Operand->Value} {t:Tr Value} {dst:Option Tmp} {type:TypeId} {pos:String} {after:Array Edge} {guard:Option (Nat × Bool)} {c a b:Operand} {v':Value} (hev:∀z ∈ (Op.operands (.pick c a b)),VR ρ (ev z) (evA t z)) {fr:Frame} {cs:List Frame} (hp:Plain fr)
 (hc:opA E ex H t ⟨dst,.pick c a b,type,pos,after,guard⟩=.ok v' H'):OpGo E ρ H w fr cs (execOp ev ⟨dst,.pick c a b,type,pos,after,guard⟩) v' H':=by
 have hE:=hG.toEnvOk
 simp only[Op.operands]at hev
 obtain⟨h1,rfl⟩:=oval_inv (show oval H (asBoolA (evA t c) (evA t a) (evA t b))=.ok v' H' from hc)
 exact(pick_sound h (hev c (by simp)) (hev a (by simp)) (hev b (by simp)) h1).go fr cs
theorem go_alloc (hG:EnvGood E) (hex:SoundEx E ex) (h:HR E.ng ρ H w) {ev:Operand->Value} {t:Tr Value} {dst:Option Tmp} {type:TypeId} {pos:String} {after:Array Edge} {guard:Option (Nat × Bool)} {ty:TypeId} {v':Value} (hev:∀z ∈ (Op.operands (.alloc ty)),VR ρ (ev z) (evA t z)) {fr:Frame} {cs:List Frame} (hp:Plain fr)
 (hc:opA E ex H t ⟨dst,.alloc ty,type,pos,after,guard⟩=.ok v' H'):OpGo E ρ H w fr cs (execOp ev ⟨dst,.alloc ty,type,pos,after,guard⟩) v' H':=by
 have hE:=hG.toEnvOk
 simp only[Op.operands]at hev
 have hc:(match zeroA E.tt ty with|some z=>Ex.newVar H (cellsV z)|none=>.bad)=.ok v' H':=hc
 cases hz:zeroA E.tt ty with
 | none=>rw[hz]at hc;cases hc
 | some z=>rw[hz]at hc;exact(alloc_sound hE h hz hc).go fr cs
theorem go_box (hG:EnvGood E) (hex:SoundEx E ex) (h:HR E.ng ρ H w) {ev:Operand->Value} {t:Tr Value} {dst:Option Tmp} {type:TypeId} {pos:String} {after:Array Edge} {guard:Option (Nat × Bool)} {ty:TypeId} {x:Operand} {v':Value} (hev:∀z ∈ (Op.operands (.box ty x)),VR ρ (ev z) (evA t z)) {fr:Frame} {cs:List Frame} (hp:Plain fr)
 (hc:opA E ex H t ⟨dst,.box ty x,type,pos,after,guard⟩=.ok v' H'):OpGo E ρ H w fr cs (execOp ev ⟨dst,.box ty x,type,pos,after,guard⟩) v' H':=by
 have hE:=hG.toEnvOk
 simp only[Op.operands]at hev
 exact(box_sound h ty (hev x (by simp)) (show Ex.newVar H (cellsV (evA t x))=.ok v' H' from hc)).go fr cs
theorem go_build (hG:EnvGood E) (hex:SoundEx E ex) (h:HR E.ng ρ H w) {ev:Operand->Value} {t:Tr Value} {dst:Option Tmp} {type:TypeId} {pos:String} {after:Array Edge} {guard:Option (Nat × Bool)} {ty:TypeId} {ps:Array (Nat × Operand)} {v':Value} (hev:∀z ∈ (Op.operands (.build ty ps)),VR ρ (ev z) (evA t z)) {fr:Frame} {cs:List Frame} (hp:Plain fr)
 (hc:opA E ex H t ⟨dst,.build ty ps,type,pos,after,guard⟩=.ok v' H'):OpGo E ρ H w fr cs (execOp ev ⟨dst,.build ty ps,type,pos,after,guard⟩) v' H':=by
 have hE:=hG.toEnvOk
 simp only[Op.operands]at hev
 obtain⟨h1,rfl⟩:=oval_inv (show oval H (buildA E.tt ty (evParts t ps.toList))=.ok v' H' from hc)
 obtain⟨v,g1,g2⟩:=build_sound hE (parts:=ps.map fun(i,x)=>(i,ev x)) (by rw[Array.toList_map];exact evParts_rel (fun x hx=>hev x (by simpa using hx))) h1 w
 exact(OpRes.ofSem h rfl g1 g2).go fr cs
theorem go_buildSlice (hG:EnvGood E) (hex:SoundEx E ex) (h:HR E.ng ρ H w) {ev:Operand->Value} {t:Tr Value} {dst:Option Tmp} {type:TypeId} {pos:String} {after:Array Edge} {guard:Option (Nat × Bool)} {ty:TypeId} {len:Nat} {ps:Array (Nat × Operand)} {v':Value} (hev:∀z ∈ (Op.operands (.buildSlice ty len ps)),VR ρ (ev z) (evA t z)) {fr:Frame} {cs:List Frame} (hp:Plain fr)
 (hc:opA E ex H t ⟨dst,.buildSlice ty len ps,type,pos,after,guard⟩=.ok v' H'):OpGo E ρ H w fr cs (execOp ev ⟨dst,.buildSlice ty len ps,type,pos,after,guard⟩) v' H':=by
 have hE:=hG.toEnvOk
 simp only[Op.operands]at hev
 have hc:bslA E.tt H len (evParts t ps.toList) (elemA E.tt ty)=.ok v' H':=hc
 have hpr:PR ρ (ps.map fun(i,x)=>(i,ev x)).toList (evParts t ps.toList):=by rw[Array.toList_map];exact evParts_rel (fun x hx=>hev x (by simpa using hx))
 have hx:execOp ev ⟨dst,.buildSlice ty len ps,type,pos,after,guard⟩=(do pure (Next.value (<-Instr.buildSlice ty len (ps.map fun(i,x)=>(i,ev x))))):=by simp only[execOp]
 rw[hx]
 have hb:=buildSlice_sound hE h hpr hc
 exact hb.go fr cs
theorem go_load (hG:EnvGood E) (hex:SoundEx E ex) (h:HR E.ng ρ H w) {ev:Operand->Value} {t:Tr Value} {dst:Option Tmp} {type:TypeId} {pos:String} {after:Array Edge} {guard:Option (Nat × Bool)} {ty:TypeId} {a:Operand} {v':Value} (hev:∀z ∈ (Op.operands (.load ty a)),VR ρ (ev z) (evA t z)) {fr:Frame} {cs:List Frame} (hp:Plain fr)
 (hc:opA E ex H t ⟨dst,.load ty a,type,pos,after,guard⟩=.ok v' H'):OpGo E ρ H w fr cs (execOp ev ⟨dst,.load ty a,type,pos,after,guard⟩) v' H':=by
 have hE:=hG.toEnvOk
 simp only[Op.operands]at hev
 obtain⟨h1,rfl⟩:=oval_inv (show oval H (loadV E.tt H ty (evA t a))=.ok v' H' from hc)
 have ha:=hev a (by simp)
 unfold loadV at h1
 split at h1
 · rename_i x hx
   obtain⟨b,o,s⟩:=x
   rw[hx]at ha
   obtain⟨p,hp2,hpe⟩:=ptr_inv ha
   obtain⟨v,g1,g2⟩:=load_sound hE h hp2 (show load1 _ b o (shapeA E.tt ty)=some v' from h1)
   refine(OpRes.ofSem h (sv:=Instr.loadAt ty (ev a)) rfl ?_ g2).go fr cs
   rw[hpe]
   simp only[Instr.loadAt,Instr.sureAddr,Sem.run_bind,Sem.run_pure,Result.andThen]
   exact g1
 · cases h1
theorem go_store (hG:EnvGood E) (hex:SoundEx E ex) (h:HR E.ng ρ H w) {ev:Operand->Value} {t:Tr Value} {dst:Option Tmp} {type:TypeId} {pos:String} {after:Array Edge} {guard:Option (Nat × Bool)} {ty:TypeId} {a x:Operand} {v':Value} (hev:∀z ∈ (Op.operands (.store ty a x)),VR ρ (ev z) (evA t z)) {fr:Frame} {cs:List Frame} (hp:Plain fr)
 (hc:opA E ex H t ⟨dst,.store ty a x,type,pos,after,guard⟩=.ok v' H'):OpGo E ρ H w fr cs (execOp ev ⟨dst,.store ty a x,type,pos,after,guard⟩) v' H':=by
 have hE:=hG.toEnvOk
 simp only[Op.operands]at hev
 have hc:ounit (storeV E.tt H ty (evA t a) (evA t x))=.ok v' H':=hc
 cases hs:storeV E.tt H ty (evA t a) (evA t x) with
 | none=>rw[hs]at hc;cases hc
 | some H1=>
   rw[hs]at hc
   cases hc
   obtain⟨w',g1,g2,g3⟩:=store_sound hE h (hev a (by simp)) (hev x (by simp)) hs
   exact⟨ρ,undef,w',.skip (run_u g1),.undef,g2,g3⟩
theorem go_nilCheck (hG:EnvGood E) (hex:SoundEx E ex) (h:HR E.ng ρ H w) {ev:Operand->Value} {t:Tr Value} {dst:Option Tmp} {type:TypeId} {pos:String} {after:Array Edge} {guard:Option (Nat × Bool)} {x:Operand} {v':Value} (hev:∀z ∈ (Op.operands (.nilCheck x)),VR ρ (ev z) (evA t z)) {fr:Frame} {cs:List Frame} (hp:Plain fr)
 (hc:opA E ex H t ⟨dst,.nilCheck x,type,pos,after,guard⟩=.ok v' H'):OpGo E ρ H w fr cs (execOp ev ⟨dst,.nilCheck x,type,pos,after,guard⟩) v' H':=by
 have hE:=hG.toEnvOk
 simp only[Op.operands]at hev
 obtain⟨h1,rfl⟩:=oval_inv (show oval H (nilCk (evA t x))=.ok v' H' from hc)
 have hx:=hev x (by simp)
 have he:=nilCk_inv h1
 rw[he]
 refine(OpRes.val h ?_ hx).go fr cs
 rcases nilCk_form hx h1 with⟨a,e⟩|⟨f,a,b,e⟩|⟨l,a,b,e⟩<;>simp[execOp,e]
theorem go_binOp (hG:EnvGood E) (hex:SoundEx E ex) (h:HR E.ng ρ H w) {ev:Operand->Value} {t:Tr Value} {dst:Option Tmp} {type:TypeId} {pos:String} {after:Array Edge} {guard:Option (Nat × Bool)} {op:BinOp} {ty ty':TypeId} {x y:Operand} {v':Value} (hev:∀z ∈ (Op.operands (.binOp op ty x y ty')),VR ρ (ev z) (evA t z)) {fr:Frame} {cs:List Frame} (hp:Plain fr)
 (hc:opA E ex H t ⟨dst,.binOp op ty x y ty',type,pos,after,guard⟩=.ok v' H'):OpGo E ρ H w fr cs (execOp ev ⟨dst,.binOp op ty x y ty',type,pos,after,guard⟩) v' H':=by
 have hE:=hG.toEnvOk
 simp only[Op.operands]at hev
 obtain⟨h1,rfl⟩:=oval_inv (show oval H (binA E.P t ⟨dst,.binOp op ty x y ty',type,pos,after,guard⟩ op (E.tt.und ty) (evA t x) (evA t y))=.ok v' H' from hc)
 exact(bin_sound hE h rfl (hev x (by simp)) (hev y (by simp)) h1).go fr cs
theorem go_unOp (hG:EnvGood E) (hex:SoundEx E ex) (h:HR E.ng ρ H w) {ev:Operand->Value} {t:Tr Value} {dst:Option Tmp} {type:TypeId} {pos:String} {after:Array Edge} {guard:Option (Nat × Bool)} {op:UnOp} {ty:TypeId} {x:Operand} {v':Value} (hev:∀z ∈ (Op.operands (.unOp op ty x)),VR ρ (ev z) (evA t z)) {fr:Frame} {cs:List Frame} (hp:Plain fr)
 (hc:opA E ex H t ⟨dst,.unOp op ty x,type,pos,after,guard⟩=.ok v' H'):OpGo E ρ H w fr cs (execOp ev ⟨dst,.unOp op ty x,type,pos,after,guard⟩) v' H':=by
 have hE:=hG.toEnvOk
 have hev0:=hev
 simp only[Op.operands]at hev
 refine(pureOp_go h hev0 [x] (free (evA t x)) (by simp) (by simp[Op.operands]) (fun hf y hy=>?_) hc).go fr cs
 simp at hy;subst hy;exact hf
theorem go_convert (hG:EnvGood E) (hex:SoundEx E ex) (h:HR E.ng ρ H w) {ev:Operand->Value} {t:Tr Value} {dst:Option Tmp} {type:TypeId} {pos:String} {after:Array Edge} {guard:Option (Nat × Bool)} {s d:TypeId} {x:Operand} {v':Value} (hev:∀z ∈ (Op.operands (.convert s d x)),VR ρ (ev z) (evA t z)) {fr:Frame} {cs:List Frame} (hp:Plain fr)
 (hc:opA E ex H t ⟨dst,.convert s d x,type,pos,after,guard⟩=.ok v' H'):OpGo E ρ H w fr cs (execOp ev ⟨dst,.convert s d x,type,pos,after,guard⟩) v' H':=by
 have hE:=hG.toEnvOk
 simp only[Op.operands]at hev
 exact(conv_sound hE h rfl (hev x (by simp)) (show convA E H t _ s d (evA t x)=.ok v' H' from hc)).go fr cs
theorem go_makeInterface (hG:EnvGood E) (hex:SoundEx E ex) (h:HR E.ng ρ H w) {ev:Operand->Value} {t:Tr Value} {dst:Option Tmp} {type:TypeId} {pos:String} {after:Array Edge} {guard:Option (Nat × Bool)} {ty:TypeId} {x:Operand} {v':Value} (hev:∀z ∈ (Op.operands (.makeInterface ty x)),VR ρ (ev z) (evA t z)) {fr:Frame} {cs:List Frame} (hp:Plain fr)
 (hc:opA E ex H t ⟨dst,.makeInterface ty x,type,pos,after,guard⟩=.ok v' H'):OpGo E ρ H w fr cs (execOp ev ⟨dst,.makeInterface ty x,type,pos,after,guard⟩) v' H':=by
 have hE:=hG.toEnvOk
 simp only[Op.operands]at hev
 obtain⟨h1,rfl⟩:=oval_inv (show oval H (ifaceA E.tt ty (evA t x))=.ok v' H' from hc)
 unfold ifaceA at h1
 cases hd:E.tt.und ty with
 | none=>rw[hd]at h1;cases h1
 | some d=>
   rw[hd]at h1
   have hu:=und_eq hE hd
   have hv:v'=.iface ty (evA t x)/\∀m,d≠.interface m:=by
    split at h1
    · cases h1
    · rename_i d' _ hne heq;cases heq;cases h1;exact⟨rfl,fun m e=>hne m (by rw[e])⟩
    · cases h1
   obtain⟨rfl,hne⟩:=hv
   refine(OpRes.ofSem h (sv:=Instr.makeInterface ty (ev x)) rfl ?_ (.iface ty (hev x (by simp)))).go fr cs
   cases d<;>first
    | exact absurd rfl (hne _)
    | simp[Instr.makeInterface,run_underlying hu,Result.andThen]
theorem go_makeFunc (hG:EnvGood E) (hex:SoundEx E ex) (h:HR E.ng ρ H w) {ev:Operand->Value} {t:Tr Value} {dst:Option Tmp} {type:TypeId} {pos:String} {after:Array Edge} {guard:Option (Nat × Bool)} {fn:Fn} {a b:Array Operand} {v':Value} (hev:∀z ∈ (Op.operands (.makeFunc fn a b)),VR ρ (ev z) (evA t z)) {fr:Frame} {cs:List Frame} (hp:Plain fr)
 (hc:opA E ex H t ⟨dst,.makeFunc fn a b,type,pos,after,guard⟩=.ok v' H'):OpGo E ρ H w fr cs (execOp ev ⟨dst,.makeFunc fn a b,type,pos,after,guard⟩) v' H':=by
 have hE:=hG.toEnvOk
 simp only[Op.operands]at hev
 obtain⟨h1,rfl⟩:=oval_inv (show oval H (fnA fn (evs t a.toList) (evs t b.toList))=.ok v' H' from hc)
 unfold fnA at h1
 split at h1
 · rename_i f
   cases h1
   have ha:=evs_rel (l:=a.toList) (fun x hx=>hev x (by simp at hx ⊢;exact .inl hx))
   have hb:=evs_rel (l:=b.toList) (fun x hx=>hev x (by simp at hx ⊢;exact .inr hx))
   refine(OpRes.ofSem h (v:=.func (.func f) ⟨a.toList.map ev⟩ ⟨b.toList.map ev⟩) (sv:=Instr.makeFunc (.func f) (a.map ev) (b.map ev)) rfl ?_ (.func _ _ _ _ (.func f) ha.1 ha.2 hb.1 hb.2)).go fr cs
   have e1:a.map ev=⟨a.toList.map ev⟩:=by apply Array.ext';simp
   have e2:b.map ev=⟨b.toList.map ev⟩:=by apply Array.ext';simp
   rw[e1,e2];rfl
 · cases h1
theorem go_makeSlice (hG:EnvGood E) (hex:SoundEx E ex) (h:HR E.ng ρ H w) {ev:Operand->Value} {t:Tr Value} {dst:Option Tmp} {type:TypeId} {pos:String} {after:Array Edge} {guard:Option (Nat × Bool)} {ty:TypeId} {l c:Operand} {v':Value} (hev:∀z ∈ (Op.operands (.makeSlice ty l c)),VR ρ (ev z) (evA t z)) {fr:Frame} {cs:List Frame} (hp:Plain fr)
 (hc:opA E ex H t ⟨dst,.makeSlice ty l c,type,pos,after,guard⟩=.ok v' H'):OpGo E ρ H w fr cs (execOp ev ⟨dst,.makeSlice ty l c,type,pos,after,guard⟩) v' H':=by
 have hE:=hG.toEnvOk
 simp only[Op.operands]at hev
 exact(makeSlice_sound hE h (hev l (by simp)) (hev c (by simp)) (show mkSlA E.tt H ty (natOf (evA t l)) (natOf (evA t c))=.ok v' H' from hc)).go fr cs
theorem go_slice (hG:EnvGood E) (hex:SoundEx E ex) (h:HR E.ng ρ H w) {ev:Operand->Value} {t:Tr Value} {dst:Option Tmp} {type:TypeId} {pos:String} {after:Array Edge} {guard:Option (Nat × Bool)} {ty:TypeId} {x:Operand} {lo hi mx:Option Operand} {v':Value} (hev:∀z ∈ (Op.operands (.slice ty x lo hi mx)),VR ρ (ev z) (evA t z)) {fr:Frame} {cs:List Frame} (hp:Plain fr)
 (hc:opA E ex H t ⟨dst,.slice ty x lo hi mx,type,pos,after,guard⟩=.ok v' H'):OpGo E ρ H w fr cs (execOp ev ⟨dst,.slice ty x lo hi mx,type,pos,after,guard⟩) v' H':=by
 have hE:=hG.toEnvOk
 simp only[Op.operands]at hev
 obtain⟨h1,rfl⟩:=oval_inv (show oval H (sliceA E.tt H ty (evA t x) (evO t lo) (evO t hi) (evO t mx))=.ok v' H' from hc)
 obtain⟨v,g1,g2⟩:=slice_sound hE h (hev x (by simp)) (evO_rel (fun y hy=>hev y (by subst hy;simp))) (evO_rel (fun y hy=>hev y (by subst hy;simp))) (evO_rel (fun y hy=>hev y (by subst hy;simp))) h1
 exact(OpRes.ofSem h rfl g1 g2).go fr cs
theorem go_fieldAddr (hG:EnvGood E) (hex:SoundEx E ex) (h:HR E.ng ρ H w) {ev:Operand->Value} {t:Tr Value} {dst:Option Tmp} {type:TypeId} {pos:String} {after:Array Edge} {guard:Option (Nat × Bool)} {ty:TypeId} {x:Operand} {i:Nat} {v':Value} (hev:∀z ∈ (Op.operands (.fieldAddr ty x i)),VR ρ (ev z) (evA t z)) {fr:Frame} {cs:List Frame} (hp:Plain fr)
 (hc:opA E ex H t ⟨dst,.fieldAddr ty x i,type,pos,after,guard⟩=.ok v' H'):OpGo E ρ H w fr cs (execOp ev ⟨dst,.fieldAddr ty x i,type,pos,after,guard⟩) v' H':=by
 have hE:=hG.toEnvOk
 simp only[Op.operands]at hev
 obtain⟨h1,rfl⟩:=oval_inv (show oval H (fieldAddrV (evA t x) (fieldOf E.tt ty i))=.ok v' H' from hc)
 obtain⟨v,g1,g2⟩:=fieldAddr_sound hE (hev x (by simp)) h1 w
 exact(OpRes.ofSem h rfl g1 g2).go fr cs
theorem go_field (hG:EnvGood E) (hex:SoundEx E ex) (h:HR E.ng ρ H w) {ev:Operand->Value} {t:Tr Value} {dst:Option Tmp} {type:TypeId} {pos:String} {after:Array Edge} {guard:Option (Nat × Bool)} {ty:TypeId} {x:Operand} {i:Nat} {v':Value} (hev:∀z ∈ (Op.operands (.field ty x i)),VR ρ (ev z) (evA t z)) {fr:Frame} {cs:List Frame} (hp:Plain fr)
 (hc:opA E ex H t ⟨dst,.field ty x i,type,pos,after,guard⟩=.ok v' H'):OpGo E ρ H w fr cs (execOp ev ⟨dst,.field ty x i,type,pos,after,guard⟩) v' H':=by
 have hE:=hG.toEnvOk
 simp only[Op.operands]at hev
 obtain⟨h1,rfl⟩:=oval_inv (show oval H (fieldV E.tt (evA t x) (fieldOf E.tt ty i))=.ok v' H' from hc)
 obtain⟨v,g1,g2⟩:=field_sound hE (hev x (by simp)) h1 w
 exact(OpRes.ofSem h rfl g1 g2).go fr cs
theorem go_indexAddr (hG:EnvGood E) (hex:SoundEx E ex) (h:HR E.ng ρ H w) {ev:Operand->Value} {t:Tr Value} {dst:Option Tmp} {type:TypeId} {pos:String} {after:Array Edge} {guard:Option (Nat × Bool)} {ty:TypeId} {x i:Operand} {v':Value} (hev:∀z ∈ (Op.operands (.indexAddr ty x i)),VR ρ (ev z) (evA t z)) {fr:Frame} {cs:List Frame} (hp:Plain fr)
 (hc:opA E ex H t ⟨dst,.indexAddr ty x i,type,pos,after,guard⟩=.ok v' H'):OpGo E ρ H w fr cs (execOp ev ⟨dst,.indexAddr ty x i,type,pos,after,guard⟩) v' H':=by
 have hE:=hG.toEnvOk
 simp only[Op.operands]at hev
 obtain⟨h1,rfl⟩:=oval_inv (show oval H (idxAddr1 E.tt ty (evA t x) (natOf (evA t i)))=.ok v' H' from hc)
 obtain⟨v,g1,g2⟩:=indexAddr_sound hE (hev x (by simp)) (hev i (by simp)) h1 w
 exact(OpRes.ofSem h rfl g1 g2).go fr cs
theorem go_index (hG:EnvGood E) (hex:SoundEx E ex) (h:HR E.ng ρ H w) {ev:Operand->Value} {t:Tr Value} {dst:Option Tmp} {type:TypeId} {pos:String} {after:Array Edge} {guard:Option (Nat × Bool)} {ty:TypeId} {x i:Operand} {v':Value} (hev:∀z ∈ (Op.operands (.index ty x i)),VR ρ (ev z) (evA t z)) {fr:Frame} {cs:List Frame} (hp:Plain fr)
 (hc:opA E ex H t ⟨dst,.index ty x i,type,pos,after,guard⟩=.ok v' H'):OpGo E ρ H w fr cs (execOp ev ⟨dst,.index ty x i,type,pos,after,guard⟩) v' H':=by
 have hE:=hG.toEnvOk
 simp only[Op.operands]at hev
 obtain⟨h1,rfl⟩:=oval_inv (show oval H (indexV E.tt ty (evA t x) (evA t i))=.ok v' H' from hc)
 obtain⟨v,g1,g2⟩:=index_sound hE (hev x (by simp)) (hev i (by simp)) h1 w
 exact(OpRes.ofSem h rfl g1 g2).go fr cs
theorem go_extract (hG:EnvGood E) (hex:SoundEx E ex) (h:HR E.ng ρ H w) {ev:Operand->Value} {t:Tr Value} {dst:Option Tmp} {type:TypeId} {pos:String} {after:Array Edge} {guard:Option (Nat × Bool)} {x:Operand} {i:Nat} {v':Value} (hev:∀z ∈ (Op.operands (.extract x i)),VR ρ (ev z) (evA t z)) {fr:Frame} {cs:List Frame} (hp:Plain fr)
 (hc:opA E ex H t ⟨dst,.extract x i,type,pos,after,guard⟩=.ok v' H'):OpGo E ρ H w fr cs (execOp ev ⟨dst,.extract x i,type,pos,after,guard⟩) v' H':=by
 have hE:=hG.toEnvOk
 simp only[Op.operands]at hev
 obtain⟨h1,rfl⟩:=oval_inv (show oval H (extractV (evA t x) i)=.ok v' H' from hc)
 obtain⟨v,g1,g2⟩:=extract_sound (hev x (by simp)) h1 E.P w
 exact(OpRes.ofSem h rfl g1 g2).go fr cs
theorem go_makeMap (hG:EnvGood E) (hex:SoundEx E ex) (h:HR E.ng ρ H w) {ev:Operand->Value} {t:Tr Value} {dst:Option Tmp} {type:TypeId} {pos:String} {after:Array Edge} {guard:Option (Nat × Bool)} {ty:TypeId} {r:Option Operand} {v':Value} (hev:∀z ∈ (Op.operands (.makeMap ty r)),VR ρ (ev z) (evA t z)) {fr:Frame} {cs:List Frame} (hp:Plain fr)
 (hc:opA E ex H t ⟨dst,.makeMap ty r,type,pos,after,guard⟩=.ok v' H'):OpGo E ρ H w fr cs (execOp ev ⟨dst,.makeMap ty r,type,pos,after,guard⟩) v' H':=by
 have hE:=hG.toEnvOk
 simp only[Op.operands]at hev
 cases r with
 | some _=>cases hc
 | none=>
   have hc:Out.ok (.map (some H.next)) (H.add (.map []))=.ok v' H':=hc
   cases hc
   exact(makeMap_sound h (ty:=ty)).go fr cs
theorem go_range (hG:EnvGood E) (hex:SoundEx E ex) (h:HR E.ng ρ H w) {ev:Operand->Value} {t:Tr Value} {dst:Option Tmp} {type:TypeId} {pos:String} {after:Array Edge} {guard:Option (Nat × Bool)} {ty:TypeId} {x:Operand} {v':Value} (hev:∀z ∈ (Op.operands (.range ty x)),VR ρ (ev z) (evA t z)) {fr:Frame} {cs:List Frame} (hp:Plain fr)
 (hc:opA E ex H t ⟨dst,.range ty x,type,pos,after,guard⟩=.ok v' H'):OpGo E ρ H w fr cs (execOp ev ⟨dst,.range ty x,type,pos,after,guard⟩) v' H':=by
 have hE:=hG.toEnvOk
 simp only[Op.operands]at hev
 exact(range_sound hE h (hev x (by simp)) (show rangeA2 H (evA t x) (mapD (E.tt.und ty))=.ok v' H' from hc)).go fr cs
theorem go_next (hG:EnvGood E) (hex:SoundEx E ex) (h:HR E.ng ρ H w) {ev:Operand->Value} {t:Tr Value} {dst:Option Tmp} {type:TypeId} {pos:String} {after:Array Edge} {guard:Option (Nat × Bool)} {x:Operand} {str:Bool} {v':Value} (hev:∀z ∈ (Op.operands (.next x str)),VR ρ (ev z) (evA t z)) {fr:Frame} {cs:List Frame} (hp:Plain fr)
 (hc:opA E ex H t ⟨dst,.next x str,type,pos,after,guard⟩=.ok v' H'):OpGo E ρ H w fr cs (execOp ev ⟨dst,.next x str,type,pos,after,guard⟩) v' H':=by
 have hE:=hG.toEnvOk
 simp only[Op.operands]at hev
 exact(next_sound h (ty:=type) (hev x (by simp)) (show nextA H (evA t x) str=.ok v' H' from hc)).go fr cs
theorem go_entry (hG:EnvGood E) (hex:SoundEx E ex) (h:HR E.ng ρ H w) {ev:Operand->Value} {t:Tr Value} {dst:Option Tmp} {type:TypeId} {pos:String} {after:Array Edge} {guard:Option (Nat × Bool)} {x:Operand} {v':Value} (hev:∀z ∈ (Op.operands (.entry x)),VR ρ (ev z) (evA t z)) {fr:Frame} {cs:List Frame} (hp:Plain fr)
 (hc:opA E ex H t ⟨dst,.entry x,type,pos,after,guard⟩=.ok v' H'):OpGo E ρ H w fr cs (execOp ev ⟨dst,.entry x,type,pos,after,guard⟩) v' H':=by
 have hE:=hG.toEnvOk
 simp only[Op.operands]at hev
 obtain⟨h1,rfl⟩:=oval_inv (show oval H (entryA H (evA t x))=.ok v' H' from hc)
 obtain⟨v,g1,g2⟩:=entry_sound h (hev x (by simp)) h1
 exact(OpRes.ofSem h (sv:=Instr.entry (ev x)) rfl g1 g2).go fr cs
theorem go_lookup (hG:EnvGood E) (hex:SoundEx E ex) (h:HR E.ng ρ H w) {ev:Operand->Value} {t:Tr Value} {dst:Option Tmp} {type:TypeId} {pos:String} {after:Array Edge} {guard:Option (Nat × Bool)} {ty:TypeId} {x k:Operand} {ok:Bool} {v':Value} (hev:∀z ∈ (Op.operands (.lookup ty x k ok)),VR ρ (ev z) (evA t z)) {fr:Frame} {cs:List Frame} (hp:Plain fr)
 (hc:opA E ex H t ⟨dst,.lookup ty x k ok,type,pos,after,guard⟩=.ok v' H'):OpGo E ρ H w fr cs (execOp ev ⟨dst,.lookup ty x k ok,type,pos,after,guard⟩) v' H':=by
 have hE:=hG.toEnvOk
 simp only[Op.operands]at hev
 obtain⟨h1,rfl⟩:=oval_inv (show oval H (lookupA E.P E.tt H (evA t x) (evA t k) ok (mapD (E.tt.und ty)))=.ok v' H' from hc)
 obtain⟨v,g1,g2⟩:=lookup_sound hE h (hev x (by simp)) (hev k (by simp)) h1
 exact(OpRes.ofSem h (sv:=Instr.lookup ty (ev x) (ev k) ok) rfl g1 g2).go fr cs
theorem go_mapUpdate (hG:EnvGood E) (hex:SoundEx E ex) (h:HR E.ng ρ H w) {ev:Operand->Value} {t:Tr Value} {dst:Option Tmp} {type:TypeId} {pos:String} {after:Array Edge} {guard:Option (Nat × Bool)} {ty:TypeId} {m k x:Operand} {v':Value} (hev:∀z ∈ (Op.operands (.mapUpdate ty m k x)),VR ρ (ev z) (evA t z)) {fr:Frame} {cs:List Frame} (hp:Plain fr)
 (hc:opA E ex H t ⟨dst,.mapUpdate ty m k x,type,pos,after,guard⟩=.ok v' H'):OpGo E ρ H w fr cs (execOp ev ⟨dst,.mapUpdate ty m k x,type,pos,after,guard⟩) v' H':=by
 have hE:=hG.toEnvOk
 simp only[Op.operands]at hev
 obtain⟨w',g1,rfl,g2,g3⟩:=update_sound hE h (hev m (by simp)) (hev k (by simp)) (hev x (by simp)) (show updateA E.P H (evA t m) (evA t k) (evA t x) (mapD (E.tt.und ty))=.ok v' H' from hc)
 exact⟨ρ,undef,w',.skip (run_u g1),.undef,g2,g3⟩
theorem go_insert (hG:EnvGood E) (hex:SoundEx E ex) (h:HR E.ng ρ H w) {ev:Operand->Value} {t:Tr Value} {dst:Option Tmp} {type:TypeId} {pos:String} {after:Array Edge} {guard:Option (Nat × Bool)} {ty:TypeId} {m k x:Operand} {v':Value} (hev:∀z ∈ (Op.operands (.insert ty m k x)),VR ρ (ev z) (evA t z)) {fr:Frame} {cs:List Frame} (hp:Plain fr)
 (hc:opA E ex H t ⟨dst,.insert ty m k x,type,pos,after,guard⟩=.ok v' H'):OpGo E ρ H w fr cs (execOp ev ⟨dst,.insert ty m k x,type,pos,after,guard⟩) v' H':=by
 have hE:=hG.toEnvOk
 simp only[Op.operands]at hev
 obtain⟨w',g1,rfl,g2,g3⟩:=update_sound hE h (hev m (by simp)) (hev k (by simp)) (hev x (by simp)) (show updateA E.P H (evA t m) (evA t k) (evA t x) (mapD (E.tt.und ty))=.ok v' H' from hc)
 exact⟨ρ,undef,w',.skip (run_u g1),.undef,g2,g3⟩
theorem go_call (hG:EnvGood E) (hex:SoundEx E ex) (h:HR E.ng ρ H w) {ev:Operand->Value} {t:Tr Value} {dst:Option Tmp} {type:TypeId} {pos:String} {after:Array Edge} {guard:Option (Nat × Bool)} {c:Call} {v':Value} (hev:∀z ∈ (Op.operands (.call c)),VR ρ (ev z) (evA t z)) {fr:Frame} {cs:List Frame} (hp:Plain fr)
 (hc:opA E ex H t ⟨dst,.call c,type,pos,after,guard⟩=.ok v' H'):OpGo E ρ H w fr cs (execOp ev ⟨dst,.call c,type,pos,after,guard⟩) v' H':=by
 have hE:=hG.toEnvOk
 have hev0:=hev
 simp only[Op.operands]at hev
 obtain⟨callee,args,argTypes⟩:=c
 cases callee with
 | invoke r m=>cases hc
 | value g=>
   have hc:callV E ex H (evA t g) (evs t args.toList)=.ok v' H':=hc
   have hargs:=evs_rel (l:=args.toList) (fun x hx=>hev x (by simp[Call.operands]at hx ⊢;exact .inr hx))
   obtain⟨d,h1,h2⟩:=callV_go hG hex h (hev g (by simp[Call.operands])) hargs hp hc
   obtain⟨ρ',v,w',g1,g2⟩:=h2
   refine⟨ρ',v,w',App.congr ?_ g1,g2⟩
   have e1:(⟨args.toList.map ev⟩:Array Value)=args.map ev:=by apply Array.ext';simp
   rw[e1]at h1
   show(Deferred.ofValue (ev g) (args.map ev) >>= fun d=>invoke d.target d.args).run E.P w=_
   simp[h1 w,Result.andThen]
 | builtin b=>
   have hc:builtinA E H t ⟨dst,.call ⟨.builtin b,args,argTypes⟩,type,pos,after,guard⟩ argTypes.toList (evs t args.toList) b=.ok v' H':=hc
   have hargs:=evs_rel (l:=args.toList) (fun x hx=>hev x (by simp[Call.operands]at hx ⊢;exact hx))
   have e1:args.map ev=⟨args.toList.map ev⟩:=by apply Array.ext';simp
   have hex2:∀(sv:Sem Value),builtin b argTypes type (args.map fun | .const _=>true|_=>false) (args.map ev)=(do pure (Next.value (<-sv)))->execOp ev ⟨dst,.call ⟨.builtin b,args,argTypes⟩,type,pos,after,guard⟩=(do pure (Next.value (<-sv))):=fun sv hsv=>hsv
   have two:∀ {x' y':Value} ,evs t args.toList=[x',y']->∃x y,args.map ev=#[x,y]/\VR ρ x x'/\VR ρ y y':=fun he=>by
    rw[he]at hargs
    obtain⟨x,l,e,hx,hl⟩:=hargs.cons_inv
    obtain⟨y,l2,e2,hy,hl2⟩:=hl.cons_inv
    have:=hl2.nil_inv
    subst this;subst e2
    exact⟨x,y,by rw[e1,e],hx,hy⟩
   have one:∀ {x':Value} ,evs t args.toList=[x']->∃x,args.map ev=#[x]/\VR ρ x x':=fun he=>by
    rw[he]at hargs
    obtain⟨x,l,e,hx,hl⟩:=hargs.cons_inv
    have:=hl.nil_inv
    subst this
    exact⟨x,by rw[e1,e],hx⟩
   cases b<;>simp only[builtinA]at hc<;>try (cases hc;done)
   case append=>
    split at hc
    · rename_i s' x' he
      split at hc
      · rename_i ty u hts
        split at hc
        · rename_i hint
          obtain⟨s,x,ea,hs,hx⟩:=two he
          obtain⟨ρ',v,w',g1,g2,g3,g4⟩:=append_sound hE h (ty:=type) hint hs hx hc
          have hat:argTypes=#[ty,u]:=by apply Array.ext';rw[hts]
          refine⟨ρ',v,w',.value ?_,g2,g3,g4⟩
          rw[hex2 (Builtin.append_ argTypes type (args.map ev)) rfl,ea,hat]
          exact run_v g1
        · cases hc
      · cases hc
    · cases hc
   case cap=>
    split at hc
    · rename_i x' he
      split at hc
      · rename_i ty tl hts
        split at hc
        · rename_i el hel
          obtain⟨x,ea,hx⟩:=one he
          obtain⟨h1,rfl⟩:=oval_inv hc
          obtain⟨g1,g2⟩:=cap_sound hE h (ty:=type) (head_of hts) hel hx h1
          exact(OpRes.ofSem h (hex2 (Builtin.cap_ argTypes type (args.map ev)) rfl) (by rw[ea];exact g1) (VR.of_free ρ _ g2)).go fr cs
        · cases hc
      · cases hc
    · cases hc
   case clear=>
    split at hc
    · rename_i x' he
      split at hc
      · rename_i ty tl hts
        obtain⟨x,ea,hx⟩:=one he
        obtain⟨v,w',g1,g2,g3,g4⟩:=clear_sound hE h (ty:=type) (head_of hts) hx hc
        refine⟨ρ,v,w',.value ?_,g2,g3,g4⟩
        rw[hex2 (Builtin.clear_ argTypes type (args.map ev)) rfl,ea]
        exact run_v g1
      · cases hc
    · cases hc
   case copy=>
    split at hc
    · rename_i s' x' he
      split at hc
      · rename_i ty tl hts
        obtain⟨s,x,ea,hs,hx⟩:=two he
        obtain⟨v,w',g1,g2,g3,g4⟩:=copy_sound hE h (ty:=type) (head_of hts) hs hx hc
        refine⟨ρ,v,w',.value ?_,g2,g3,g4⟩
        rw[hex2 (Builtin.copy_ argTypes type (args.map ev)) rfl,ea]
        exact run_v g1
      · cases hc
    · cases hc
   case len=>
    split at hc
    · rename_i x' he
      split at hc
      · rename_i ty tl hts
        obtain⟨x,ea,hx⟩:=one he
        obtain⟨h1,rfl⟩:=oval_inv hc
        obtain⟨g1,g2⟩:(Builtin.len_ argTypes type #[x]).run E.P w=.ok v' w/\free v'=true:=by
         unfold lenM at h1
         split at h1
         · rename_i kt et hd
           exact mapLen_sound hE h (head_of hts) hd hx h1
         · exact len_sound hE (ty:=type) (head_of hts) hx h1 w
        exact(OpRes.ofSem h (hex2 (Builtin.len_ argTypes type (args.map ev)) rfl) (by rw[ea];exact g1) (VR.of_free ρ _ g2)).go fr cs
      · cases hc
    · cases hc
   case max=>
    refine(pureOp_go h hev0 args.toList _ (by simp) (fun x hx=>by simpa[Op.operands,Call.operands] using hx) (fun hf x hx=>freeL_evs hf hx) hc).go fr cs
   case min=>
    refine(pureOp_go h hev0 args.toList _ (by simp) (fun x hx=>by simpa[Op.operands,Call.operands] using hx) (fun hf x hx=>freeL_evs hf hx) hc).go fr cs
theorem op_go (hG:EnvGood E) (hex:SoundEx E ex) (h:HR E.ng ρ H w) {ev:Operand->Value} {t:Tr Value} {o:Oper} {v':Value} (hev:∀x ∈ o.op.operands,VR ρ (ev x) (evA t x)) {fr:Frame} {cs:List Frame} (hp:Plain fr)
 (hc:opA E ex H t o=.ok v' H'):OpGo E ρ H w fr cs (execOp ev o) v' H':=by
 obtain⟨dst,op,type,pos,after,guard⟩:=o
 have bad:opA E ex H t ⟨dst,op,type,pos,after,guard⟩=.bad->False:=fun e=>by rw[e]at hc;cases hc
 cases op
 case move=>exact go_move hG hex h hev hp hc
 case assign=>exact go_assign hG hex h hev hp hc
 case pick=>exact go_pick hG hex h hev hp hc
 case alloc=>exact go_alloc hG hex h hev hp hc
 case box=>exact go_box hG hex h hev hp hc
 case build=>exact go_build hG hex h hev hp hc
 case buildSlice=>exact go_buildSlice hG hex h hev hp hc
 case load=>exact go_load hG hex h hev hp hc
 case store=>exact go_store hG hex h hev hp hc
 case nilCheck=>exact go_nilCheck hG hex h hev hp hc
 case binOp=>exact go_binOp hG hex h hev hp hc
 case unOp=>exact go_unOp hG hex h hev hp hc
 case convert=>exact go_convert hG hex h hev hp hc
 case makeInterface=>exact go_makeInterface hG hex h hev hp hc
 case makeFunc=>exact go_makeFunc hG hex h hev hp hc
 case makeSlice=>exact go_makeSlice hG hex h hev hp hc
 case slice=>exact go_slice hG hex h hev hp hc
 case fieldAddr=>exact go_fieldAddr hG hex h hev hp hc
 case field=>exact go_field hG hex h hev hp hc
 case indexAddr=>exact go_indexAddr hG hex h hev hp hc
 case index=>exact go_index hG hex h hev hp hc
 case extract=>exact go_extract hG hex h hev hp hc
 case call=>exact go_call hG hex h hev hp hc
 case insert=>exact go_insert hG hex h hev hp hc
 case ready=>exact(bad rfl).elim
 case waits=>exact(bad rfl).elim
 case sliceToArrayPointer=>exact(bad rfl).elim
 case makeMap=>exact go_makeMap hG hex h hev hp hc
 case makeChan=>exact(bad rfl).elim
 case lookup=>exact go_lookup hG hex h hev hp hc
 case mapUpdate=>exact go_mapUpdate hG hex h hev hp hc
 case mapEntry=>exact(bad rfl).elim
 case entryStore=>exact(bad rfl).elim
 case range=>exact go_range hG hex h hev hp hc
 case next=>exact go_next hG hex h hev hp hc
 case entry=>exact go_entry hG hex h hev hp hc
 case typeAssert=>exact(bad rfl).elim
 case go=>exact(bad rfl).elim
 case defer=>exact(bad rfl).elim
 case panic=>exact(bad rfl).elim
 case send=>exact(bad rfl).elim
 case recv=>exact(bad rfl).elim
 case select=>exact(bad rfl).elim
theorem opA_no_defer {t:Tr Value} {o:Oper} {v':Value} (hc:opA E ex H t o=.ok v' H'):∀c,o.op≠.defer c:=by
 intro c e
 have:opA E ex H t o=.bad:=by unfold opA;rw[e];rfl
 rw[this]at hc;cases hc
theorem wanted_eq {ops:Array Oper} {a:Array Value} {t:Tr Value} {nt:Nat} (h:TR ρ a t nt) (o:Oper):Region.wanted o (yielded ops a)=wantedA ops t o.guard:=by
 unfold Region.wanted
 cases hg:o.guard with
 | none=>rfl
 | some x=>
   obtain⟨j,b⟩:=x
   show(yielded ops a j == some b)=wantedAt t (guardOf ops j) b
   unfold yielded guardOf
   cases hj:ops[j]? with
   | none=>simp[wantedAt]
   | some p=>
     simp only[Option.bind_some]
     cases hd:p.dst with
     | none=>simp[wantedAt]
     | some d=>
       simp only[Option.bind_some,wantedAt]
       have hr:=h.rel d
       rw[Array.getD_eq_getD_getElem?]at hr
       cases hv:a[d]? with
       | none=>
         rw[hv]at hr
         simp only[Option.getD_none]at hr
         generalize t.get Undef d=y at hr
         cases hr
         rfl
       | some v=>
         rw[hv]at hr
         simp only[Option.getD_some]at hr
         generalize t.get Undef d=y at hr
         cases hr<;>first
          | rfl
          | (rename_i c;cases c<;>cases b<;>rfl)
theorem step_oper {P:Program} {fr:Frame} {cs:List Frame} {ops:Array Oper} {i:Nat} {rest:List Nat} {k:List Item} {o:Oper} (hm:fr.mode=.run) (ht:fr.todo=.inRegion ops (i :: rest) :: k) (ho:ops[i]?=some o)
 (hw:Region.wanted o (yielded ops fr.tmps)=true) (hd:∀c,o.op≠.defer c):
 stepG P true { frame:=fr,callers:=cs,status:=.running,dying:=none } w=stepG.apply P true fr cs none (execOp fr.eval o) w:=by
 have hop:fr.oper?=some o:=by simp[Frame.oper?,ht,ho]
 have h1:stepG P true { frame:=fr,callers:=cs,status:=.running,dying:=none } w=stepG.oper P true fr cs none w:=by
  simp[stepG,stepG.exec,hm,ht,ho,hw]
 rw[h1]
 unfold stepG.oper
 rw[hop]
 simp only
 cases hr:fr.roundOf with
 | none=>rfl
 | some l=>cases hop2:o.op<;>first|rfl|exact absurd hop2 (hd _)
theorem step_skipped {P:Program} {fr:Frame} {cs:List Frame} {ops:Array Oper} {i:Nat} {rest:List Nat} {k:List Item} {o:Oper} (hm:fr.mode=.run) (ht:fr.todo=.inRegion ops (i :: rest) :: k) (ho:ops[i]?=some o)
 (hw:Region.wanted o (yielded ops fr.tmps)=false):Go.step P (lone fr cs w)=.next (lone (fr.finish undef) cs w):=
 step_lone_go (by simp[stepG,stepG.exec,hm,ht,ho,hw])
theorem App.steps {P:Program} {fr:Frame} {cs:List Frame} {s:Sem Next} {v:Value} (h:App P fr cs s w v w') (hs:stepG P true { frame:=fr,callers:=cs,status:=.running,dying:=none } w=stepG.apply P true fr cs none s w):
 Steps P (lone fr cs w) (lone (fr.finish v) cs w'):=by
 obtain⟨fr1,cs1,w1,h1,h2⟩:=h
 exact Steps.head (step_lone_go (by rw[hs];exact h1)) h2
def putA (a:Array Value) (dst:Option Tmp) (v:Value):Array Value:=match dst with|some d=>a.setIfInBounds d v|none=>a
theorem finish_region {fr:Frame} {ops:Array Oper} {i:Nat} {rest:List Nat} {k:List Item} {o:Oper} (ht:fr.todo=.inRegion ops (i :: rest) :: k) (ho:ops[i]?=some o) (v:Value):
 fr.finish v = { fr with tmps:=putA fr.tmps o.dst v,todo:=.inRegion ops rest :: k }:=by
 simp only[Frame.finish,ht,ho,Option.bind_some]
 cases o.dst<;>rfl
theorem put_TR {a:Array Value} {t:Tr Value} {nt:Nat} {dst:Option Tmp} {v v':Value} (h:TR ρ a t nt) (hd:okDst nt dst=true) (hv:VR ρ v v'):TR ρ (putA a dst v) (putTmp t dst v') nt:=by
 cases dst with
 | none=>exact h
 | some d=>exact h.put (by simpa[okDst,Nat.blt_eq] using hd) hv
theorem eval_rel {fr:Frame} {t:Tr Value} {nt ng:Nat} (hg:∀g,g<ng->∃z,ρ g=some ⟨g,0,z,0⟩) (h:TR ρ fr.tmps t nt) {x:Operand} (hx:okX ng x=true):VR ρ (fr.eval x) (evA t x):=by
 cases x with
 | tmp i=>exact h.rel i
 | const v=>exact VR.of_free ρ v hx
 | global g=>
   obtain⟨z,hz⟩:=hg g (by simpa[okX,Nat.blt_eq] using hx)
   exact .ptr (o:=0) (p:=⟨g,0,z,0⟩) hz
 | func f=>exact .func [] [] [] [] (.func f) rfl (by simp) rfl (by simp)
theorem okXs_mem {ng:Nat}:∀ {l:List Operand},okXs ng l=true->∀x ∈ l,okX ng x=true
 | [],_,_,hx=>by cases hx
 | y :: l,h,x,hx=>by
   simp only[okXs,Bool.and_eq_true]at h
   rcases List.mem_cons.1 hx with rfl|hx
   · exact h.1
   · exact okXs_mem h.2 x hx
theorem runOps_go (hG:EnvGood E) (hex:SoundEx E ex) {ops:Array Oper} {k':List Item} {nt:Nat}:∀(l:List Oper) (i:Nat) (t t':Tr Value) (H H':Heap),ops.toList.drop i=l->okOps E.ng nt l=true->runOps E ex ops l t H=.ok t' H' ->
 ∀(ρ:Rho) (fr:Frame) (w:World) (cs:List Frame),fr.todo=.inRegion ops (List.range' i l.length) :: k'->fr.mode=.run->TR ρ fr.tmps t nt->HR E.ng ρ H w ->
 ∃ρ' a' w',Steps E.P (lone fr cs w) (lone { fr with tmps:=a',todo:=k' } cs w')/\TR ρ' a' t' nt/\HR E.ng ρ' H' w'/\Ext ρ H w ρ' H' w'
 | [],i,t,t',H,H',hl,hok,hr,ρ,fr,w,cs,ht,hm,htr,h=>by
   have hr:OutT.ok t H=.ok t' H':=hr
   cases hr
   refine⟨ρ,fr.tmps,w,.one (step_lone_go ?_),htr,h,Ext.refl _ _ _⟩
   simp[stepG,stepG.exec,hm,ht]
 | o :: l,i,t,t',H,H',hl,hok,hr,ρ,fr,w,cs,ht,hm,htr,h=>by
   have hi:ops[i]?=some o:=by
     have:ops.toList[i]?=some o:=by
      have:=congrArg (·[0]?) hl
      simpa[List.getElem?_drop] using this
     simpa using this
   have hl':ops.toList.drop (i+1)=l:=by
     have:=congrArg List.tail hl
     simpa[List.tail_drop] using this
   simp only[okOps,Bool.and_eq_true]at hok
   obtain⟨⟨hd,hxs⟩,hok⟩:=hok
   have htodo:fr.todo=.inRegion ops (i :: List.range' (i+1) l.length) :: k':=by rw[ht];rfl
   have hr:@Bool.rec (fun _=>OutT) (runOps E ex ops l (putTmp t o.dst Undef) H) (@Out.rec (fun _=>OutT) .bad (fun v H=>runOps E ex ops l (putTmp t o.dst v) H) (opA E ex H t o)) (wantedA ops t o.guard)=.ok t' H':=hr
   have hwe:=wanted_eq (ops:=ops) htr o
   cases hw:wantedA ops t o.guard with
   | false=>
     rw[hw]at hr hwe
     have hs:=step_skipped (P:=E.P) (w:=w) (cs:=cs) hm htodo hi hwe
     rw[finish_region htodo hi]at hs
     obtain⟨ρ',a',w',g1,g2,g3,g4⟩:=runOps_go hG hex l (i+1) _ t' H H' hl' hok hr ρ { fr with tmps:=putA fr.tmps o.dst undef,todo:=.inRegion ops (List.range' (i+1) l.length) :: k' } w cs rfl hm (put_TR htr hd .undef) h
     exact⟨ρ',a',w',Steps.head hs g1,g2,g3,g4⟩
   | true=>
     rw[hw]at hr hwe
     cases hop:opA E ex H t o with
     | bad=>rw[hop]at hr;cases hr
     | ok v H1=>
       rw[hop]at hr
       have hr:runOps E ex ops l (putTmp t o.dst v) H1=.ok t' H':=hr
       have hplain:Plain fr:=fun d r s kk e=>by rw[htodo]at e;cases e
       obtain⟨ρ1,v1,w1,g1,g2,g3,g4⟩:=op_go hG hex h (ev:=fr.eval) (fr:=fr) (cs:=cs) (fun x hx=>eval_rel h.glob htr (okXs_mem hxs x (by simpa using hx))) hplain hop
       have hs:=g1.steps (step_oper hm htodo hi hwe (opA_no_defer hop))
       rw[finish_region htodo hi]at hs
       obtain⟨ρ',a',w',k1,k2,k3,k4⟩:=runOps_go hG hex l (i+1) _ t' H1 H' hl' hok hr ρ1 { fr with tmps:=putA fr.tmps o.dst v1,todo:=.inRegion ops (List.range' (i+1) l.length) :: k' } w1 cs rfl hm (put_TR (htr.mono g4.le) hd g2) g3
       exact⟨ρ',a',w',Steps.trans hs k1,k2,k3,g4.trans k4⟩
def DrawOk (E:Env) (ex:Ex):Prop:=∀(ops:Array Oper) (nt:Nat) (t t':Tr Value) (H H':Heap),drawOps E ex ops t H=.ok t' H'->okOps E.ng nt ops.toList=true ->
 ∀(ρ:Rho) (fr:Frame) (w:World) (cs:List Frame) (id:Nat) (k':List Item),fr.todo=.code (.region id ops true) :: k'->fr.mode=.run->TR ρ fr.tmps t nt->HR E.ng ρ H w ->
  ∃ρ' a' w',Steps E.P (lone fr cs w) (lone { fr with tmps:=a',todo:=k' } cs w')/\TR ρ' a' t' nt/\HR E.ng ρ' H' w'/\Ext ρ H w ρ' H' w'
theorem Ends.head {P:Program} {fr fr1:Frame} {cs:List Frame} {w1:World} {v:Value} (hs:Steps P (lone fr cs w) (lone fr1 cs w1)) (hr:fr1.roundOf=fr.roundOf) (hf:fr1.fn=fr.fn) (h:Ends P fr1 cs w1 v w'):Ends P fr cs w v w':=by
 refine⟨fun h0=>?_,fun h0 c cs' e=>?_⟩
 · obtain⟨fr',a,b,c⟩:=h.1 (hr.trans h0)
   exact⟨fr',hs.trans a,b.trans hf,c⟩
 · exact hs.trans (h.2 (by rw[hr];exact h0) c cs' e)
def Fin (E:Env) (ρ:Rho) (H:Heap) (w:World) (fr:Frame) (cs:List Frame) (v':Value) (H':Heap):Prop:=
 ∃ρ' v w',Ends E.P fr cs w v w'/\VR ρ' v v'/\HR E.ng ρ' H' w'/\Ext ρ H w ρ' H' w'
theorem Fin.head {fr fr1:Frame} {cs:List Frame} {w1:World} {ρ1:Rho} {H1:Heap} {v':Value} (hs:Steps E.P (lone fr cs w) (lone fr1 cs w1)) (hr:fr1.roundOf=fr.roundOf) (hf:fr1.fn=fr.fn) (he:Ext ρ H w ρ1 H1 w1) (h:Fin E ρ1 H1 w1 fr1 cs v' H'):Fin E ρ H w fr cs v' H':=by
 obtain⟨ρ',v,w',a,b,c,d⟩:=h
 exact⟨ρ',v,w',a.head hs hr hf,b,c,he.trans d⟩
theorem FrR.todoTo {c:Cx} {d:List Nat} {k k2:List AItem} {t:Tr Value} {fr:Frame} {kk:List Item} (h:FrR ρ c d k t fr) (hk:IR ρ k2 kk):FrR ρ c d k2 t { fr with todo:=kk }:=
 ⟨h.fn,h.mode,h.kind,h.tmps,hk,h.defers,h.round⟩
theorem FrR.mono (hle:ρ.le ρ') {c:Cx} {d:List Nat} {k:List AItem} {t:Tr Value} {fr:Frame} (h:FrR ρ c d k t fr):FrR ρ' c d k t fr:=by
 refine⟨h.fn,h.mode,h.kind,h.tmps.mono hle,h.todo.mono hle,h.defers.mono hle,?_⟩
 have:=h.round
 split at this
 · exact this
 · obtain⟨l,a,b⟩:=this;exact⟨l,hle _ _ a,b⟩
theorem exitTo_rel {id:Nat}:∀ {k k2:List AItem} {kk:List Item},IR ρ k kk->exitToA id k=some k2->∃kk2,exitTo id kk=some kk2/\IR ρ k2 kk2
 | _,_,_,.nil,h=>by cases h
 | _,_,_,.inBlock id' t,h=>by
   simp only[exitToA]at h
   cases hb:Nat.beq id' id with
   | true=>
     rw[hb]at h;cases h
     have:id'=id:=Nat.eq_of_beq_eq_true hb
     exact⟨_,by simp[exitTo,this],t⟩
   | false=>
     rw[hb]at h
     obtain⟨kk2,a,b⟩:=exitTo_rel t h
     have:¬id'=id:=fun e=>by subst e;simp at hb
     exact⟨kk2,by simp[exitTo,this,a],b⟩
 | _,_,_,.code c t,h=>by
   obtain⟨kk2,a,b⟩:=exitTo_rel t h
   exact⟨kk2,a,b⟩
 | _,_,_,.inLoop c t,h=>by
   obtain⟨kk2,a,b⟩:=exitTo_rel t h
   exact⟨kk2,a,b⟩
 | _,_,_,.inScope c t,h=>by
   obtain⟨kk2,a,b⟩:=exitTo_rel t h
   exact⟨kk2,a,b⟩
 | _,_,_,.beginRound t,h=>by
   obtain⟨kk2,a,b⟩:=exitTo_rel t h
   exact⟨kk2,a,b⟩
 | _,_,_,.endRange hb t,h=>by
   obtain⟨kk2,a,b⟩:=exitTo_rel t h
   exact⟨kk2,a,b⟩
theorem exitTo_none {id:Nat}:∀ {k:List AItem} {kk:List Item},IR ρ k kk->exitToA id k=none->exitTo id kk=none
 | _,_,.nil,_=>rfl
 | _,_,.inBlock id' t,h=>by
   simp only[exitToA]at h
   cases hb:Nat.beq id' id with
   | true=>rw[hb]at h;cases h
   | false=>
     rw[hb]at h
     have:¬id'=id:=fun e=>by subst e;simp at hb
     simp[exitTo,this,exitTo_none t h]
 | _,_,.code c t,h=>by
   have:=exitTo_none t h
   exact this
 | _,_,.inLoop c t,h=>by
   have:=exitTo_none t h
   exact this
 | _,_,.inScope c t,h=>by
   have:=exitTo_none t h
   exact this
 | _,_,.beginRound t,h=>by
   have:=exitTo_none t h
   exact this
 | _,_,.endRange hb t,h=>by
   have:=exitTo_none t h
   exact this
theorem gotoIn_rel {l:Nat}:∀ {k k2:List AItem} {kk:List Item},IR ρ k kk->gotoInA l k=some k2->∃kk2,gotoIn l kk=some kk2/\IR ρ k2 kk2
 | _,_,_,.nil,h=>by cases h
 | _,_,_,.inScope c t,h=>by
   simp only[gotoInA]at h
   cases hb:findLabel c l with
   | some rest=>rw[hb]at h;cases h;exact⟨_,by simp[gotoIn,hb],.code _ (.inScope _ t)⟩
   | none=>
     rw[hb]at h
     obtain⟨kk2,a,b⟩:=gotoIn_rel t h
     exact⟨kk2,by simp[gotoIn,hb,a],b⟩
 | _,_,_,.inBlock id' t,h=>by
   obtain⟨kk2,a,b⟩:=gotoIn_rel t h
   exact⟨kk2,a,b⟩
 | _,_,_,.code c t,h=>by
   obtain⟨kk2,a,b⟩:=gotoIn_rel t h
   exact⟨kk2,a,b⟩
 | _,_,_,.inLoop c t,h=>by
   obtain⟨kk2,a,b⟩:=gotoIn_rel t h
   exact⟨kk2,a,b⟩
 | _,_,_,.beginRound t,h=>by
   obtain⟨kk2,a,b⟩:=gotoIn_rel t h
   exact⟨kk2,a,b⟩
 | _,_,_,.endRange hb t,h=>by
   obtain⟨kk2,a,b⟩:=gotoIn_rel t h
   exact⟨kk2,a,b⟩
theorem gotoIn_none {l:Nat}:∀ {k:List AItem} {kk:List Item},IR ρ k kk->gotoInA l k=none->gotoIn l kk=none
 | _,_,.nil,_=>rfl
 | _,_,.inScope c t,h=>by
   simp only[gotoInA]at h
   cases hb:findLabel c l with
   | some rest=>rw[hb]at h;cases h
   | none=>rw[hb]at h;simp[gotoIn,hb,gotoIn_none t h]
 | _,_,.inBlock id' t,h=>by
   have:=gotoIn_none t h
   exact this
 | _,_,.code c t,h=>by
   have:=gotoIn_none t h
   exact this
 | _,_,.inLoop c t,h=>by
   have:=gotoIn_none t h
   exact this
 | _,_,.beginRound t,h=>by
   have:=gotoIn_none t h
   exact this
 | _,_,.endRange hb t,h=>by
   have:=gotoIn_none t h
   exact this
def resSem (a:Array Value) (x:ResultVar):Sem Value:=match x with
 | .tmp i=>pure (a.getD i undef)
 | .cell i ty=>do loadVar ty (<-asAddr (a.getD i undef))
theorem results_rel (hE:EnvOk E) (h:HR E.ng ρ H w) {a:Array Value} {t:Tr Value} {nt:Nat} (htr:TR ρ a t nt):∀ {l:List ResultVar} {r':List Value},resultA E.tt H t l=some r' ->
 ∃r,(l.mapM (resSem a)).run E.P w=.ok r w/\LR ρ r r'
 | [],r',h1=>by cases h1;exact⟨[],rfl,LR.nil ρ⟩
 | x :: l,r',h1=>by
   simp only[resultA]at h1
   cases hx:result1 E.tt H t x with
   | none=>rw[hx]at h1;cases h1
   | some v'=>
     rw[hx]at h1
     simp only at h1
     cases hr:resultA E.tt H t l with
     | none=>rw[hr]at h1;cases h1
     | some r1=>
       rw[hr]at h1
       cases h1
       obtain⟨r,g1,g2⟩:=results_rel hE h htr hr
       have:∃v,(resSem a x).run E.P w=.ok v w/\VR ρ v v':=by
        cases x with
        | tmp i=>cases hx;exact⟨_,rfl,htr.rel i⟩
        | cell i ty=>
          have hx:loadV E.tt H ty (t.get Undef i)=some v':=hx
          have hi:=htr.rel i
          unfold loadV at hx
          split at hx
          · rename_i ad hp
            obtain⟨b,o,s⟩:=ad
            rw[hp]at hi
            obtain⟨p,hp2,hpe⟩:=ptr_inv hi
            obtain⟨v,k1,k2⟩:=load_sound hE h hp2 (show load1 H b o (shapeA E.tt ty)=some v' from hx)
            refine⟨v,?_,k2⟩
            simp only[resSem,hpe,asAddr,Sem.run_bind,Sem.run_pure,Result.andThen]
            exact k1
          · cases hx
       obtain⟨v,k1,k2⟩:=this
       refine⟨v :: r,?_,LR.cons k2 g2⟩
       rw[List.mapM_cons]
       simp only[Sem.run_bind,k1,Result.andThen,g1,Sem.run_pure]
theorem tuple_rel {r r':List Value} {v':Value} {H1:Heap} (h:LR ρ r r') (ht:tupleA (some r') H1=.ok v' H'):H'=H1/\VR ρ (if h:(⟨r⟩:Array Value).size=1 then(⟨r⟩:Array Value)[0] else .tuple ⟨r⟩) v':=by
 unfold tupleA at ht
 split at ht
 · rename_i v heq
   cases heq;cases ht
   obtain⟨x,y,rfl,hx,hy⟩:=h.cons_inv
   rw[hy.nil_inv]
   exact⟨rfl,by simpa using hx⟩
 · rename_i vs hne heq
   cases heq;cases ht
   refine⟨rfl,?_⟩
   have:¬(⟨r⟩:Array Value).size=1:=fun e=>by
    have e:r.length=1:=e
    rw[h.1]at e
    obtain⟨x,hx⟩:=List.length_eq_one_iff.1 e
    exact hne x hx
   rw[dif_neg this]
   exact VR.tuple_of h
 · rename_i heq;cases heq
theorem undefer_steps (hE:EnvOk E):∀ {d:List Nat} {H H1:Heap} {ρ:Rho} {w:World} {fr:Frame} {cs:List Frame},undefer d H=some H1->DR ρ d fr.defers->fr.mode=.returning->HR E.ng ρ H w ->
 ∃w1,Steps E.P (lone fr cs w) (lone { fr with defers:=[] } cs w1)/\HR E.ng ρ H1 w1/\Ext ρ H w ρ H1 w1
 | [],H,H1,ρ,w,fr,cs,hu,hd,hm,h=>by
   cases hu
   have:fr.defers=[]:=by cases hfd:fr.defers with|nil=>rfl|cons _ _=>rw[hfd]at hd;cases hd
   have e:{ fr with defers:=[] }=fr:=by rw[<-this]
   rw[e]
   exact⟨w,Steps.refl _ _,h,Ext.refl _ _ _⟩
 | b :: d,H,H1,ρ,w,fr,cs,hu,hd,hm,h=>by
   have hu:(match H.get b with | .deferred true=>undefer d (H.set b (.deferred false))|_=>none)=some H1:=hu
   cases hb:H.get b<;>rw[hb]at hu<;>try (cases hu;done)
   rename_i op
   cases op with
   | false=>cases hu
   | true=>
     have hu:undefer d (H.set b (.deferred false))=some H1:=hu
     cases hfd:fr.defers with
     | nil=>rw[hfd]at hd;cases hd
     | cons x ds=>
       rw[hfd]at hd
       cases hd with
       | cons hr hds=>
         rename_i r
         have hobj:=h.obj b
         rw[hb]at hobj
         obtain⟨r',hr',hw⟩:=hobj
         rw[hr]at hr';cases hr'
         simp only[if_true]at hw
         have hlt:=(Array.getElem?_eq_some_iff.1 hw).1
         have halive:H.get b≠.none:=by rw[hb];simp
         have htake:(Instr.takeDeferred r).run E.P w=.ok [] (withObj w r (.deferred none)):=by
          simp only[Instr.takeDeferred,Sem.run_bind]
          have hg:(getObj r).run E.P w=.ok (.deferred (some [])) w:=by simp[getObj,Sem.run,hw]
          have hs:(setObj r (.deferred none)).run E.P w=.ok () (withObj w r (.deferred none)):=by simp[setObj,Sem.run,hw];rfl
          simp only[hg,Result.andThen,Sem.run_bind,hs]
          rfl
         have hstep:Go.step E.P (lone fr cs w)=.next (lone { fr with defers:=ds } cs (withObj w r (.deferred none))):=by
          refine step_lone_go ?_
          have:stepG E.P true { frame:=fr,callers:=cs,status:=.running,dying:=none } w=unwind E.P true fr cs none w:=by simp[stepG,hm]
          rw[this]
          simp[unwind,hfd,Sem.runT_eq,htake,GStep.bare_after]
         have h2:HR E.ng ρ (H.set b (.deferred false)) (withObj w r (.deferred none)):=
          h.setObj halive hr (fun c hc=>by rw[withObj_heap _ _ _ _ hlt,if_neg hc]) ⟨r,hr,by rw[withObj_heap _ _ _ _ hlt,if_pos rfl];rfl⟩
         have he:Ext ρ H w ρ (H.set b (.deferred false)) (withObj w r (.deferred none)):=
          { le:=ρ.le_refl,size:=by rw[withObj_size];exact Nat.le_refl _,keep:=fun c _ hn=>by rw[withObj_heap _ _ _ _ hlt,if_neg (fun e=>hn ⟨b,_,halive,hr,e.symm⟩)],range:=fun c hh=>.inr (Held.set halive hh),
            dom:=fun _ _ hq=>.inl hq,next:=by rw[Heap.next_set];exact Nat.le_refl _,tape:=rfl,os:=rfl,output:=rfl,same:=Shape.of_other (b:=r) (fun c hc=>by rw[withObj_heap _ _ _ _ hlt,if_neg hc]) (fun x t fr e=>by rw[hw]at e;cases e) }
         obtain⟨w1,g1,g2,g3⟩:=undefer_steps hE (fr:={ fr with defers:=ds }) (cs:=cs) hu hds hm h2
         exact⟨w1,Steps.head hstep g1,g2,he.trans g3⟩
theorem leave_fn (hG:EnvGood E) (h:HR E.ng ρ H w) {c:Cx} {d:List Nat} {t:Tr Value} {fr:Frame} {cs:List Frame} {v':Value} (hfn:fr.fn=c.fn) (hm:fr.mode=.returning) (hk:fr.kind=.normal) (hro:fr.roundOf=none) (htr:TR ρ fr.tmps t c.nt) (hd:DR ρ d fr.defers)
 (hl:leaveFn E.tt t (E.ft.get none c.fn) (undefer d H)=.ok v' H'):
 ∃v w' fr',Steps E.P (lone fr cs w) (lone fr' cs w')/\fr'.fn=fr.fn/\fr'.leaving E.P w' (.returned v)/\VR ρ v v'/\HR E.ng ρ H' w'/\Ext ρ H w ρ H' w':=by
 cases hf:E.ft.get none c.fn with
 | none=>rw[hf]at hl;cases hl
 | some fn=>
   rw[hf]at hl
   cases hu:undefer d H with
   | none=>rw[hu]at hl;cases hl
   | some H1=>
     rw[hu]at hl
     simp only[leaveFn]at hl
     obtain⟨w1,g1,g2,g3⟩:=undefer_steps hG.toEnvOk (fr:=fr) (cs:=cs) hu hd hm h
     cases hr:resultA E.tt H1 t fn.results.toList with
     | none=>rw[hr]at hl;cases hl
     | some r'=>
       rw[hr]at hl
       obtain⟨r,k1,k2⟩:=results_rel hG.toEnvOk g2 htr hr
       obtain⟨rfl,k3⟩:=tuple_rel k2 hl
       refine⟨_,w1,{ fr with defers:=[] },g1,rfl,⟨hm,rfl,hk,fn,by rw[<-hG.ft _ _ hf,hfn],?_⟩,k3,g2,g3⟩
       have hres:results fn fr.tmps=(do let vs <-fn.results.mapM (resSem fr.tmps);pure (if h:vs.size=1 then vs[0] else .tuple vs)):=rfl
       rw[hres,Array.mapM_eq_mapM_toList]
       simp[k1,Result.andThen]
end Ex

/- Part of the proof. -/
import Derived.Lib.Overlaps
import Derived.RangeFuncOwn
import Derived.Lib.SmallJoins
import Derived.Test.YtbhnjkegkadodaaGreatDoorG08
set_option linter.all false
set_option maxRecDepth 100000
set_option maxHeartbeats 8000000
namespace Ex
open Go
def oneCell (v:Value):Bool:=match v with | .agg _=>false | .tuple _=>false|_=>true
def withObj (w:World) (c:Nat) (o:Obj):World:={ w with heap:=w.heap.setIfInBounds c o }
theorem withObj_heap (w:World) (c:Nat) (o:Obj) (j:Nat) (hc:c<w.heap.size):(withObj w c o).heap[j]?=if j=c then some o else w.heap[j]?:=by
 simp only[withObj,Array.getElem?_setIfInBounds];by_cases h:c=j
 · subst h;simp[hc]
 · simp[h,Ne.symm h]
theorem withObj_size (w:World) (c:Nat) (o:Obj):(withObj w c o).heap.size=w.heap.size:=by simp[withObj]
theorem withObj_twice (w:World) (c:Nat) (o o':Obj):withObj (withObj w c o) c o'=withObj w c o':=by simp[withObj]
theorem withObj_self {w:World} {c:Nat} {o:Obj} (h:w.heap[c]?=some o):withObj w c o=w:=by
 have hc:=(zqA.1 h)
 obtain⟨a1,he⟩:=hc;cases w with
 | mk heap tape drawn os output=>
   simp only[withObj]
   congr 1
   apply Array.ext';apply List.ext_getElem?;intro j;simp only[Array.getElem?_toList,Array.getElem?_setIfInBounds];by_cases hj:c=j
   · subst hj;simp only[a1,ite_true,if_pos,Array.getElem?_eq_getElem a1];exact congrArg some he.symm
   · simp[hj]
theorem setCell_withObj {w:World} {c o:Nat} {cells:Array Value} {e:TypeId} {fr:Nat × Nat} (h:w.heap[c]?=some (.cells cells e fr)) (v:Value):
 w.setCell ⟨c,o,none⟩ v=withObj w c (.cells (cells.setIfInBounds o v) e fr):=by
 obtain⟨a1,he⟩:=zqA.1 h;simp only[World.setCell,withObj]
 congr 1
 apply Array.ext';apply List.ext_getElem?;intro j;simp only[Array.getElem?_toList,Array.getElem?_setIfInBounds,Array.getElem?_modify];by_cases hj:c=j
 · subst hj;simp[a1,he]
 · simp[hj]
def splice (cells:Array Value) (o:Nat):List Value->Array Value
 | []=>cells
 | v :: l=>splice (cells.setIfInBounds o v) (o+1) l
theorem splice_size:∀(l:List Value) (cells:Array Value) (o:Nat),(splice cells o l).size=cells.size
 | [],_,_=>rfl
 | v :: l,cells,o=>by simp[splice,splice_size l]
theorem splice_get:∀(l:List Value) (cells:Array Value) (o j:Nat),o+l.length<=cells.size ->
 (splice cells o l)[j]?=if o<=j/\j<o+l.length then l[j-o]? else cells[j]?
 | [],cells,o,j,_=>by
   simp only[splice,List.length_nil];rw[if_neg (by omega)]
 | v :: l,cells,o,j,h=>by
   simp only[List.length_cons]at h;simp only[splice];rw[splice_get l _ _ _ (by simp;omega)];simp only[List.length_cons];by_cases h1:o+1<=j/\j<o+1+l.length
   · rw[if_pos h1,if_pos (by omega)];have:j-o=(j-(o+1))+1:=(by omega);rw[this,List.getElem?_cons_succ]
   · rw[if_neg h1];by_cases h2:j=o
     · subst h2;rw[if_pos (by omega)];have:j<cells.size:=(by omega);simp[this]
     · rw[if_neg (by omega),Array.getElem?_setIfInBounds_ne (Ne.symm h2)]
theorem oneCell_spec {v:Value} (h:oneCell v=true):v.oneCell'=true:=by cases v<;>simp_all [oneCell,Value.oneCell']
theorem run_store_cells {P:Program} {c:Nat} {e:TypeId} {fr:Nat × Nat} (o:Nat):∀(vs:List Value) (i:Nat) (cells:Array Value) (w:World),w.heap[c]?=some (.cells cells e fr) ->
 o+i+vs.length<=cells.size → (∀j,j<cells.size->¬(fr.1<=j/\j<fr.2)) → (∀v ∈ vs,oneCell v=true) ->
 (storeCells ⟨c,o,none⟩ vs i).run P w=.ok () (withObj w c (.cells (splice cells (o+i) vs) e fr))
 | [],i,cells,w,hc,_,_,_=>by
   simp only[storeCells,splice,withObj_self hc];rfl
 | v :: l,i,cells,w,hc,hl,hf,h1=>by
   simp only[List.length_cons]at hl;have hadd:(⟨c,o,none⟩:Addr).add i=⟨c,o+i,none⟩:=by unfold Addr.add;split<;>simp_all
   have a1:w.cell? ⟨c,o+i,none⟩=some (cells[o+i]'(by omega)):=by simp[World.cell?,hc]
   have a2:w.frozen? ⟨c,o+i,none⟩=false:=by
     simp only[World.frozen?,hc];have:=hf (o+i) (by omega)
     simpa using this
   have a3:(store ((⟨c,o,none⟩:Addr).add i) v).run P w=.ok () (withObj w c (.cells (cells.setIfInBounds (o+i) v) e fr)):=by
     rw[hadd,run_store P w _ v _ (oneCell_spec (h1 v (by simp)))];simp[a1,a2,setCell_withObj hc]
   have a4:=(zqA.1 hc).1;have ih:=run_store_cells (P:=P) (c:=c) (e:=e) (fr:=fr) o l (i+1) (cells.setIfInBounds (o+i) v) (withObj w c (.cells (cells.setIfInBounds (o+i) v) e fr))
     (by rw[withObj_heap _ _ _ _ a4,if_pos rfl]) (by simp;omega) (by simpa using hf) (fun x hx=>h1 x (by simp[hx]))
   simp only[storeCells,Sem.run_bind,a3,Result.andThen,ih,withObj_twice,splice];rw[show o+(i+1)=o+i+1 by omega]
theorem runTI {P:Program} {t:TypeId} {i:TypeInfo} (h:P.info? t=some i) (w:World):(typeInfo t).run P w=.ok i w:=by
 unfold typeInfo;simp only[Sem.run_bind];show(Result.ok P w).andThen _=_;simp only[Result.andThen];rw[h];rfl
theorem addr_add (c x j:Nat):(⟨c,x,none⟩:Addr).add j=⟨c,x+j,none⟩:=by unfold Addr.add;split<;>simp_all
theorem alloc_new (w:World) (o:Obj):(w.alloc o).heap[w.heap.size]?=some o:=by show(w.heap.push o)[w.heap.size]?=_;simp
theorem _root_.zX (w:Go.World) (o:Go.Obj):(w.alloc o).heap[w.heap.size]?=some o:=alloc_new w o
theorem foldl_push:∀(ns:List Int) (acc:ByteArray),(ns.foldl (fun r n=>r.push (UInt8.ofNat n.toNat)) acc).data.toList=acc.data.toList ++ ns.map fun n=>UInt8.ofNat n.toNat
 | [],acc=>by simp
 | n :: ns,acc=>by
   rw[List.foldl_cons,foldl_push ns];simp[ByteArray.push]
theorem loadBytes_run {P:Program} (w:World) (c:Nat):∀(ns:List Int) (o:Nat) (acc:ByteArray),(∀(j:Nat) v,(ns.map (Value.int .u8))[j]?=some v->w.cell? ⟨c,o+j,none⟩=some v) ->
 ∃r,(Extern.Bytes.loadBytes ⟨c,o,none⟩ ns.length acc).run P w=.ok r w/\r.data.toList=acc.data.toList ++ ns.map fun n=>UInt8.ofNat n.toNat
 | [],o,acc,_=>⟨acc,rfl,by simp⟩
 | n :: ns,o,acc,h=>by
   have h0:=h 0 (.int .u8 n) rfl;obtain⟨r,h1,h2⟩:=loadBytes_run (P:=P) w c ns (o+1) (acc.push n.toNat.toUInt8) (fun j v hv=>by
     have:=h (j+1) v (by simpa using hv)
     rwa [show o+(j+1)=o+1+j by omega]at this)
   refine⟨r,?_,?_⟩
   · simp only[List.length_cons,Extern.Bytes.loadBytes,Sem.run_bind,run_load];have h0:w.cell? ⟨c,o,none⟩=some (.int .u8 n):=h0;simp only[h0,Result.andThen,addr_add];exact h1
   · rw[h2];simp[ByteArray.push]
def Fresh (w w':World):Prop:=w'.os=w.os/\w'.output=w.output/\w'.tape=w.tape/\w.heap.size<=w'.heap.size/\∀c,c<w.heap.size->w'.heap[c]?=w.heap[c]?
theorem Fresh.kept {w w':World} (h:Fresh w w') (may:MemPlace->Prop):w.keptBut w' may:=by
 refine⟨h.1,h.2.1,fun i hi=>?_⟩;rw[h.2.2.2.2 i hi];cases w.heap[i]? with
 | none=>rfl
 | some o=>
   cases o<;>first
    | rfl
    | exact⟨rfl,rfl,rfl,fun _ _=>rfl⟩
    | exact .inr ⟨rfl,rfl⟩
theorem Fresh.frozen {w w':World} (h:Fresh w w') (a:Addr) (ha:a.block<w.heap.size):w'.frozen? a=w.frozen? a:=by
 simp only[World.frozen?,h.2.2.2.2 _ ha]
theorem zat {P:Program} (w:World) (dT sT ty elem:TypeId) (size:Nat) (hu:P.underlying dT=some (.slice elem)) (hs:(P.info? elem).map (·.size)=some size) {c q dLen dCap sLen sCap:Nat} {a:Addr} {cs:List Value} {cells:Array Value} {e:TypeId} {fr:Nat × Nat}
 (hn:cs.length=Nat.min sLen dLen*size) (hsrc:∀j v,cs[j]?=some v->w.cell? (a.add j)=some v) (hc:w.heap[c]?=some (.cells cells e fr)) (hfit:q+cs.length<=cells.size) (hfz:∀o,o<cells.size->¬(fr.1<=o/\o<fr.2)) (h1:∀v ∈ cs,oneCell v=true):
 (Builtin.copy_ #[dT,sT] ty #[.slice (some ⟨c,q,none⟩) dLen dCap,.slice (some a) sLen sCap]).run P w=.ok (goInt (Nat.min sLen dLen)) (withObj w c (.cells (splice cells q cs) e fr)):=by
 have a1:=run_firstCells_some (P:=P) (w:=w) size (Nat.min sLen dLen) a sLen sCap cs hn hsrc;have a3:=run_store_cells (P:=P) q cs 0 cells w hc (by omega) hfz h1;cases hq:P.info? elem with
 | none=>simp[hq]at hs
 | some i=>
   have hi:i.size=size:=by simpa[hq] using hs
   have a2:(Go.sizeOf elem).run P w=.ok size w:=by simp only[Go.sizeOf,Sem.run_bind,runTI hq,Result.andThen,hi];rfl
   simp only[Builtin.copy_,Builtin.lenOf,Sem.run_bind,Sem.run_pure,Result.andThen,run_underlying hu w,a2];simp[run_underlying hu w,a2,a1,Result.andThen,a3]
theorem three_get {front new tail:List Value} {j:Nat}:(front ++ new ++ tail)[j]?=if j<front.length then front[j]? else if j<front.length+new.length then new[j-front.length]? else tail[j-(front.length+new.length)]?:=by
 by_cases h1:j<front.length
 · rw[if_pos h1,List.append_assoc,List.getElem?_append_left h1]
 · rw[if_neg h1];by_cases h2:j<front.length+new.length
   · rw[if_pos h2,List.getElem?_append_left (by simp;omega),List.getElem?_append_right (by omega)]
   · rw[if_neg h2,List.getElem?_append_right (by simp;omega),List.length_append]
theorem splice_front {X:Array Value} {q:Nat} {front new tail:List Value} (hX:∀j v,front[j]?=some v->X[q+j]?=some v) (hfit:q+front.length+new.length+tail.length<=X.size):
 ∀j v,(front ++ new ++ tail)[j]?=some v → (splice (splice X (q+front.length) new) (q+front.length+new.length) tail)[q+j]?=some v:=by
 intro j v hv;have hl:=(List.getElem?_eq_some_iff.1 hv).1;simp only[List.length_append]at hl;rw[three_get]at hv;rw[splice_get _ _ _ _ (by rw[splice_size];omega),splice_get _ _ _ _ (by omega)]
 split at hv
 · rw[if_neg (by omega),if_neg (by omega)];exact hX j v hv
 · split at hv
   · rw[if_neg (by omega),if_pos (by omega),show q+j-(q+front.length)=j-front.length by omega];exact hv
   · rw[if_pos (by omega),show q+j-(q+front.length+new.length)=j-(front.length+new.length) by omega];exact hv
theorem splice_back {X:Array Value} {q:Nat} {front new tail:List Value} (hX:∀j v,front[j]?=some v->X[q+j]?=some v) (hfit:q+front.length+new.length+tail.length<=X.size):
 ∀j v,(front ++ new ++ tail)[j]?=some v → (splice (splice X (q+front.length+new.length) tail) (q+front.length) new)[q+j]?=some v:=by
 intro j v hv;have hl:=(List.getElem?_eq_some_iff.1 hv).1;simp only[List.length_append]at hl;rw[three_get]at hv;rw[splice_get _ _ _ _ (by rw[splice_size];omega),splice_get _ _ _ _ (by omega)]
 split at hv
 · rw[if_neg (by omega),if_neg (by omega)];exact hX j v hv
 · split at hv
   · rw[if_pos (by omega),show q+j-(q+front.length)=j-front.length by omega];exact hv
   · rw[if_neg (by omega),if_pos (by omega),show q+j-(q+front.length+new.length)=j-(front.length+new.length) by omega];exact hv
structure InsWalks (P:Program) (f:FuncId) (size:Nat) (t:TypeId):Prop where
 shift:∀(w:World) (c q n cap i vb vo m vc:Nat) (cells:Array Value) (e:TypeId) (fr:Nat × Nat) (old new:List Value),i<n → 0<m->n+m<=cap->n+m<=1048576->vb≠c ->
  w.heap[c]?=some (.cells cells e fr) → (∀o,o<cells.size->¬(fr.1<=o/\o<fr.2))->old.length=n*size->new.length=m*size → (∀j v,old[j]?=some v->cells[q+j]?=some v)->q+(n+m)*size<=cells.size ->
  (∀j v,new[j]?=some v->w.cell? ⟨vb,vo+j,none⟩=some v) → (∀v ∈ old,oneCell v=true) → (∀v ∈ new,oneCell v=true) ->
  ∀(tA tB:TypeId) (kA kB:Nat),w.shape? vb=some (tA,kA)->w.shape? c=some (tB,kB)->kB≠0->w.frozen? ⟨vb,vo,none⟩=false->w.frozen? ⟨vb,kA,none⟩=false ->
  Calls P f #[.slice (some ⟨c,q,none⟩) n cap,.int .i64 i,.slice (some ⟨vb,vo,none⟩) m vc] w fun x w'=>
   x=.returned (.slice (some ⟨c,q,none⟩) (n+m) cap)/\w'=withObj w.drew c (.cells (splice (splice cells (q+(i+m)*size) (old.drop (i*size))) (q+i*size) new) e fr)
 grow:∀(w:World) (c q n cap i vb vo m vc:Nat) (cells:Array Value) (e:TypeId) (fr:Nat × Nat) (old new:List Value),i<n → 0<m->n<=cap->cap<n+m->n+m<=1048576 ->
  w.heap[c]?=some (.cells cells e fr)->old.length=n*size->new.length=m*size → (∀j v,old[j]?=some v->cells[q+j]?=some v) ->
  (∀j v,new[j]?=some v->w.cell? ⟨vb,vo+j,none⟩=some v) → (∀v ∈ old,oneCell v=true) → (∀v ∈ new,oneCell v=true) ->
  Calls P f #[.slice (some ⟨c,q,none⟩) n cap,.int .i64 i,.slice (some ⟨vb,vo,none⟩) m vc] w fun x w'=>
   ∃(ROW:Array Value) (G:Nat) (e':TypeId),n+m<=G/\ROW.size=G*size/\(∀j v,j<i*size->old[j]?=some v->ROW[j]?=some v)/\x=.returned (.slice (some ⟨w.heap.size,0,none⟩) (n+m) G) /\
   w'.heap=w.heap.push (.cells (splice (splice ROW (i*size) new) ((i+m)*size) (old.drop (i*size))) e')/\w'.tape=w.tape/\w'.os=w.os/\w'.output=w.output
 atEnd:∀(w w1:World) (c q n cap vb vo m vc:Nat) (r:Value),0<m->n<=cap ->
  (Builtin.append_ #[t,t] t #[.slice (some ⟨c,q,none⟩) n cap,.slice (some ⟨vb,vo,none⟩) m vc]).run P w=.ok r w1 ->
  Calls P f #[.slice (some ⟨c,q,none⟩) n cap,.int .i64 n,.slice (some ⟨vb,vo,none⟩) m vc] w fun x w'=>x=.returned r/\w'=w1
end Ex
namespace Gl
open Go Go.Proofs Go.ChangeShapes Go.WideShapes Go.ChangeAt Go.RowKit Go.Joins
section
variable {H:Type} {enc:TypeId × Value->H} {P:Program}
theorem trodAll_carry {w w':World} {base:Nat} {spare:Nat->Bool} {held:Bool}:∀ {ts:List TypeId} {vs:List Value} {ds:List (DataW H)} {ps:List MemPlace},DataW.TrodAll enc P w base spare held ts vs ds ps → (∀p ∈ ps,w.sameAt w' p)->DataW.TrodAll enc P w' base spare held ts vs ds ps
 | [],[],[],_,h,_=>h
 | _ :: _,_ :: _,_ :: _,_,⟨p,q,⟨n,h1⟩,h2,e⟩,hs=>⟨p,q,⟨n,DataW.trod_carry n _ _ _ h1 (fun x hx=>hs x (by rw[e];exact List.mem_append_left _ hx))⟩,trodAll_carry h2 (fun x hx=>hs x (by rw[e];exact List.mem_append_right _ hx)),e⟩
theorem same_of_fresh {W W':World} (hF:Ex.Fresh W W') {p:MemPlace} (hp:p.block<W.heap.size):W.sameAt W' p:=by
 have h:=hF.2.2.2.2 p.block hp;cases p with
 | cell b off=>unfold World.sameAt;simp only[World.cell?,MemPlace.block]at h ⊢;rw[h]
 | map b=>exact h
theorem post_fresh {f:Func} {s:ChangeSpec} {apart fresh handsOn again:Bool} {W W':World} {args:Array Value} {v:Value} {ds:List (DataW H)} {before:List MemPlace} {T:TypeId->Prop}
 (hW:DataW.Whole enc P f.params.toList s.vars apart W args.toList ds [] before) (hv:s.vars=[])
 (K:Kids P T) (hz:∀t e,T t->P.underlying t=some (.slice e) → 0<P.cellsOf e) (hT:∀t ∈ f.params.toList,T t)
 (hfa:(s.fn H (ds ++ [])).args=ds) (hfv:(s.fn H (ds ++ [])).vars=[])
 (hres:∀(b:Nat) (sp:Nat->Bool) (hd:Bool),DataW.TrodAll enc P W' b sp hd f.resultTypes.toList (v.resultList f.resultTypes.size) (s.fn H (ds ++ [])).results [])
 (hF:Ex.Fresh W W')
 (hok:∀(j:Nat) (t:TypeId) (r:Value),f.resultTypes[j]?=some t → (v.resultList f.resultTypes.size)[j]?=some r->Value.okWide P W' .any 0 t r):
 s.post enc P f apart fresh handsOn again W args v W':=by
 have hold:∀p ∈ before,(fun b=>decide (b<W.heap.size)) p.block=true:=fun p hp=>by simpa using hW.lt p hp
 have a3:=hW.lt;obtain⟨pa,pv,hA,hV,a5,a8,hn⟩:=id hW;rw[hv]at hV;have a6:pv=[]:=by
  have a7:DataW.TrodVars enc P W (fun _=>true) [] [] pv:=hV;exact a7
 subst a6;rw[List.append_nil]at a5;subst a5;have a1:∀sp:Nat->Bool,(∀p ∈ before,sp p.block=true)->DataW.TrodAll enc P W' 0 sp true f.params.toList args.toList (s.fn H (ds ++ [])).args before:=fun sp hsp=>by
  rw[hfa];exact trodAll_carry (hA.respare K hz hT hsp) (fun p hp=>same_of_fresh hF (a3 p hp))
 have a2:∀sp:Nat->Bool,DataW.TrodVars enc P W' sp s.vars (s.fn H (ds ++ [])).vars []:=fun sp=>by
  rw[hv,hfv];rfl
 refine⟨ds,[],before,[],before,[],hW,hres _ _ _,a1 _ hold,a2 _,World.keptBut_mono (fun p hp=>⟨hp,Or.inr (Or.inl hp)⟩) (hF.kept (· ∈ before)),fun _=>?_⟩;refine⟨hok,_,_,([] ++ before) ++ [],⟨[] ++ before,[],trodAll_append (a1 _ (fun _ _=>rfl)) (hres _ _ _),a2 _,rfl,?_,?_⟩,?_⟩
 · intro b off hp;have a4:MemPlace.cell b off ∈ before:=by simpa using hp
   rw[hF.frozen _ (a3 _ a4)];exact a8 b off (by simpa using a4)
 · intro ha;have:=hn ha
   simpa using this
 · intro p hp _
   simpa using hp
end
end Gl
namespace Gl
open Go Go.Proofs Go.ChangeShapes Go.WideShapes Go.ChangeAt Go.RowKit Go.Joins Go.Deep
theorem addr_add_add (a:Addr) (i j:Nat):(a.add i).add j=a.add (i+j):=by
 unfold Addr.add;by_cases hi:i=0
 · subst hi;simp
 · by_cases hj:j=0
   · subst hj;simp
   · rw[if_neg hi,if_neg hj,if_neg (by omega)];simp[Nat.add_assoc]
end Gl

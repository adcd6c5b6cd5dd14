/- A part of the proof of the statement of this seat: no condition. -/
import Derived.Test.YtbhnjkegkadodaaGreatDoorQ0b
import Derived.Test.YtbhnjkegkadodaaGreatDoorQ12
import Derived.Test.YtbhnjkegkadodaaGreatDoorQ15
import Derived.Test.YtbhnjkegkadodaaGreatDoorQ00
import Derived.Test.YtbhnjkegkadodaaGreatDoorQ11
import Derived.Deep.DeepCutAuto
import Derived.Test.YtbhnjkegkadodaaGreatDoorQ16
set_option linter.unusedVariables false
set_option linter.unusedSimpArgs false
set_option maxRecDepth 100000
set_option maxHeartbeats 8000000
namespace F1
open Gl
theorem find_put (l:List Rec) (x:Rec) (p:Nat):findR (putR l x) p=if p=x.1 then some x else findR l p:=by
 have hlt:∀(m:List Rec),p<x.1 → (m.filter fun y=>decide (y.1<x.1)).find? (fun y=>y.1 == p)=m.find? fun y=>y.1 == p:=fun m hp=>by
  induction m with
  | nil=>rfl
  | cons y m ih=>
    by_cases h:y.1<x.1
    · rw[List.filter_cons_of_pos (by simpa using h),List.find?_cons,List.find?_cons,ih]
    · rw[List.filter_cons_of_neg (by simpa using h),ih,List.find?_cons]
      have:(y.1 == p)=false:=by simp;omega
      rw[this]
 have hgt:∀(m:List Rec),x.1<p → (m.filter fun y=>decide (x.1<y.1)).find? (fun y=>y.1 == p)=m.find? fun y=>y.1 == p:=fun m hp=>by
  induction m with
  | nil=>rfl
  | cons y m ih=>
    by_cases h:x.1<y.1
    · rw[List.filter_cons_of_pos (by simpa using h),List.find?_cons,List.find?_cons,ih]
    · rw[List.filter_cons_of_neg (by simpa using h),ih,List.find?_cons]
      have:(y.1 == p)=false:=by simp;omega
      rw[this]
 have hno:∀(m:List Rec),p<=x.1 → (m.filter fun y=>decide (x.1<y.1)).find? (fun y=>y.1 == p)=none:=fun m hp=>List.find?_eq_none.2 fun y hy=>by
  have:=of_decide_eq_true (List.mem_filter.1 hy).2
  simp;omega
 have hno':∀(m:List Rec),x.1<=p → (m.filter fun y=>decide (y.1<x.1)).find? (fun y=>y.1 == p)=none:=fun m hp=>List.find?_eq_none.2 fun y hy=>by
  have:=of_decide_eq_true (List.mem_filter.1 hy).2
  simp;omega
 unfold findR putR
 rw[List.find?_append,List.find?_cons]
 by_cases h:p=x.1
 · rw[if_pos h,hno' l (by omega)]
   have:(x.1 == p)=true:=by simp[h]
   rw[this];rfl
 · have h2:(x.1 == p)=false:=by simp;omega
   rw[if_neg h,h2]
   show((l.filter fun y=>decide (y.1<x.1)).find? (fun y=>y.1 == p)).or ((l.filter fun y=>decide (x.1<y.1)).find? fun y=>y.1 == p)=_
   rcases Nat.lt_or_gt_of_ne h with h|h
   · rw[hlt l h,hno l (by omega)];simp
   · rw[hno' l (by omega),hgt l h];simp
theorem find_del (l:List Rec) (q p:Nat):findR (delR l q) p=if p=q then none else findR l p:=by
 unfold findR delR
 by_cases h:p=q
 · rw[if_pos h]
   refine List.find?_eq_none.2 fun y hy=>?_
   have:=(List.mem_filter.1 hy).2
   simp at this ⊢;omega
 · rw[if_neg h]
   induction l with
   | nil=>rfl
   | cons y l ih=>
     by_cases hy:y.1=q
     · rw[List.filter_cons_of_neg (by simp[hy]),ih,List.find?_cons]
       have:(y.1 == p)=false:=by simp;omega
       rw[this]
     · rw[List.filter_cons_of_pos (by simp[hy]),List.find?_cons,List.find?_cons,ih]
theorem hist_put (S:Sta) (q r c p:Nat):hist { S with h:=putR S.h (q,r,c) } p=if p=q then(r,c) else hist S p:=by
 unfold hist
 show((findR (putR S.h (q,r,c)) p).map _).getD _=_
 rw[find_put]
 split<;>rfl
theorem hist_del (S:Sta) (q p:Nat):hist { S with h:=delR S.h q } p=if p=q then(0,0) else hist S p:=by
 unfold hist
 show((findR (delR S.h q) p).map _).getD _=_
 rw[find_del]
 split<;>rfl
theorem hist_refer (S:Sta) (q p:Nat):hist (refer S q) p=if p=q then((hist S q).1,(hist S q).2+1) else hist S p:=hist_put S q _ _ p
theorem hist_free (S:Sta) (q p:Nat):hist (free S q) p=if p=q then(if(hist S q).2=0 then hist S q else if(hist S q).2=1 then(0,0) else((hist S q).1,(hist S q).2-1)) else hist S p:=by
 unfold free
 split
 · split<;>simp_all
 · split
   · rw[hist_del]
   · rw[hist_put]
theorem mem_put {l:List Rec} {x y:Rec} (h:y ∈ putR l x):y=x\/y ∈ l:=by
 simp only[putR,List.mem_append,List.mem_cons,List.mem_filter]at h
 rcases h with h|h|h
 · exact .inr h.1
 · exact .inl h
 · exact .inr h.1
theorem len_put (l:List Rec) (x:Rec):(putR l x).length<=l.length+1:=by
 have key:∀m:List Rec,(m.filter fun y=>decide (y.1<x.1)).length+(m.filter fun y=>decide (x.1<y.1)).length<=m.length:=fun m=>by
  induction m with
  | nil=>simp
  | cons y m ih=>
    by_cases h1:y.1<x.1
    · have h2:¬x.1<y.1:=by omega
      rw[List.filter_cons_of_pos (by simpa using h1),List.filter_cons_of_neg (by simpa using h2)]
      simp only[List.length_cons];omega
    · rw[List.filter_cons_of_neg (by simpa using h1)]
      by_cases h2:x.1<y.1
      · rw[List.filter_cons_of_pos (by simpa using h2)]
        simp only[List.length_cons];omega
      · rw[List.filter_cons_of_neg (by simpa using h2)]
        simp only[List.length_cons];omega
 have:=key l
 unfold putR
 rw[List.length_append,List.length_cons];omega
theorem hist_mem (S:Sta) (p:Nat):hist S p=(0,0)\/∃x ∈ S.h,x.1=p/\hist S p=x.2:=by
 unfold hist findR
 cases h:S.h.find? (fun y=>y.1 == p) with
 | none=>exact .inl rfl
 | some x=>exact .inr ⟨x,List.mem_of_find?_eq_some h,by simpa using List.find?_some h,rfl⟩
structure Led (S:Sta) (q r M N:Nat):Prop where
 all:∀x ∈ S.h,x.1<=q/\x.2.1<=r/\x.2.2<=M
 cut:∀x ∈ S.c,x.1<=q
 len:S.h.length+S.c.length<=N
 last:(hist S q).1=r/\1<=(hist S q).2
 zero:(hist S 0).1=0
theorem Led.hist_le {S:Sta} {q r M N:Nat} (h:Led S q r M N) (p:Nat):(hist S p).1<=r/\(hist S p).2<=M:=by
 rcases hist_mem S p with e|⟨x,hx,_,e⟩
 · rw[e];exact⟨Nat.zero_le _,Nat.zero_le _⟩
 · rw[e];exact(h.all x hx).2
theorem led_put {S:Sta} {q r M N:Nat} (h:Led S q r M N) {p x c:Nat} (hp:p<=q) (hx:x<=r):(∀y ∈ putR S.h (p,x,c),y.1<=q/\y.2.1<=r/\y.2.2<=max M c)/\(putR S.h (p,x,c)).length+S.c.length<=N+1:=by
 refine⟨fun y hy=>?_,by have:=len_put S.h (p,x,c);have:=h.len;omega⟩
 rcases mem_put hy with rfl|hy
 · exact⟨hp,hx,Nat.le_max_right _ _⟩
 · have:=h.all y hy;exact⟨this.1,this.2.1,Nat.le_trans this.2.2 (Nat.le_max_left _ _)⟩
theorem Led.refer {S:Sta} {q r M N p:Nat} (h:Led S q r M N) (hp:p<=q):Led (refer S p) q r (M+1) (N+1):=by
 have hh:=h.hist_le p
 have hput:=led_put h (c:=(hist S p).2+1) hp hh.1
 refine⟨fun y hy=>?_,h.cut,hput.2,?_,?_⟩
 · have:=hput.1 y hy;exact⟨this.1,this.2.1,by omega⟩
 · rw[hist_refer];split
   · rename_i e;subst e;exact⟨h.last.1,by show 1<=(hist S q).2+1;omega⟩
   · exact h.last
 · rw[hist_refer];split
   · rename_i e;subst e;exact h.zero
   · exact h.zero
theorem Led.free {S:Sta} {q r M N p:Nat} (h:Led S q r M N) (hp:p<q\/(p=q/\2<=(hist S q).2)):Led (free S p) q r M (N+1):=by
 have hh:=h.hist_le p
 have hlast:(hist (F1.free S p) q).1=r/\1<=(hist (F1.free S p) q).2:=by
  rw[hist_free]
  by_cases e:q=p
  · subst e
    have h2:2<=(hist S q).2:=by omega
    rw[if_pos rfl,if_neg (by omega),if_neg (by omega)]
    exact⟨h.last.1,by show 1<=(hist S q).2-1;omega⟩
  · rw[if_neg e];exact h.last
 have hzero:(hist (F1.free S p) 0).1=0:=by
  rw[hist_free]
  split
  · rename_i e;subst e
    split
    · exact h.zero
    · split
      · rfl
      · exact h.zero
  · exact h.zero
 refine⟨fun y hy=>?_,fun x hx=>?_,?_,hlast,hzero⟩
 · unfold F1.free at hy
   split at hy
   · exact h.all y hy
   · split at hy
     · exact h.all y (List.mem_filter.1 hy).1
     · have:=(led_put h (c:=(hist S p).2-1) (show p<=q by omega) hh.1).1 y hy
       exact⟨this.1,this.2.1,by omega⟩
 · unfold F1.free at hx
   split at hx
   · exact h.cut x hx
   · split at hx<;>exact h.cut x hx
 · have hl:=h.len
   unfold F1.free
   split
   · omega
   · split
     · show(delR S.h p).length+S.c.length<=_
       have:=List.length_filter_le (fun y:Rec=>!(y.1 == p)) S.h
       unfold delR;omega
     · exact(led_put h (c:=(hist S p).2-1) (show p<=q by omega) hh.1).2
theorem Led.next {S:Sta} {q r M N x:Nat} (h:Led S q r M N) (hM:1<=M):Led { S with h:=putR S.h (q+1,r+x,1) } (q+1) (r+x) M (N+1):=by
 refine⟨fun y hy=>?_,fun y hy=>Nat.le_succ_of_le (h.cut y hy),by have:=len_put S.h (q+1,r+x,1);have:=h.len;show(putR S.h _).length+S.c.length<=_;omega,by rw[hist_put,if_pos rfl];exact⟨rfl,Nat.le_refl _⟩,by rw[hist_put,if_neg (by omega)];exact h.zero⟩
 rcases mem_put hy with rfl|hy
 · exact⟨Nat.le_refl _,Nat.le_refl _,hM⟩
 · have:=h.all y hy;exact⟨by omega,by omega,this.2.2⟩
theorem close_eq {S:Sta} {q r M N:Nat} (h:Led S q r M N) (tok cur:Nat):close S (q+1) tok cur=F1.free { S with h:=putR S.h (q+1,r+(if tok=0 then 0 else cur / tok),1) } q:=by
 unfold close;rw[Nat.add_sub_cancel,h.last.1]
theorem Led.close {S:Sta} {q r M N:Nat} (h:Led S q r M N) (tok cur:Nat) (hM:1<=M):Led (close S (q+1) tok cur) (q+1) (r+(if tok=0 then 0 else cur / tok)) M (N+2):=by
 rw[close_eq h]
 exact(h.next (x:=if tok=0 then 0 else cur / tok) hM).free (.inl (Nat.lt_succ_self q))
theorem free_cc (S:Sta) (p:Nat):(F1.free S p).c=S.c:=by
 unfold F1.free
 split
 · rfl
 · split<;>rfl
theorem close_cc (S:Sta) (p t g:Nat):(F1.close S p t g).c=S.c:=by unfold F1.close;rw[free_cc]
def Held (S:Sta) (q p r:Nat):Prop:=(hist S p).1=r/\(if p=q then 2 else 1)<=(hist S p).2
theorem Held.close {S:Sta} {q r M N p x:Nat} (h:Held S q p x) (hl:Led S q r M N) (hp:p<=q) (tok cur:Nat):Held (F1.close S (q+1) tok cur) (q+1) p x:=by
 rw[close_eq hl]
 unfold Held at h ⊢
 have e1:(if p=q+1 then 2 else 1)=1:=if_neg (by omega)
 have e2:∀T:Nat × Nat,(if p=q+1 then T else hist S p)=hist S p:=fun T=>if_neg (by omega)
 rw[e1,hist_free,hist_put,hist_put,e2]
 by_cases e:p=q
 · subst e
   have e3:∀T:Nat × Nat,(if p=p+1 then T else hist S p)=hist S p:=fun T=>if_neg (by omega)
   rw[if_pos rfl]at h
   rw[if_pos rfl,e3,if_neg (by omega),if_neg (by omega)]
   exact⟨h.1,by show 1<=(hist S p).2-1;omega⟩
 · rw[if_neg e]at h
   rw[if_neg e]
   exact h
theorem Held.free {S:Sta} {q p x:Nat} (h:Held S q p x) (hp:p<=q):p<q\/(p=q/\2<=(hist S q).2):=by
 rcases Nat.lt_or_ge p q with h1|h1
 · exact .inl h1
 · have e:p=q:=by omega
   subst e
   have:=h.2
   rw[if_pos rfl]at this
   exact .inr ⟨rfl,this⟩
theorem Held.refer {S:Sta} {q p x y:Nat} (h:Held S q p x):Held (F1.refer S y) q p x:=by
 unfold Held at h ⊢
 rw[hist_refer]
 by_cases e:p=y
 · subst e;rw[if_pos rfl];exact⟨h.1,by show _<=(hist S p).2+1;omega⟩
 · rw[if_neg e];exact h
theorem Led.held {S:Sta} {q r M N:Nat} (h:Led S q r M N):Held (F1.refer S q) q q r:=by
 unfold Held
 rw[hist_refer,if_pos rfl,if_pos rfl]
 exact⟨h.last.1,by show 2<=(hist S q).2+1;have:=h.last.2;omega⟩
end F1
namespace Go.Proofs.YtbhnjkegkadodaaGreatDoor
theorem okay_led {S:F1.Sta} {q r M N:Nat} (h:F1.Led S q r M N) (hq:q<18446744073709551616) (hr:r<Gn.B ^ 30) (hM:M<18446744073709551616) (hN:N<=100000):Okay S:=by
 have hb:r<256 ^ 240:=by
  have:Gn.B=256 ^ 8:=by decide
  rw[this,<-Nat.pow_mul]at hr;exact hr
 exact⟨⟨fun x hx=>Nat.lt_of_le_of_lt (h.all x hx).1 hq,fun x hx=>Nat.lt_of_le_of_lt (h.cut x hx) hq⟩,fun x hx=>⟨Nat.le_trans (F1.nb_le (Nat.lt_of_le_of_lt (h.all x hx).2.1 hb)) (by omega),Nat.lt_of_le_of_lt (h.all x hx).2.2 hM⟩,Nat.le_trans h.len hN⟩
end Go.Proofs.YtbhnjkegkadodaaGreatDoor
namespace Go.Proofs.YtbhnjkegkadodaaGreatDoor
open Go Go.RowKit Go.Proofs Gl
abbrev Blk:=Nat × Nat × Array Value
def PO (F:Nat->Prop) (bs:Nat) (own:List Blk):Nat->Prop:=fun b=>(¬F b/\b≠bs)/\∀x ∈ own,b≠x.1
structure LG (w:World) (F0 F:Nat->Prop) (bs:Nat) (L:List Ent) (own:List Blk) (W:World):Prop where
 sf:SF F bs W L
 st:Step F0 F bs w W
 blk:∀x ∈ own,W.heap[x.1]?=some (.cells x.2.2 x.2.1 (0,0))
 off:∀x ∈ own,¬F x.1/\x.1≠bs/\w.heap.size<=x.1
 nd:(own.map (·.1)).Pairwise (· ≠ ·)
end Go.Proofs.YtbhnjkegkadodaaGreatDoor
namespace Go.Proofs.YtbhnjkegkadodaaGreatDoor
open Go Go.RowKit Go.Proofs Gl
section
variable {w W W':World} {F0 F F':Nat->Prop} {bs n c x b t i j:Nat} {L L':List Ent} {own:List Blk} {cs cs':Array Value} {A:Option Addr} {v:Value}
theorem LG.begin (h:SF F bs w L):LG w F F bs L [] w:=⟨h,Step.refl _ _ _,fun x hx=>(by cases hx),fun x hx=>(by cases hx),List.Pairwise.nil⟩
theorem LG.lt (h:LG w F0 F bs L own W) {x:Blk} (hx:x ∈ own):x.1<W.heap.size:=(Array.getElem?_eq_some_iff.1 (h.blk x hx)).1
theorem LG.step (h:LG w F0 F bs L own W) (st:Step F F' bs W W') (hs:SF F' bs W' L'):LG w F0 F' bs L' own W':=
 ⟨hs,h.st.trans st,fun x hx=>(st.block (h.lt hx) (h.off x hx).1 (h.off x hx).2.1).trans (h.blk x hx),fun x hx=>⟨fun hf=>(st.sub _ hf).elim (h.off x hx).1 (fun hh=>by have:=h.lt hx;omega),(h.off x hx).2⟩,h.nd⟩
theorem LG.nw (h:LG w F0 F bs L own W) (hu:New W W'):LG w F0 F bs L own W':=h.step (Step.of_new hu) (h.sf.new hu)
theorem LG.bsd (h:LG w F0 F bs L own W) (hu:Upd (fun b=>b=bs) W W') (hs:SF F bs W' L):LG w F0 F bs L own W':=h.step ⟨fun b hb=>.inl hb,hu.mono (fun _ _ e=>.inr e)⟩ hs
theorem LG.alloc (h:LG w F0 F bs L own W) (cs:Array Value) (t:Nat):LG w F0 F bs L ((W.heap.size,t,cs) :: own) (W.alloc (.cells cs t)):=by
 have hn:New W (W.alloc (.cells cs t)):=Upd.alloc _ _ _
 have h2:=h.nw hn
 refine⟨h2.sf,h2.st,fun x hx=>?_,fun x hx=>?_,?_⟩
 · rcases List.mem_cons.1 hx with rfl|hx
   · exact Ex.alloc_new W _
   · exact h2.blk x hx
 · rcases List.mem_cons.1 hx with rfl|hx
   · have:=h.sf.off_new (Nat.le_refl W.heap.size);exact⟨this.1,this.2,h.st.upd.size⟩
   · exact h2.off x hx
 · rw[List.map_cons,List.pairwise_cons]
   refine⟨fun y hy e=>?_,h.nd⟩
   obtain⟨x,hx,rfl⟩:=List.mem_map.1 hy
   have:=h.lt hx
   have e:W.heap.size=x.1:=e
   omega
theorem pair_ne {own:List Blk} (h:(own.map (·.1)).Pairwise (· ≠ ·)) {i j:Nat} {x y:Blk} (hi:own[i]?=some x) (hj:own[j]?=some y) (hne:i≠j):x.1≠y.1:=by
 have hi':(own.map (·.1))[i]?=some x.1:=by rw[List.getElem?_map,hi];rfl
 have hj':(own.map (·.1))[j]?=some y.1:=by rw[List.getElem?_map,hj];rfl
 obtain⟨h1,e1⟩:=List.getElem?_eq_some_iff.1 hi'
 obtain⟨h2,e2⟩:=List.getElem?_eq_some_iff.1 hj'
 rw[<-e1,<-e2]
 rcases Nat.lt_or_gt_of_ne hne with hh|hh
 · exact List.pairwise_iff_getElem.1 h i j h1 h2 hh
 · exact Ne.symm (List.pairwise_iff_getElem.1 h j i h2 h1 hh)
theorem LG.set (h:LG w F0 F bs L own W) (hi:own[i]?=some (b,t,cs)) (hu:Upd (fun c=>c=b) W W') (hk:W'.heap[b]?=some (.cells cs' t (0,0))):LG w F0 F bs L (own.set i (b,t,cs')) W':=by
 have hm:(b,t,cs) ∈ own:=List.mem_of_getElem? hi
 have ho:=h.off _ hm
 have key:∀x ∈ own.set i (b,t,cs'),x=(b,t,cs')\/(x ∈ own/\x.1≠b):=fun x hx=>by
  obtain⟨j,hj⟩:=List.getElem?_of_mem hx
  by_cases e:i=j
  · subst e
    have hlt:i<own.length:=(List.getElem?_eq_some_iff.1 hi).1
    rw[List.getElem?_set_self hlt]at hj;cases hj;exact .inl rfl
  · rw[List.getElem?_set_ne e]at hj
    exact .inr ⟨List.mem_of_getElem? hj,fun e2=>pair_ne h.nd hi hj e e2.symm⟩
 refine⟨h.sf.upd_off hu (fun c hc e=>ho.1 ((show c=b from e)▸hc)) (fun e=>ho.2.1 e.symm),h.st.off hu (fun c hc=>(show c=b from hc)▸ho.2.2),fun x hx=>?_,fun x hx=>?_,?_⟩
 · rcases key x hx with rfl|⟨hx,hne⟩
   · exact hk
   · exact(hu.block _ (h.lt hx) hne).trans (h.blk x hx)
 · rcases key x hx with rfl|⟨hx,_⟩
   · exact ho
   · exact h.off x hx
 · have e:(own.set i (b,t,cs')).map (·.1)=own.map (·.1):=by
    rw[List.map_set]
    refine List.ext_getElem? fun j=>?_
    by_cases e:i=j
    · subst e
      have hlt:i<(own.map (·.1)).length:=by rw[List.length_map];exact(List.getElem?_eq_some_iff.1 hi).1
      rw[List.getElem?_set_self hlt,List.getElem?_map,hi];rfl
    · rw[List.getElem?_set_ne e]
   rw[e];exact h.nd
theorem LG.k (h:LG w F0 F bs L own W) (hi:own[i]?=some (b,t,cs)):W.heap[b]?=some (.cells cs t (0,0)):=h.blk _ (List.mem_of_getElem? hi)
theorem LG.new (h:LG w F0 F bs L own W) {w0:World} (h0:New w0 w) (hF:∀b,F0 b->w0.heap.size<=b) (hb:w0.heap.size<=bs):New w0 W:=h0.then h.st.upd (fun b hb2 hh=>hh.elim (fun hf=>by have:=hF b hf;omega) (fun e=>by omega))
theorem LG.gF (h:LG w F0 F bs L own W) {w0:World} (h0:New w0 w) (hF:∀b,F0 b->w0.heap.size<=b):∀b,F b->w0.heap.size<=b:=fun b hb=>(h.st.sub b hb).elim (hF b) (fun hh=>Nat.le_trans h0.size hh)
theorem LN.po_step (hl:LN (PO F bs own) W A n c x) (st:Step F F' bs W W'):LN (PO F' bs own) W' A n c x:=
 ((hl.mono (Q':=fun b=>PO F bs own b/\b<W.heap.size) (fun b hb hq=>⟨hq,hb⟩)).upd st.upd (fun b hq h=>h.elim hq.1.1.1 hq.1.1.2)).mono (fun b _ hq=>⟨⟨fun hf=>(st.sub b hf).elim hq.1.1.1 (fun h=>by omega),hq.1.1.2⟩,hq.1.2⟩)
theorem LN.po_new (hl:LN (PO F bs own) W A n c x) (hu:New W W'):LN (PO F bs own) W' A n c x:=hl.po_step (Step.of_new hu)
theorem LN.po_bs (hl:LN (PO F bs own) W A n c x) (hu:Upd (fun b=>b=bs) W W'):LN (PO F bs own) W' A n c x:=hl.upd hu (fun b hq e=>hq.1.2 e)
theorem LN.po_alloc (hl:LN (PO F bs own) W A n c x) (cs:Array Value) (t:Nat):LN (PO F bs ((W.heap.size,t,cs) :: own)) (W.alloc (.cells cs t)) A n c x:=
 ((hl.mono (Q':=fun b=>PO F bs own b/\b<W.heap.size) (fun b hb hq=>⟨hq,hb⟩)).new (Upd.alloc _ _ _)).mono (fun b _ hq=>⟨hq.1.1,fun y hy e=>by
   rcases List.mem_cons.1 hy with rfl|hy
   · have e:b=W.heap.size:=e;omega
   · exact hq.1.2 y hy e⟩)
theorem LN.po_set (hl:LN (PO F bs own) W A n c x) (hi:own[i]?=some (b,t,cs)) (hu:Upd (fun c=>c=b) W W'):LN (PO F bs (own.set i (b,t,cs'))) W' A n c x:=
 (hl.upd hu (fun y hq e=>hq.2 _ (List.mem_of_getElem? hi) e)).mono (fun y _ hq=>⟨hq.1,fun z hz=>by
   obtain⟨j,hj⟩:=List.getElem?_of_mem hz
   by_cases e:i=j
   · subst e
     have hlt:i<own.length:=(List.getElem?_eq_some_iff.1 hi).1
     rw[List.getElem?_set_self hlt]at hj;cases hj;exact(show y≠b from hq.2 (b,t,cs) (List.mem_of_getElem? hi))
   · rw[List.getElem?_set_ne e]at hj
     exact hq.2 _ (List.mem_of_getElem? hj)⟩)
theorem LN.po_of (hl:LN (NB W) W' A n c x) (h:LG w F0 F bs L own W):LN (PO F bs own) W' A n c x:=hl.mono (fun b _ hb=>by
 have hb:W.heap.size<=b:=hb
 exact⟨h.sf.off_new hb,fun y hy e=>by have:=h.lt hy;omega⟩)
theorem LN.po_off (hl:LN (PO F bs own) W A n c x):LN (fun b=>b≠bs) W A n c x:=hl.mono (fun b _ hb=>hb.1.2)
end
end Go.Proofs.YtbhnjkegkadodaaGreatDoor
namespace Go.Proofs.YtbhnjkegkadodaaGreatDoor
open Go Go.RowKit Go.Proofs Gl
def Gs (w:World) (Ag:Option Addr) (gs:List Nat):Prop:=∀j g,gs[j]?=some g->∃b off A n c,Ag=some ⟨b,off,none⟩/\w.cell? ⟨b,off+j,none⟩=some (.slice A n c)/\n<=4/\LQ (fun x=>x<w.heap.size) w A n c g
theorem gs_of {w:World} {Ag:Option Addr}:∀ {n:Nat},(∀j,j<n->∃b off A m c g,Ag=some ⟨b,off,none⟩/\w.cell? ⟨b,off+j,none⟩=some (.slice A m c)/\m<=4/\LQ (fun x=>x<w.heap.size) w A m c g)->∃gs:List Nat,gs.length=n/\Gs w Ag gs
 | 0,_=>⟨[],rfl,fun j g h=>by simp at h⟩
 | n+1,h=>by
   obtain⟨gs,hl,hg⟩:=gs_of (n:=n) (fun j hj=>h j (by omega))
   obtain⟨b,off,A,m,c,g,h1,h2,h3,h4⟩:=h n (by omega)
   refine⟨gs ++ [g],by simp[hl],fun j x hx=>?_⟩
   rcases Nat.lt_or_ge j gs.length with hj|hj
   · rw[List.getElem?_append_left hj]at hx;exact hg j x hx
   · have hj2:j=n:=by
      have:=(List.getElem?_eq_some_iff.1 hx).1
      simp at this;omega
     subst hj2
     rw[List.getElem?_append_right hj,hl,Nat.sub_self]at hx
     cases hx
     exact⟨b,off,A,m,c,h1,h2,h3,h4⟩
theorem lshort_c {w:World} {Ag:Option Addr} {ng cg:Nat} (hg:Giv w Ag ng):
 Calls Tryz.prog 38 #[.slice Ag ng cg] w fun e w'=>(∃b,e=.returned (.bool b)/\(b=true↔ng<=20/\∃gs:List Nat,gs.length=ng/\Gs w Ag gs))/\w'=w:=by
 have HG:=Lib.hid hg
 clear hg
 go_enter Tryz.func38,Tryz.ntmps38
 go_wp2
 go_loopw [3] (fun i wr=>∃(j:Nat),j<=ng/\j<=21/\i=.int .i64 (j:Int)/\wr=w/\Hid (∀k,k<j->∃b off A m c g,Ag=some ⟨b,off,none⟩/\w.cell? ⟨b,off+k,none⟩=some (.slice A m c)/\m<=4/\LQ (fun x=>x<w.heap.size) w A m c g)) (fun i _=>ng-(intOf i).toNat)
 case atStart=>exact⟨0,by omega,by omega,rfl,rfl,Lib.hid (fun k hk=>by omega)⟩
 case round=>
  obtain⟨j,hj,hj2,rfl,rfl,hI⟩:=hrel
  by_cases hjn:j<ng
  · by_cases hj3:j<=20
    · obtain⟨b,off,A,m,c,rfl,hc,hlq⟩:=HG.out j hjn
      by_cases h4:m<=4
      · obtain⟨g,hlq⟩:=hlq h4
        have HN:=Lib.hid (show ∀k,k<j+1->∃b' off' A m c g,(some ⟨b,off,none⟩:Option Addr)=some ⟨b',off',none⟩/\wr.cell? ⟨b',off'+k,none⟩=some (.slice A m c)/\m<=4/\LQ (fun x=>x<wr.heap.size) wr A m c g from fun k hk=>by
         rcases Nat.lt_or_ge k j with h|h
         · exact hI.out k h
         · have:k=j:=by omega
           subst this
           exact⟨b,off,A,m,c,g,rfl,hc,h4,hlq⟩)
        clear hlq hI
        go_wp2
        exact⟨⟨j+1,by omega,by omega,by congr 1,by trivial,HN⟩,by simp[intOf];omega⟩
      · clear hlq
        go_wp2
        go_ret
        refine⟨⟨false,by simp,fun h=>(by cases h),fun⟨_,gs,hl,hg⟩=>?_⟩,rfl⟩
        obtain⟨b',off',A',m',c',e,hc',h4',_⟩:=hg j _ (List.getElem?_eq_getElem (by omega))
        cases e
        have hcc:=hc.symm.trans hc'
        simp only[Option.some.injEq,Value.slice.injEq]at hcc
        exact absurd (hcc.2.1▸h4') h4
    · go_wp2
      go_ret
      exact⟨⟨_,rfl,by simp;omega⟩,rfl⟩
  · obtain rfl:j=ng:=by omega
    go_wp2
    go_ret
    refine⟨⟨_,rfl,fun hb=>?_,fun⟨h,_⟩=>by simp;omega⟩,rfl⟩
    have hb:(j:Int)<=20:=by simpa using hb
    exact⟨by omega,gs_of hI.out⟩
def sumq (n:Nat) (gs:List Nat):Nat:=(gs.map (· / n)).sum
theorem sumq_take {n i:Nat} {gs:List Nat} {g:Nat} (h:gs[i]?=some g):sumq n (gs.take (i+1))=sumq n (gs.take i)+g / n:=by
 unfold sumq
 have:gs.take (i+1)=gs.take i ++ [g]:=by rw[List.take_add_one,h];rfl
 rw[this,List.map_append,List.sum_append];simp
theorem close_led {Q F:Nat->Prop} {bs q r M N g n m d n7 c7:Nat} {R A7:Option Addr} {S:F1.Sta} {w:World} (hl:F1.Led S q r M N) (h:SF F bs w (F1.ents S)) (hcur:LQ Q w A7 n7 c7 g) (hn0:0<n) (hn:n<18446744073709551616) (hq:q<=100000) (hr:r+g / n<Gn.B ^ 30) (hM1:1<=M) (hM:M<=100000) (hN:N+1<=100000):
 Calls Tryz.prog 27 #[.pointer (some ⟨bs,0,none⟩),.int .u64 16,.agg #[.int .u64 0,.int .u64 (n:Int),.slice R m d,.bool false,.int .u64 0,.bool false,.int .u64 ((q:Int)+1),.slice A7 n7 c7,.slice none 0 0,.slice none 0 0]] w (StartR F bs w (F1.ents (F1.close S (q+1) n g)) (.tuple #[.agg #[.int .u64 0,.int .u64 (n:Int),.slice R m d,.bool false,.int .u64 0,.bool false,.int .u64 (((q+1:Nat):Int)+1),.slice none 0 0,.slice none 0 0,.slice none 0 0],.agg #[.slice none 0 0]])):=by
 have hr0:r<Gn.B ^ 30:=Nat.lt_of_le_of_lt (Nat.le_add_right _ _) hr
 have e3:(F1.hist S (q+1-1)).1=r:=by rw[Nat.add_sub_cancel];exact hl.last.1
 have hnx:=hl.next (x:=g / n) hM1
 exact close_c (S:=S) (cur:=g) ⟨0,n,R,m,d,false,0,false,q+1,A7,n7,c7,none,0,0,none,0,0⟩ (okay_led hl (by omega) hr0 (by omega) (by omega)) h hcur hn0 hn (Nat.succ_pos q) (show q+1+1<_ by omega) (by show(F1.hist S (q+1-1)).1+g / n<_;rw[e3];exact hr) (by show Okay { S with h:=F1.putR S.h (q+1,(F1.hist S (q+1-1)).1+g / n,1) };rw[e3];exact okay_led hnx (by omega) hr (by omega) hN)
theorem pay_c {w0 w:World} {F:Nat->Prop} {bs n q r M N m d ng cg:Nat} {R Ag:Option Addr} {gs:List Nat} {S:F1.Sta} (h0:New w0 w) (hF0:∀b,F b->w0.heap.size<=b) (hb0:w0.heap.size<=bs) (hgs:Gs w0 Ag gs) (hlen:gs.length=ng) (hng:ng<=20) (hl:F1.Led S q r M N) (h:SF F bs w (F1.ents S)) (hn0:0<n) (hn:n<18446744073709551616) (hq:q<=1000) (hM1:1<=M) (hM:M<=1000) (hN:N<=1000) (hr:r+ng*Gn.B ^ 4<Gn.B ^ 30):
 Calls Tryz.prog 41 #[.pointer (some ⟨bs,0,none⟩),.agg #[.int .u64 0,.int .u64 (n:Int),.slice R m d,.bool false,.int .u64 0,.bool false,.int .u64 ((q:Int)+1),.slice none 0 0,.slice none 0 0,.slice none 0 0],.slice Ag ng cg] w fun e w'=>e=.returned (.agg #[.int .u64 0,.int .u64 (n:Int),.slice R m d,.bool false,.int .u64 0,.bool false,.int .u64 (((q+ng:Nat):Int)+1),.slice none 0 0,.slice none 0 0,.slice none 0 0]) /\
  ∃F' S',SF F' bs w' (F1.ents S')/\Step F F' bs w w'/\F1.Led S' (q+ng) (r+sumq n gs) M (N+2*ng)/\S'.c=S.c/\∀p x,p<=q->F1.Held S q p x->F1.Held S' (q+ng) p x:=by
 obtain⟨W1,hW1⟩:∃W1,W1=w.alloc (.cells #[.int .u64 0,.int .u64 (n:Int),.slice R m d,.bool false,.int .u64 0,.bool false,.int .u64 ((q:Int)+1),.slice none 0 0,.slice none 0 0,.slice none 0 0] 28):=⟨_,rfl⟩
 obtain⟨W2,hW2⟩:∃W2,W2=W1.alloc (.cells #[.int .u64 0,.int .u64 0,.slice none 0 0,.bool false,.int .u64 0,.bool false,.int .u64 0,.slice none 0 0,.slice none 0 0,.slice none 0 0] 28):=⟨_,rfl⟩
 have s1:W1.heap.size=w.heap.size+1:=by rw[hW1];exact alloc_size _ _
 have hg0:LG w F F bs (F1.ents S) [(w.heap.size+1,28,#[.int .u64 0,.int .u64 0,.slice none 0 0,.bool false,.int .u64 0,.bool false,.int .u64 0,.slice none 0 0,.slice none 0 0,.slice none 0 0]),(w.heap.size,28,#[.int .u64 0,.int .u64 (n:Int),.slice R m d,.bool false,.int .u64 0,.bool false,.int .u64 ((q:Int)+1),.slice none 0 0,.slice none 0 0,.slice none 0 0])] W2:=by
  have h1:=(LG.begin h).alloc #[.int .u64 0,.int .u64 (n:Int),.slice R m d,.bool false,.int .u64 0,.bool false,.int .u64 ((q:Int)+1),.slice none 0 0,.slice none 0 0,.slice none 0 0] 28
  rw[<-hW1]at h1
  have h2:=h1.alloc #[.int .u64 0,.int .u64 0,.slice none 0 0,.bool false,.int .u64 0,.bool false,.int .u64 0,.slice none 0 0,.slice none 0 0,.slice none 0 0] 28
  rw[<-hW2,s1]at h2
  exact h2
 have HG0:=Lib.hid hg0;have HL:=Lib.hid hl;have HW0:=Lib.hid (And.intro h0 (And.intro hF0 hb0));have HGS:=Lib.hid (And.intro hgs hlen);have HNN:=Lib.hid (And.intro hn0 hn);have HB:=Lib.hid (show q<=1000/\1<=M/\M<=1000/\N<=1000/\r+ng*Gn.B ^ 4<Gn.B ^ 30 from⟨hq,hM1,hM,hN,hr⟩)
 clear s1 hg0 hl h0 hF0 hb0 hgs hlen hn0 hn hq hM1 hM hN hr h
 go_enter Tryz.func41,Tryz.ntmps41
 go_upto_region 1 with fail
 rw[<-hW1,<-hW2]
 clear hW1 hW2
 obtain⟨b6,hb6⟩:∃b6,b6=w.heap.size+1:=⟨_,rfl⟩
 obtain⟨b4,hb4⟩:∃b4,b4=w.heap.size:=⟨_,rfl⟩
 rw[<-hb6]at HG0 ⊢
 rw[<-hb4]at HG0 ⊢
 clear hb6 hb4
 go_wp2
 go_loopw [7] (fun s7 wr=>∃(i qi:Nat),i<=ng/\s7=.int .i64 (i:Int)/\Hid (qi=q+i)/\Hid (∃(F':Nat->Prop) (S':F1.Sta) (ri:Nat),LG w F F' bs (F1.ents S') [(b6,28,#[.int .u64 0,.int .u64 0,.slice none 0 0,.bool false,.int .u64 0,.bool false,.int .u64 0,.slice none 0 0,.slice none 0 0,.slice none 0 0]),(b4,28,#[.int .u64 0,.int .u64 (n:Int),.slice R m d,.bool false,.int .u64 0,.bool false,.int .u64 ((qi:Int)+1),.slice none 0 0,.slice none 0 0,.slice none 0 0])] wr/\F1.Led S' qi ri M (N+2*i)/\ri=r+sumq n (gs.take i)/\ri<=r+i*Gn.B ^ 4/\S'.c=S.c/\∀p x,p<=q->F1.Held S q p x->F1.Held S' qi p x)) (fun s7 _=>ng-(intOf s7).toNat)
 case atStart=>exact⟨0,q,Nat.zero_le _,rfl,Lib.hid rfl,Lib.hid ⟨F,S,r,HG0.out,HL.out,by simp[sumq],by simp,rfl,fun p x _ hh=>hh⟩⟩
 case round=>
  obtain⟨i,qi,hi,rfl,hqi,hI⟩:=hrel
  obtain⟨F1',S1,ri,hI⟩:=hI.out
  have HI:=Lib.hid hI
  clear hI
  by_cases hin:i<ng
  · obtain⟨g,hgi⟩:∃g,gs[i]?=some g:=⟨_,List.getElem?_eq_getElem (by rw[HGS.out.2];exact hin)⟩
    obtain⟨bg,og,Ai,ni,ci,rfl,hce,hn4,hgl⟩:=HGS.out.1 i g hgi
    have hnw:=HI.out.1.new HW0.out.1 HW0.out.2.1 HW0.out.2.2
    have hcw:wr.cell? ⟨bg,og+i,none⟩=some (.slice Ai ni ci):=(hnw.cell (a:=⟨bg,og+i,none⟩) (World.block_lt_of_cell? w0 _ hce) id).trans hce
    have k4:=HI.out.1.k (i:=1) rfl
    have x7:=cell_of k4 7 _ rfl
    have z7:=frozen_of k4 7
    have HGI:=Lib.hid (And.intro hgi (And.intro hgl (And.intro (Nat.lt_of_lt_of_le hgl.lt (pow_le hn4)) hnw)))
    clear hgi hgl hn4 hce k4 hnw
    go_upto_region 5 with fail
    obtain⟨w1,hw1⟩:∃w1,w1=wr.setCell ⟨b4,7,none⟩ (.slice Ai ni ci):=⟨_,rfl⟩
    rw[<-hw1]
    have hu1:Upd (fun b=>b=b4) wr w1:=by rw[hw1];exact Upd.setCell wr _ rfl
    have k4a:=setCell_at (HI.out.1.k (i:=1) rfl) (.slice Ai ni ci) (i:=7)
    simp only[List.setIfInBounds_toArray,List.set_cons_succ,List.set_cons_zero]at k4a
    rw[<-hw1]at k4a
    have hg1:=HI.out.1.set (i:=1) rfl hu1 k4a
    have hdn:g / n<=g:=Nat.div_le_self _ _
    have hrb:ri+g / n<Gn.B ^ 30/\ri+g / n<=r+(i+1)*Gn.B ^ 4:=by
     have h1:=HI.out.2.2.2.1
     have h2:=HGI.out.2.2.1
     have h3:=HB.out.2.2.2.2
     have h4:(i+1)*Gn.B ^ 4<=ng*Gn.B ^ 4:=Nat.mul_le_mul_right _ hin
     have h5:(i+1)*Gn.B ^ 4=i*Gn.B ^ 4+Gn.B ^ 4:=Nat.succ_mul _ _
     exact⟨by omega,by omega⟩
    have hqb:qi<=1020:=by have:=hqi.out;have:=HB.out.1;omega
    have hclo:=close_led (R:=R) (m:=m) (d:=d) (n:=n) HI.out.2.1 hg1.sf ((HGI.out.2.1.new HGI.out.2.2.2).upd hu1 (fun b hb e=>by
     have e:b=b4:=e
     have:=(HI.out.1.off _ (List.mem_of_getElem? (i:=1) rfl)).2.2
     have h3:w.heap.size<=b4:=this
     have h4:=HW0.out.1.size
     have hb:b<w0.heap.size:=hb
     omega)) HNN.out.1 HNN.out.2 (by omega) hrb.1 HB.out.2.1 (by have:=HB.out.2.2.1;omega) (by have:=HB.out.2.2.2.1;omega)
    obtain⟨q2,hq2⟩:∃q2,q2=qi+1:=⟨_,rfl⟩
    have hled:=HI.out.2.1.close n g HB.out.2.1
    have hheld:=fun p x (hp:p<=q) hh=>(HI.out.2.2.2.2.2 p x hp hh).close HI.out.2.1 (show p<=qi by have:=hqi.out;omega) n g
    rw[if_neg (by have:=HNN.out.1;omega)]at hled
    rw[<-hq2]at hclo hled
    have hcc:(F1.close S1 q2 n g).c=S.c:=(F1.close_cc _ _ _ _).trans HI.out.2.2.2.2.1
    rw[show qi+1=q2 from hq2.symm]at hheld
    have HCLO:=Lib.hid hclo;have HG1:=Lib.hid hg1;have HLED:=Lib.hid (And.intro hled (And.intro hrb (And.intro hcc hheld)));have HQ2:=Lib.hid hq2
    have l0:=cell_of k4a 0 _ rfl;have l1:=cell_of k4a 1 _ rfl;have l2:=cell_of k4a 2 _ rfl;have l3:=cell_of k4a 3 _ rfl;have l4:=cell_of k4a 4 _ rfl;have l5:=cell_of k4a 5 _ rfl;have l6:=cell_of k4a 6 _ rfl;have l7:=cell_of k4a 7 _ rfl;have l8:=cell_of k4a 8 _ rfl;have l9:=cell_of k4a 9 _ rfl
    clear hu1 k4a hg1 hrb hclo hw1 x7 z7 hcw hq2 hled hheld hcc hqb hdn
    go_upto_region 3 with(go_at_call 27
                          refine HCLO.out.mono ?_
                          rintro e w2 ⟨rfl,F2,hsf2,st2⟩
                          have hg2:=HG1.out.step st2 hsf2
                          have HG2:=Lib.hid hg2
                          obtain⟨g0,y0,g1,y1,g2,y2,g3,y3,g4,y4,g5,y5,g6,y6,g7,y7,g8,y8,g9,y9,hh,hset⟩:=put10 (hg2.k (i:=1) rfl) (.int .u64 0) (.int .u64 (n:Int)) (.slice R m d) (.bool false) (.int .u64 0) (.bool false) (.int .u64 ((q2:Int)+1)) (.slice none 0 0) (.slice none 0 0) (.slice none 0 0)
                          have HH:=Lib.hid (And.intro hh hset)
                          clear HCLO hsf2 st2 hg2 hh hset)
    clear l0 l1 l2 l3 l4 l5 l6 l7 l8 l9 g0 y0 g1 y1 g2 y2 g3 y3 g4 y4 g5 y5 g6 y6 g7 y7 g8 y8 g9 y9
    obtain⟨hh,hset⟩:=HH.out
    obtain⟨W3,hW3,hh3,hset3⟩:=letW hh hset
    rw[hW3]
    have HG3:=Lib.hid (HG2.out.set (i:=1) rfl hset3 hh3)
    clear hh hset hh3 hset3 hW3 HH
    go_wp2
    refine⟨⟨i+1,q2,by omega,by congr 1,Lib.hid (by have:=HQ2.out;have:=hqi.out;omega),Lib.hid ⟨F2,_,ri+g / n,HG3.out,?_,?_,HLED.out.2.1.2,HLED.out.2.2.1,HLED.out.2.2.2⟩⟩,by simp[intOf];omega⟩
    · have h1:=HLED.out.1
      exact h1
    · rw[sumq_take HGI.out.1,<-Nat.add_assoc,<-HI.out.2.2.1]
  · obtain rfl:i=ng:=by omega
    have k4:=HI.out.1.k (i:=1) rfl
    have k6:=HI.out.1.k (i:=0) rfl
    have l0:=cell_of k4 0 _ rfl;have l1:=cell_of k4 1 _ rfl;have l2:=cell_of k4 2 _ rfl;have l3:=cell_of k4 3 _ rfl;have l4:=cell_of k4 4 _ rfl;have l5:=cell_of k4 5 _ rfl;have l6:=cell_of k4 6 _ rfl;have l7:=cell_of k4 7 _ rfl;have l8:=cell_of k4 8 _ rfl;have l9:=cell_of k4 9 _ rfl
    obtain⟨g0,y0,g1,y1,g2,y2,g3,y3,g4,y4,g5,y5,g6,y6,g7,y7,g8,y8,g9,y9,hh,hset⟩:=put10 k6 (.int .u64 0) (.int .u64 (n:Int)) (.slice R m d) (.bool false) (.int .u64 0) (.bool false) (.int .u64 ((qi:Int)+1)) (.slice none 0 0) (.slice none 0 0) (.slice none 0 0)
    have q0:=cell_of hh 0 _ rfl;have q1:=cell_of hh 1 _ rfl;have q2:=cell_of hh 2 _ rfl;have q3:=cell_of hh 3 _ rfl;have q4:=cell_of hh 4 _ rfl;have q5:=cell_of hh 5 _ rfl;have q6:=cell_of hh 6 _ rfl;have q7:=cell_of hh 7 _ rfl;have q8:=cell_of hh 8 _ rfl;have q9:=cell_of hh 9 _ rfl
    have QQ:=Lib.hid (And.intro q0 (And.intro q1 (And.intro q2 (And.intro q3 (And.intro q4 (And.intro q5 (And.intro q6 (And.intro q7 (And.intro q8 q9)))))))))
    have HEND:=Lib.hid (HI.out.1.set (i:=0) rfl hset hh)
    clear q0 q1 q2 q3 q4 q5 q6 q7 q8 q9 hh hset k4 k6
    go_wp2
    obtain⟨q0,q1,q2,q3,q4,q5,q6,q7,q8,q9⟩:=QQ.out
    refine bodyPost_ret (by simp[results,Tryz.results41,go_sem,q0,q1,q2,q3,q4,q5,q6,q7,q8,q9];try rfl) rfl ?_
    have hq:=hqi.out
    subst hq
    refine⟨rfl,F1',S1,HEND.out.sf,HEND.out.st,?_,HI.out.2.2.2.2.1,HI.out.2.2.2.2.2⟩
    have e:ri=r+sumq n gs:=by rw[HI.out.2.2.1,List.take_of_length_le (by rw[HGS.out.2];exact Nat.le_refl _)]
    rw[<-e];exact HI.out.2.1
theorem ffree_c {F:Nat->Prop} {bs p:Nat} {v0 v2:Value} {w:World} {S:F1.Sta} (hS:Okay S) (hp:p<18446744073709551616) (h:SF F bs w (F1.ents S)) (h0:∃A n c,v0=.slice A n c) (h2:∃A n c,v2=.slice A n c):
 Calls Tryz.prog 42 #[.pointer (some ⟨bs,0,none⟩),.int .u64 16,.agg #[v0,.int .u64 (p:Int),v2]] w (StoR F bs w (F1.ents (F1.free S p))):=by
 obtain⟨A1,n1,c1,rfl⟩:=h0
 obtain⟨A2,n2,c2,rfl⟩:=h2
 obtain⟨W1,hW1⟩:∃W1,W1=w.alloc (.cells #[.slice A1 n1 c1,.int .u64 (p:Int),.slice A2 n2 c2] 55):=⟨_,rfl⟩
 have hn1:New w W1:=by rw[hW1];exact Upd.alloc _ _ _
 have b1:=Ex.alloc_new w (.cells #[.slice A1 n1 c1,.int .u64 (p:Int),.slice A2 n2 c2] 55)
 rw[<-hW1]at b1
 have x1:=cell_of b1 1 _ rfl
 have hf:=free_c hS hp (h.new hn1)
 obtain⟨L,hL⟩:∃L,L=F1.ents (F1.free S p):=⟨_,rfl⟩
 rw[<-hL]at hf ⊢
 have HF:=Lib.hid hf;have HN:=Lib.hid hn1
 clear hf hn1 b1 hL h hS hp
 go_enter Tryz.func42,Tryz.ntmps42
 go_upto_region 1 with fail
 rw[<-hW1]
 clear hW1
 go_wp2_with (go_at_call 80;refine HF.out.mono ?_;rintro e w2 ⟨rfl,F',hsf,st⟩;have H2:=Lib.hid (And.intro hsf st);clear HF hsf st)
 go_end0
 exact⟨by simp,F',H2.out.1,(Step.of_new HN.out).trans H2.out.2⟩
end Go.Proofs.YtbhnjkegkadodaaGreatDoor
namespace F1
open Gl
theorem split_le (z r1 r2 U:Nat) (h:r1<=r2) (hU:0<U):z*(r1-0) / U+z*(r2-r1) / U<=z*(r2-0) / U:=by
 have e:z*(r2-0)=z*(r1-0)+z*(r2-r1):=by rw[<-Nat.mul_add];congr 1;omega
 rw[e,Nat.le_div_iff_mul_le hU,Nat.add_mul]
 exact Nat.add_le_add (Nat.div_mul_le_self _ _) (Nat.div_mul_le_self _ _)
theorem split_lt (z r1 r2 U:Nat) (h:r1<=r2) (hU:0<U):z*(r2-0) / U<=z*(r1-0) / U+z*(r2-r1) / U+1:=by
 have e:z*(r2-0)=z*(r1-0)+z*(r2-r1):=by rw[<-Nat.mul_add];congr 1;omega
 rw[e]
 have h1:=Nat.lt_mul_div_succ (z*(r1-0)) hU
 have h2:=Nat.lt_mul_div_succ (z*(r2-r1)) hU
 refine Nat.le_of_lt_succ (Nat.div_lt_of_lt_mul ?_)
 have e2:U*(z*(r1-0) / U+z*(r2-r1) / U+1).succ=U*(z*(r1-0) / U+1)+U*(z*(r2-r1) / U+1):=by rw[<-Nat.mul_add];congr 1;omega
 rw[e2];omega
end F1
namespace Go.Proofs.YtbhnjkegkadodaaGreatDoor
open Go Go.RowKit Go.Proofs Gl
section
variable {F:Nat->Prop} {bs q r M N n x m d dp:Nat} {R A1 As:Option Addr} {n1 c1 ns cs:Nat} {S:F1.Sta} {w:World}
theorem pow5 {a b:Nat} (ha:a<Gn.B ^ 30) (hb:b<Gn.B ^ 30):a*b<Gn.B ^ 1000:=by
 have h:=Nat.mul_lt_mul'' ha hb
 rw[<-Nat.pow_add]at h
 exact Nat.lt_of_lt_of_le h (@pow_le 60 1000 (by omega))
theorem hold_led {Q Q':Nat->Prop} (hl:F1.Led S q r M N) (h:SF F bs w (F1.ents S)) (hy:LQ Q w R m d (n*10 ^ 36)) (hx:LQ Q' w A1 n1 c1 x) (hn0:0<n) (hn:n<18446744073709551616) (hxb:x<Gn.B ^ 30) (hq:q<=100000) (hr:r<Gn.B ^ 30) (hM:M<=100000) (hN:N<=100000):
 Calls Tryz.prog 25 #[.pointer (some ⟨bs,0,none⟩),.int .u64 16,.agg #[.int .u64 0,.int .u64 (n:Int),.slice R m d,.bool false,.int .u64 0,.bool false,.int .u64 ((q:Int)+1),.slice none 0 0,.slice none 0 0,.slice none 0 0],.agg #[.slice A1 n1 c1,.int .u64 (dp:Int),.slice As ns cs]] w fun e w'=>∃R3 m3 d3,e=.returned (.agg #[.slice A1 n1 c1,.int .u64 (q:Int),.slice R3 m3 d3])/\∃F',SF F' bs w' (F1.ents (F1.refer S q))/\Step F F' bs w w'/\LN (fun b=>Off F' bs b/\w.heap.size<=b) w' R3 m3 d3 x:=by
 have hnb:n*10 ^ 36<Gn.B ^ 30:=by
  have:n*10 ^ 36<18446744073709551616*10 ^ 36:=Nat.mul_lt_mul_of_pos_right hn (by decide)
  exact Nat.lt_of_lt_of_le this (by decide)
 have hh:=(hl.hist_le q).2
 have:=hold_c (S:=S) (x:=x) (y:=n*10 ^ 36) (dp:=dp) (As:=As) (ns:=ns) (cs:=cs) ⟨0,n,R,m,d,false,0,false,q+1,none,0,0,none,0,0,none,0,0⟩ (okay_led hl (by omega) hr (by omega) hN) h hy hx (Nat.mul_pos hn0 (by decide)) hn (pow5 hxb hnb) (Nat.succ_pos q) (show q+1<18446744073709551616 by omega) (by show(F1.hist S (q+1-1)).2+1<_;rw[Nat.add_sub_cancel];omega)
 rw[Nat.mul_div_cancel _ (Nat.mul_pos hn0 (by decide))]at this
 exact this
theorem claim_led (hl:F1.Led S q r M N) (hc:S.c=[]) (h:SF F bs w (F1.ents S)) (hy:LQ (fun b=>b≠bs) w As ns cs x) {y:Nat} (hd:(F1.hist S dp).1=y) (hyr:y<=r) (hdp:dp<=100000) (hxb:x<Gn.B ^ 30) (hq:q<=100000) (hr:r<Gn.B ^ 30) (hM:M<=100000) (hN:N<=100000):
 Calls Tryz.prog 19 #[.pointer (some ⟨bs,0,none⟩),.int .u64 16,.agg #[.int .u64 0,.int .u64 (n:Int),.slice R m d,.bool false,.int .u64 0,.bool false,.int .u64 ((q:Int)+1),.slice none 0 0,.slice none 0 0,.slice none 0 0],.agg #[.slice A1 n1 c1,.int .u64 (dp:Int),.slice As ns cs]] w (ClaimR F bs w (F1.ents S) (x*(r-y) / 10 ^ 36) 0):=by
 have e2:(F1.hist S (q+1-1)).1=r:=by rw[Nat.add_sub_cancel];exact hl.last.1
 have:=claim_none (S:=S) (y:=x) (dp:=dp) (Ad:=A1) (nd:=n1) (cd:=c1) (As:=As) (ns:=ns) (cs:=cs) ⟨0,n,R,m,d,false,0,false,q+1,none,0,0,none,0,0,none,0,0⟩ (okay_led hl (by omega) hr (by omega) hN) hc h hy (Nat.succ_pos q) (show q+1<_ by omega) (by omega) (by show _<=(F1.hist S (q+1-1)).1;rw[e2,hd];exact hyr) (by show x*((F1.hist S (q+1-1)).1-_)<_;rw[e2];exact pow5 hxb (by omega))
 rw[hd]at this
 have this:Calls Tryz.prog 19 _ w (ClaimR F bs w (F1.ents S) (x*((F1.hist S (q+1-1)).1-y) / 10 ^ 36) 0):=this
 rw[e2]at this
 exact this
theorem LN.po_hold {W W':World} {F0 F':Nat->Prop} {L:List Ent} {own:List Blk} (hl:LN (fun b=>Off F' bs b/\W.heap.size<=b) W' R m d x) (h:LG w F0 F bs L own W):LN (PO F' bs own) W' R m d x:=
 hl.mono (fun b _ hq=>⟨hq.1,fun y hy e=>by have:=h.lt hy;have:=hq.2;omega⟩)
end
end Go.Proofs.YtbhnjkegkadodaaGreatDoor
namespace Go.Proofs.YtbhnjkegkadodaaGreatDoor
open Go Go.RowKit Go.Proofs Gl
theorem Giv.new {w w':World} {Ag:Option Addr} {ng:Nat} (h:Giv w Ag ng) (hn:New w w'):Giv w' Ag ng:=fun j hj=>by
 obtain⟨b,off,A,n,c,e,hc,hl⟩:=h j hj
 exact⟨b,off,A,n,c,e,(hn.cell (a:=⟨b,off+j,none⟩) (World.block_lt_of_cell? w _ hc) id).trans hc,fun h4=>let ⟨g,hg⟩:=hl h4;⟨g,(hg.new hn).mono (fun b _ hb=>Nat.lt_of_lt_of_le hb hn.size)⟩⟩
def Short (w:World) (Ag:Option Addr) (ng:Nat):Prop:=ng<=20/\∃gs:List Nat,gs.length=ng/\Gs w Ag gs
theorem lshort_yes {w:World} {Ag:Option Addr} {ng cg:Nat} (hg:Giv w Ag ng) (h:Short w Ag ng):Calls Tryz.prog 38 #[.slice Ag ng cg] w fun e w'=>e=.returned (.bool true)/\w=w':=
 (lshort_c hg).mono fun e w' ⟨⟨b,he,hb⟩,hw⟩=>⟨by rw[he,hb.2 h],hw.symm⟩
theorem lshort_no {w:World} {Ag:Option Addr} {ng cg:Nat} (hg:Giv w Ag ng) (h:¬Short w Ag ng):Calls Tryz.prog 38 #[.slice Ag ng cg] w fun e w'=>e=.returned (.bool false)/\w=w':=
 (lshort_c hg).mono fun e w' ⟨⟨b,he,hb⟩,hw⟩=>⟨by
   cases b with
   | false=>exact he
   | true=>exact absurd (hb.1 rfl) h,hw.symm⟩
theorem led0:F1.Led (F1.refer ⟨[],[]⟩ 0) 0 0 1 1:=by
 have e:(F1.refer ⟨[],[]⟩ 0).h=[(0,0,1)]:=by simp[F1.refer,F1.putR,F1.hist,F1.findR]
 refine⟨fun x hx=>?_,fun x hx=>(by cases hx),by rw[e];decide,by rw[F1.hist_refer,if_pos rfl];exact⟨rfl,by decide⟩,by rw[F1.hist_refer,if_pos rfl];rfl⟩
 rw[e]at hx
 have:x=(0,0,1):=by simpa using hx
 subst this;decide
theorem start_led {F:Nat->Prop} {bs n m d:Nat} {R:Option Addr} {w:World} (h:SF F bs w []):
 Calls Tryz.prog 13 #[.pointer (some ⟨bs,0,none⟩),.int .u64 16,.agg #[.int .u64 0,.int .u64 (n:Int),.slice R m d,.bool false,.int .u64 0,.bool false,.int .u64 0,.slice none 0 0,.slice none 0 0,.slice none 0 0]] w (StartR F bs w (F1.ents (F1.refer ⟨[],[]⟩ 0)) (.agg #[.int .u64 0,.int .u64 (n:Int),.slice R m d,.bool false,.int .u64 0,.bool false,.int .u64 1,.slice none 0 0,.slice none 0 0,.slice none 0 0])):=
 start_c (S:=⟨[],[]⟩) ⟨0,n,R,m,d,false,0,false,0,none,0,0,none,0,0,none,0,0⟩ ⟨⟨fun x hx=>(by cases hx),fun x hx=>(by cases hx)⟩,fun x hx=>(by cases hx),(by simp)⟩ h (by decide)
end Go.Proofs.YtbhnjkegkadodaaGreatDoor
namespace Go.Proofs.YtbhnjkegkadodaaGreatDoor
open Go Go.RowKit Go.Proofs Gl
section
variable {F:Nat->Prop} {bs q r M N n x m d dp:Nat} {R A1 As:Option Addr} {n1 c1 ns cs:Nat} {S:F1.Sta} {w:World}
theorem hold_v {Q Q':Nat->Prop} (qv dv rv:Int) (h1:qv=(q:Int)+1) (h2:dv=(dp:Int)) (h3:rv=(q:Int)) (hl:F1.Led S q r M N) (h:SF F bs w (F1.ents S)) (hy:LQ Q w R m d (n*10 ^ 36)) (hx:LQ Q' w A1 n1 c1 x) (hn0:0<n) (hn:n<18446744073709551616) (hxb:x<Gn.B ^ 30) (hb:q<=100000/\r<Gn.B ^ 30/\M<=100000/\N<=100000):
 Calls Tryz.prog 25 #[.pointer (some ⟨bs,0,none⟩),.int .u64 16,.agg #[.int .u64 0,.int .u64 (n:Int),.slice R m d,.bool false,.int .u64 0,.bool false,.int .u64 qv,.slice none 0 0,.slice none 0 0,.slice none 0 0],.agg #[.slice A1 n1 c1,.int .u64 dv,.slice As ns cs]] w fun e w'=>∃R3 m3 d3,e=.returned (.agg #[.slice A1 n1 c1,.int .u64 rv,.slice R3 m3 d3])/\∃F',SF F' bs w' (F1.ents (F1.refer S q))/\Step F F' bs w w'/\LN (fun b=>Off F' bs b/\w.heap.size<=b) w' R3 m3 d3 x:=by
 subst h1 h2 h3
 exact hold_led hl h hy hx hn0 hn hxb hb.1 hb.2.1 hb.2.2.1 hb.2.2.2
theorem claim_v (qv dv:Int) (h1:qv=(q:Int)+1) (h2:dv=(dp:Int)) (hl:F1.Led S q r M N) (hc:S.c=[]) (h:SF F bs w (F1.ents S)) (hy:LQ (fun b=>b≠bs) w As ns cs x) {y:Nat} (hd:(F1.hist S dp).1=y) (hyr:y<=r) (hdp:dp<=100000) (hxb:x<Gn.B ^ 30) (hb:q<=100000/\r<Gn.B ^ 30/\M<=100000/\N<=100000):
 Calls Tryz.prog 19 #[.pointer (some ⟨bs,0,none⟩),.int .u64 16,.agg #[.int .u64 0,.int .u64 (n:Int),.slice R m d,.bool false,.int .u64 0,.bool false,.int .u64 qv,.slice none 0 0,.slice none 0 0,.slice none 0 0],.agg #[.slice A1 n1 c1,.int .u64 dv,.slice As ns cs]] w (ClaimR F bs w (F1.ents S) (x*(r-y) / 10 ^ 36) 0):=by
 subst h1 h2
 exact claim_led hl hc h hy hd hyr hdp hxb hb.1 hb.2.1 hb.2.2.1 hb.2.2.2
theorem pay_v {w0:World} {ng cg q2:Nat} {Ag:Option Addr} {gs:List Nat} (qv rv:Int) (h1:qv=(q:Int)+1) (h2:q2=q+ng) (h3:rv=(q2:Int)+1) (h0:New w0 w) (hF0:∀b,F b->w0.heap.size<=b) (hb0:w0.heap.size<=bs) (hgs:Gs w0 Ag gs) (hlen:gs.length=ng) (hng:ng<=20) (hl:F1.Led S q r M N) (h:SF F bs w (F1.ents S)) (hn0:0<n) (hn:n<18446744073709551616) (hb:q<=1000/\1<=M/\M<=1000/\N<=1000) (hr:r+ng*Gn.B ^ 4<Gn.B ^ 30):
 Calls Tryz.prog 41 #[.pointer (some ⟨bs,0,none⟩),.agg #[.int .u64 0,.int .u64 (n:Int),.slice R m d,.bool false,.int .u64 0,.bool false,.int .u64 qv,.slice none 0 0,.slice none 0 0,.slice none 0 0],.slice Ag ng cg] w fun e w'=>e=.returned (.agg #[.int .u64 0,.int .u64 (n:Int),.slice R m d,.bool false,.int .u64 0,.bool false,.int .u64 rv,.slice none 0 0,.slice none 0 0,.slice none 0 0]) /\
  ∃F' S',SF F' bs w' (F1.ents S')/\Step F F' bs w w'/\F1.Led S' q2 (r+sumq n gs) M (N+2*ng)/\S'.c=S.c/\∀p x,p<=q->F1.Held S q p x->F1.Held S' q2 p x:=by
 subst h1 h2 h3
 exact pay_c h0 hF0 hb0 hgs hlen hng hl h hn0 hn hb.1 hb.2.1 hb.2.2.1 hb.2.2.2 hr
theorem free_v {p:Nat} {B1 B2:Option Addr} {x1 y1 x2 y2:Nat} (pv:Int) (h1:pv=(p:Int)) (hl:F1.Led S q r M N) (hp:p<=100000) (hb:q<=100000/\r<Gn.B ^ 30/\M<=100000/\N<=100000) (h:SF F bs w (F1.ents S)):
 Calls Tryz.prog 42 #[.pointer (some ⟨bs,0,none⟩),.int .u64 16,.agg #[.slice B1 x1 y1,.int .u64 pv,.slice B2 x2 y2]] w (StoR F bs w (F1.ents (F1.free S p))):=by
 subst h1
 exact ffree_c (okay_led hl (by omega) hb.2.1 (by omega) hb.2.2.2) (by omega) h ⟨_,_,_,rfl⟩ ⟨_,_,_,rfl⟩
end
end Go.Proofs.YtbhnjkegkadodaaGreatDoor
namespace Go.Proofs.YtbhnjkegkadodaaGreatDoor
open Go Go.RowKit Go.Proofs Gl
theorem cmp_leq {x y:Nat} (h:x<=y):decide (cmpI x y<=(0:Int))=true:=by
 unfold cmpI;split<;>first|rfl|(split<;>first|rfl|omega)
end Go.Proofs.YtbhnjkegkadodaaGreatDoor

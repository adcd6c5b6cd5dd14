/- Part of the proof. -/
import Derived.Test.YtbhnjkegkadodaaGreatDoorG17
import Derived.Test.YtbhnjkegkadodaaGreatDoorG19
set_option linter.all false
set_option maxRecDepth 100000
set_option maxHeartbeats 8000000
namespace Gz
open Go Go.RowKit Go.Proofs Gl
structure SetS (base bm n c:Nat) (w W:World) (bx:Nat) (A:Option Addr) (vs:List Value) (D:Nat->Prop) (ps:List (List Ent)) (kv vv:Value) (k v:Bs):Prop where
 old:MapIn 182 251 base w bm D A n c vs ps
 new:New w W
 box:W.heap[bx]?=some (.cells #[kv,vv] 182 (0,0))
 fresh:w.heap.size<=bx
 kb:BV (fun b=>w.heap.size<=b/\b≠bx) W kv k
 vb:BV (fun b=>w.heap.size<=b/\b≠bx) W vv v
def DD (D:Nat->Prop) (w W:World):Nat->Prop:=fun b=>D b\/(w.heap.size<=b/\b<W.heap.size)
theorem SetS.start {base bm n c:Nat} {w W1 W2:World} {A:Option Addr} {vs:List Value} {D:Nat->Prop} {ps:List (List Ent)} {kv vv:Value} {k v:Bs} (h:MapIn 182 251 base w bm D A n c vs ps) (h1:New w W1) (h2:New W1 W2) (hk:BV (fun b=>w.heap.size<=b) W1 kv k) (hv:BV (fun b=>W1.heap.size<=b) W2 vv v):
 SetS base bm n c w (W2.alloc (.cells #[kv,vv] 182)) W2.heap.size A vs D ps kv vv k v:=by
 have a1:New w W2:=h1.trans h2;have a3:(W2.alloc (.cells #[kv,vv] 182)).heap[W2.heap.size]?=some (.cells #[kv,vv] 182 (0,0)):=by show(W2.heap.push _)[W2.heap.size]?=_;simp
 have hu:New W2 (W2.alloc (.cells #[kv,vv] 182)):=zU _ _ _;refine⟨h,a1.trans hu,a3,a1.size,?_,?_⟩
 · have:=(hk.upd h2 (fun _ _=>id)).lt.upd hu (fun _ _=>id);obtain⟨A,n,c,e,h1,h2⟩:=hk;have h3:∀x,A=some x → 0<n->x.block<W2.heap.size:=fun x hx h0=>zqL (h1.sl.lt hx h0) (by assumption:New W1 W2).size;obtain⟨A',n',c',e',g1,g2⟩:=this;rw[e]at e';cases e'
   exact⟨A,n,c,e,g1,fun x hx h0=>⟨h2 x hx h0,Nat.ne_of_lt (h3 x hx h0)⟩⟩
 · obtain⟨A,n,c,e,g1,g2⟩:=hv;exact⟨A,n,c,e,g1.upd hu (fun _ _ _=>id),fun x hx h0=>⟨zT h1.size (g2 x hx h0),Nat.ne_of_lt (g1.sl.lt hx h0)⟩⟩
end Gz
namespace Gz
open Go Go.RowKit Go.Proofs Gl
section
variable {base bm n c bx:Nat} {w W W':World} {A:Option Addr} {vs:List Value} {D F:Nat->Prop} {ps:List (List Ent)} {kv vv:Value} {k v:Bs}
theorem SetS.next (h:SetS base bm n c w W bx A vs D ps kv vv k v) (hu:New W W'):SetS base bm n c w W' bx A vs D ps kv vv k v:=
 ⟨h.old,h.new.trans hu,(hu.block _ (zqA.1 h.box).1 id).trans h.box,h.fresh,h.kb.upd hu (fun _ _=>id),h.vb.upd hu (fun _ _=>id)⟩
theorem SetS.map (h:SetS base bm n c w W bx A vs D ps kv vv k v):MapIn 182 251 base W bm D A n c vs ps:=h.old.upd h.new (fun _ _=>id)
theorem SetS.kd (h:SetS base bm n c w W bx A vs D ps kv vv k v):BV (DD D w W) W kv k:=h.kb.lt.mono (fun b hb=>.inr ⟨hb.1.1,hb.2⟩)
theorem SetS.vd (h:SetS base bm n c w W bx A vs D ps kv vv k v):BV (DD D w W) W vv v:=h.vb.lt.mono (fun b hb=>.inr ⟨hb.1.1,hb.2⟩)
theorem SetS.box_lt (h:SetS base bm n c w W bx A vs D ps kv vv k v):bx<W.heap.size:=(zqA.1 h.box).1
theorem SetS.bm_lt (h:SetS base bm n c w W bx A vs D ps kv vv k v):bm<w.heap.size:=h.old.bm_lt
theorem DD.not {b:Nat} (hD:¬D b) (hb:b<w.heap.size\/W.heap.size<=b):¬DD D w W b:=by
 rintro(h|⟨h1,h2⟩)
 · exact hD h
 · omega
end
end Gz
namespace Gz
open Go Go.RowKit Go.Proofs Gl
def SetEnd (base bm:Nat) (F:Nat->Prop) (w:World) (L:List Ent) (e:Ending) (w':World):Prop:=
 ∃(b:Bool) (F':Nat->Prop) (ps':List (List Ent)),e=.returned (.bool b)/\MapAt 182 251 base w' bm F' ps'/\(∀x,F' x->F x\/w.heap.size<=x)/\Upd F w w'/\ps'.flatten=L
end Gz
namespace Gz
open Go Go.RowKit Go.Proofs Gl
section
variable {base bm n c bx:Nat} {w W W':World} {A A1 A2:Option Addr} {c1 c2 nk nv:Nat} {vs:List Value} {D F:Nat->Prop} {ps:List (List Ent)} {k v:Bs}
theorem set_first (h:SetS base bm 0 c w W bx A vs D [] (.slice A1 nk c1) (.slice A2 nv c2) k v) (hF:∀b,foot bm D A 0 c vs b->F b) (hbase:base<=w.heap.size):
 SetEnd base bm F w (put [] k v) (.returned (.bool true)) ((((W.setCell ⟨bm,0,none⟩ (.slice (some ⟨W.heap.size+1,0,none⟩) 1 1)).setCell ⟨bm,1,none⟩ (.int .i64 1)).alloc (.cells #[.slice A1 nk c1,.slice A2 nv c2] 182)).alloc (.cells #[.slice (some ⟨W.heap.size,0,none⟩) 1 1] 251)):=by
 obtain⟨t,ht⟩:=h.map.blk;have a8:=h.new.size;have b9:=h.bm_lt;obtain⟨X,hX⟩:=zE ((W.setCell ⟨bm,0,none⟩ (.slice (some ⟨W.heap.size+1,0,none⟩) 1 1)).setCell ⟨bm,1,none⟩ (.int .i64 1));have a3:X.heap.size=W.heap.size:=by rw[hX];simp[World.setCell]
 have a9:X.heap[bm]?=some (.cells #[.slice (some ⟨W.heap.size+1,0,none⟩) 1 1,.int .i64 1] t (0,0)):=by
  rw[hX];exact zac (zac ht _ (i:=0)) _ (i:=1)
 have b0:Upd (fun b=>b=bm) W X:=by rw[hX];exact(Upd.setCell (S:=fun b=>b=bm) (a:=⟨bm,0,none⟩) W _ rfl).trans (Upd.setCell (S:=fun b=>b=bm) (a:=⟨bm,1,none⟩) _ _ rfl)
 rw[<-hX];obtain⟨Z,hZ⟩:=zE ((X.alloc (.cells #[.slice A1 nk c1,.slice A2 nv c2] 182)).alloc (.cells #[.slice (some ⟨W.heap.size,0,none⟩) 1 1] 251));have a5:New X Z:=by rw[hZ];exact(zU (fun _=>False) X _).trans (zU (fun _=>False) _ _)
 have b5:Z.heap[bm]?=some (.cells #[.slice (some ⟨W.heap.size+1,0,none⟩) 1 1,.int .i64 1] t (0,0)):=(a5.block bm (by omega) id).trans a9;have b6:Z.heap[W.heap.size]?=some (.cells #[.slice A1 nk c1,.slice A2 nv c2] 182 (0,0)):=by
  rw[hZ,<-a3];exact(zaj _ (by show _<(X.heap.push _).size;simp)).trans (by show(X.heap.push _)[X.heap.size]?=_;simp)
 have b7:Z.heap[W.heap.size+1]?=some (.cells #[.slice (some ⟨W.heap.size,0,none⟩) 1 1] 251 (0,0)):=by
  rw[hZ,<-a3];have e:=zX (X.alloc (.cells #[.slice A1 nk c1,.slice A2 nv c2] 182)) (.cells #[.slice (some ⟨X.heap.size,0,none⟩) 1 1] 251)
  rwa [show(X.alloc (.cells #[.slice A1 nk c1,.slice A2 nv c2] 182)).heap.size=X.heap.size+1 by show(X.heap.push _).size=_;simp]at e
 have c5:Z.heap.size=W.heap.size+2:=by rw[hZ,<-a3];show((X.heap.push _).push _).size=_;simp
 rw[<-hZ];have a4:Upd (fun b=>b=bm) W Z:=b0.trans (a5.mono (fun _ _ h=>h.elim));have b8:Upd F w Z:=(h.new.mono (fun _ _ h=>h.elim)).then a4 (fun b hb e=>by subst e;exact hF _ (.inl rfl));have nb:∀b,DD D w W b->¬b=bm:=fun b hb e=>by
  subst e;rcases hb with hb|hb
  · exact h.old.dm hb
  · omega
 have hk:=h.kd.upd a4 nb;have hv:=h.vd.upd a4 nb;have a2:∀b,DD D w W b->b<W.heap.size:=fun b hb=>by
  rcases hb with hb|hb
  · exact zqL (h.old.lim b hb) a8
  · exact hb.2
 refine⟨true,foot bm (DD D w W) (some ⟨W.heap.size+1,0,none⟩) 1 1 [.slice (some ⟨W.heap.size,0,none⟩) 1 1],[[(k,v)]],rfl,⟨DD D w W,some ⟨W.heap.size+1,0,none⟩,1,1,[.slice (some ⟨W.heap.size,0,none⟩) 1 1],⟨?_,?_,?_⟩,fun _ hb=>hb⟩,?_,b8,rfl⟩
 · refine { blk:=⟨t,b5⟩,row:=⟨rfl,.inr ⟨W.heap.size+1,1,_,rfl,by omega,b7,zR _,by simp[maxLen],rfl,rfl⟩⟩,len:=rfl,page:=?_,inj:=?_,away:=?_,bmA:=?_,dm:=?_,dA:=?_,hb:=h.old.hb,lim:=?_ }
   · intro i x l hx hl;cases i with
     | succ i=>simp at hx
     | zero=>
       simp at hx hl;subst hx hl;exact⟨[.slice A1 nk c1,.slice A2 nv c2],⟨rfl,.inr ⟨W.heap.size,1,_,rfl,by omega,b6,zR _,by simp[maxLen],rfl,rfl⟩⟩,hk,hv,trivial⟩
   · intro i j x y hx hy hij;cases i with
     | succ i=>simp at hx
     | zero=>cases j with
       | succ j=>simp at hy
       | zero=>exact absurd rfl hij
   · intro i x b hx hb;cases i with
     | succ i=>simp at hx
     | zero=>
       simp at hx;subst hx;simp[Value.ownBlock]at hb ⊢;subst hb;exact⟨by omega,by omega,fun hd=>by have:=a2 _ hd;omega⟩
   · simp[Value.ownBlock];omega
   · exact fun hd=>nb bm hd rfl
   · intro b hb hd;simp[Value.ownBlock]at hb;have:=a2 b hd;omega
   · intro b hd;have:=a2 b hd;omega
 · exact⟨fun l hl=>by simp at hl;subst hl;simp,by simp[Sorted]⟩
 · intro l hl;simp at hl;subst hl;simp
 · intro b hb;rcases hb with rfl|hb|⟨x,hx,hb⟩|hb|hb
   · exact .inl (hF _ (.inl rfl))
   · simp[Value.ownBlock]at hb;exact .inr (by omega)
   · simp at hx;subst hx;simp[Value.ownBlock]at hb;exact .inr (by omega)
   · exact .inl (hF _ (.inr (.inr (.inr hb))))
   · exact .inr hb.1
end
end Gz
namespace Gz
open Go Go.RowKit Go.Proofs Gl
theorem set_self {α:Type} {l:List α} {p:Nat} {x:α} (h:l[p]?=some x):l.set p x=l:=by
 apply List.ext_getElem?;intro j;rw[List.getElem?_set]
 split
 · rename_i e
   subst e;rw[if_pos (List.getElem?_eq_some_iff.1 h).1,h]
 · rfl
theorem own_base {w:World} {base base':Nat} {e:TypeId} {k n:Nat} {v:Value} {xs:List Value} (h:w.ownsRow base' e k v n xs) (hb:base<=base'):w.ownsRow base e k v n xs:=by
 refine⟨h.1,?_⟩;rcases h.2 with h0|⟨g,cap,cur,e,h2,h3⟩
 · exact .inl h0
 · exact .inr ⟨g,cap,cur,e,zT hb h2,h3⟩
end Gz
namespace Gz
open Go Go.RowKit Go.Proofs Gl
section
variable {base bm n c N N' p:Nat} {W W6:World} {g0:Nat} {vs:List Value} {D D':Nat->Prop} {ps:List (List Ent)}
theorem raw_replace (h:MapRaw 182 251 base W bm D (some ⟨g0,0,none⟩) n c N vs ps) (hp:p<ps.length) {vp:Value} (hv:vs[p]?=some vp) (hu:Upd (fun b=>b=bm\/vp.ownBlock=some b) W W6)
 (hb:∃t,W6.heap[bm]?=some (.cells #[.slice (some ⟨g0,0,none⟩) n c,.int .i64 (N':Int)] t (0,0))) (hD:∀b,D b->D' b) (hD2:∀b,D' b->D b\/W.heap.size<=b) (hlim:∀b,D' b->b<W6.heap.size)
 {g' m' c':Nat} {cs':List Value} {l':List Ent} (ho:W6.ownsRow base 182 2 (.slice (some ⟨g',0,none⟩) m' c') m' cs') (hm:m'=l'.length) (he:EntsAt D' W6 cs' l') (hg:vp.ownBlock=some g'\/W.heap.size<=g') (hnD:¬D' g'):
 MapRaw 182 251 base (W6.setCell ⟨g0,p,none⟩ (.slice (some ⟨g',0,none⟩) m' c')) bm D' (some ⟨g0,0,none⟩) n c N' (vs.set p (.slice (some ⟨g',0,none⟩) m' c')) (ps.set p l') /\
  Upd (touch bm (some ⟨g0,0,none⟩) n c vs p) W (W6.setCell ⟨g0,p,none⟩ (.slice (some ⟨g',0,none⟩) m' c')):=by
 have a9:g0<W.heap.size:=(zal h.row (c:=g0) rfl).1;have a3:g0≠bm:=fun e=>h.bmA (by simp[Value.ownBlock,e]);have a4:vp.ownBlock≠some g0:=fun e=>(h.away p vp g0 hv e).2.1 rfl;have hU:Upd (touch bm (some ⟨g0,0,none⟩) n c vs p) W (W6.setCell ⟨g0,p,none⟩ (.slice (some ⟨g',0,none⟩) m' c')):=
  (hu.mono (fun b _ hb=>hb.elim .inl (fun e=>.inr (.inr ⟨vp,hv,e⟩)))).trans (Upd.setCell W6 _ (.inr (.inl rfl)))
 have hn:=h.n_eq;have a5:g'≠g0:=fun e=>by
  subst e;rcases hg with e|e
  · exact a4 e
  · omega
 have a1:W6.ownsRow base 251 1 (.slice (some ⟨g0,0,none⟩) n c) n vs:=zae h.row (fun b hb hl=>hu.block b hl (fun e=>by
  simp[Value.ownBlock]at hb;subst hb;rcases e with e|e
  · exact a3 e
  · exact a4 e))
 have hS:Upd (fun b=>b=g0) W6 (W6.setCell ⟨g0,p,none⟩ (.slice (some ⟨g',0,none⟩) m' c')):=Upd.setCell W6 _ rfl;have a2:∀b,D' b->b<(W6.setCell ⟨g0,p,none⟩ (.slice (some ⟨g',0,none⟩) m' c')).heap.size:=fun b hb=>zqL (hlim b hb) hS.size;have a7:∀b,D' b->¬b=g0:=fun b hd e=>by
  subst e;rcases hD2 _ hd with e|e
  · exact h.dA b rfl e
  · omega
 refine⟨h.page_set hp hU ?_ ?_ hD hD2 a2 ?_ ?_ ?_ ?_,hU⟩
 · obtain⟨t,ht⟩:=hb;exact⟨t,(zam _ (Ne.symm a3)).trans ht⟩
 · exact zbo a1 (by omega) _
 · refine⟨cs',?_,he.imp (fun v bs hb=>hb.upd hS a7)⟩;rw[<-hm];exact zae ho (fun b hb hl=>hS.block b hl (fun e=>by
    simp[Value.ownBlock]at hb;exact a5 (hb.trans e)))
 · intro b hb;simp[Value.ownBlock]at hb;subst hb;exact hg.imp (fun e=>⟨vp,hv,e⟩) id
 · intro b hb;simp[Value.ownBlock]at hb;subst hb;exact hnD
 · simp[Value.ownBlock]
end
end Gz
namespace Gz
open Go Go.RowKit Go.Proofs Gl
section
variable {base bm n c bx nk nv c1 c2 p i:Nat} {w W:World} {A A1 A2:Option Addr} {vs:List Value} {D F:Nat->Prop} {ps:List (List Ent)} {k v:Bs}
theorem raw_flat {tE tP base bm n c N:Nat} {w:World} {D:Nat->Prop} {A:Option Addr} {vs:List Value} {ps:List (List Ent)} (h:MapRaw tE tP base w bm D A n c N vs ps) (hN:N=ps.flatten.length) (hg:Pages ps) (hf:∀l ∈ ps,l.length<=32):MapIn tE tP base w bm D A n c vs ps:=by
 subst hN;exact⟨h,hg,hf⟩
theorem set_end {n' c':Nat} {A':Option Addr} {W':World} {vs':List Value} {ps':List (List Ent)} {r:Bool} {L:List Ent} (h:SetS base bm n c w W bx A vs D ps (.slice A1 nk c1) (.slice A2 nv c2) k v) (hF:∀b,foot bm D A n c vs b->F b)
 (hm:MapIn 182 251 base W' bm (DD D w W) A' n' c' vs' ps') (hfoot:∀b,foot bm (DD D w W) A' n' c' vs' b->foot bm D A n c vs b\/w.heap.size<=b) (hu:Upd (foot bm D A n c vs) W W') (hL:ps'.flatten=L):
 SetEnd base bm F w L (.returned (.bool r)) W':=
 ⟨r,_,ps',rfl,⟨DD D w W,A',n',c',vs',hm,fun _ hb=>hb⟩,fun b hb=>(hfoot b hb).imp (hF b) id,(h.new.mono (fun _ _ h=>h.elim)).then hu (fun b _ hb=>hF b hb),hL⟩
theorem SetEnd.new {base bm:Nat} {F:Nat->Prop} {w w' w'':World} {L:List Ent} {e:Ending} (h:SetEnd base bm F w L e w') (hu:New w' w''):SetEnd base bm F w L e w'':=by
 obtain⟨b,F',a1,e1,e2,e3,e4,e5⟩:=h;exact⟨b,F',a1,e1,e2.upd hu (fun _ _=>id),e3,e4.trans (hu.mono (fun _ _ h=>h.elim)),e5⟩
theorem touch_foot {b:Nat} (h:touch bm A n c vs p b):foot bm D A n c vs b:=by
 rcases h with h|h|⟨x,hx,h⟩
 · exact .inl h
 · exact .inr (.inl h)
 · exact .inr (.inr (.inl ⟨x,List.mem_of_getElem? hx,h⟩))
theorem SetS.dsub (h:SetS base bm n c w W bx A vs D ps (.slice A1 nk c1) (.slice A2 nv c2) k v):(∀b,D b->DD D w W b)/\(∀b,DD D w W b->b<W.heap.size)/\∀b,DD D w W b->D b\/w.heap.size<=b:=
 ⟨fun b hb=>.inl hb,fun b hb=>hb.elim (fun hb=>zqL (h.old.lim b hb) h.new.size) (fun hb=>hb.2),fun b hb=>hb.imp id (fun hb=>hb.1)⟩
theorem SetS.wide (h:SetS base bm n c w W bx A vs D ps (.slice A1 nk c1) (.slice A2 nv c2) k v):MapIn 182 251 base W bm (DD D w W) A n c vs ps:=by
 have hm:=h.map;have a2:∀b,foot bm D A n c vs b->b<w.heap.size:=fun b hb=>h.old.toMapRaw.foot_lt hb;refine⟨{ blk:=hm.blk,row:=hm.row,len:=hm.len,page:=fun i v l hv hl=>(hm.page i v l hv hl).mono (h.dsub.1),inj:=hm.inj,away:=fun i x b hx hb=>⟨(hm.away i x b hx hb).1,(hm.away i x b hx hb).2.1,DD.not (hm.away i x b hx hb).2.2 (.inl (a2 b (.inr (.inr (.inl ⟨x,List.mem_of_getElem? hx,hb⟩)))))⟩,bmA:=hm.bmA,dm:=DD.not hm.dm (.inl h.bm_lt),dA:=fun b hb=>DD.not (hm.dA b hb) (.inl (a2 b (.inr (.inl hb)))),hb:=hm.hb,lim:=h.dsub.2.1 },hm.good,hm.few⟩
theorem set_here {gp cp:Nat} {cs:List Value} (h:SetS base bm n c w W bx A vs D ps (.slice A1 nk c1) (.slice A2 nv c2) k v) (hF:∀b,foot bm D A n c vs b->F b) (hf:Gl.Found ps k p i true) (hp:p<ps.length) (hv:vs[p]?=some (.slice (some ⟨gp,0,none⟩) ps[p].length cp))
 (ho:W.ownsRow base 182 2 (.slice (some ⟨gp,0,none⟩) ps[p].length cp) ps[p].length cs) (he:EntsAt D W cs ps[p]):
 SetEnd base bm F w (put ps.flatten k v) (.returned (.bool false)) ((W.setCell ⟨gp,i*2,none⟩ (.slice A1 nk c1)).setCell ⟨gp,i*2+1,none⟩ (.slice A2 nv c2)):=by
 have hg:=h.map.good;obtain⟨_,hi,e1,e2,_⟩:=set_old (v:=v) hg hf;have a1:=h.wide.toMapRaw;have hS:Upd (fun b=>b=gp) W ((W.setCell ⟨gp,i*2,none⟩ (.slice A1 nk c1)).setCell ⟨gp,i*2+1,none⟩ (.slice A2 nv c2)):=(Upd.setCell (S:=fun b=>b=gp) W _ rfl).trans (Upd.setCell (S:=fun b=>b=gp) _ _ rfl);have a3:=h.wide.away p _ gp hv rfl;have a7:=len_set hp (ps[p].set i (k,v));rw[List.length_set]at a7;have a8:=zbo (zbo ho (i:=i*2) (by omega) (.slice A1 nk c1)) (i:=i*2+1) (by omega) (.slice A2 nv c2);have b0:∀b,DD D w W b->¬b=gp:=fun b hb e=>by subst e;exact a3.2.2 hb
 have a5:EntsAt (DD D w W) ((W.setCell ⟨gp,i*2,none⟩ (.slice A1 nk c1)).setCell ⟨gp,i*2+1,none⟩ (.slice A2 nv c2)) ((cs.set (i*2) (.slice A1 nk c1)).set (i*2+1) (.slice A2 nv c2)) (ps[p].set i (k,v)):=
  ((he.imp (fun _ _ hb=>hb.mono h.dsub.1)).set hi (e:=(k,v)) h.kd h.vd).imp (fun _ _ hb=>hb.upd hS b0)
 have a2:vs.set p (.slice (some ⟨gp,0,none⟩) ps[p].length cp)=vs:=set_self hv;have hU:Upd (touch bm A n c vs p) W ((W.setCell ⟨gp,i*2,none⟩ (.slice A1 nk c1)).setCell ⟨gp,i*2+1,none⟩ (.slice A2 nv c2)):=hS.mono (fun b _ e=>.inr (.inr ⟨_,hv,by rw[e];rfl⟩));have a4:=a1.page_set (N':=(ps.set p (ps[p].set i (k,v))).flatten.length) hp hU
  (by
    obtain⟨t,ht⟩:=a1.blk;exact⟨t,by rw[hS.block bm a1.bm_lt (Ne.symm a3.1),ht,show(ps.set p (ps[p].set i (k,v))).flatten.length=ps.flatten.length by omega]⟩)
  (by rw[a2];exact zae a1.row (fun b hb hl=>hS.block b hl (fun e=>by subst e;exact a3.2.1 hb)))
  (fun b hb=>hb) (fun b hb=>.inl hb) (fun b hb=>zqL (a1.lim b hb) hS.size)
  (v':=.slice (some ⟨gp,0,none⟩) ps[p].length cp) (l':=ps[p].set i (k,v)) ⟨_,by rw[List.length_set];exact a8,a5⟩
  (fun b hb=>.inl ⟨_,hv,hb⟩) (fun b hb=>by cases hb;exact a3.2.2) (by simp[Value.ownBlock])
 rw[a2]at a4;have a9:∀l ∈ ps.set p (ps[p].set i (k,v)),l.length<=32:=fun l hl=>by
  rcases List.mem_or_eq_of_mem_set hl with hl|rfl
  · exact h.map.few l hl
  · rw[List.length_set];exact few_len h.map hp
 refine set_end h hF (raw_flat a4 rfl e2 a9) (fun b hb=>?_) (hU.mono (fun b _ hb=>touch_foot hb)) e1;rcases hb with hb|hb|hb|hb
 · exact .inl (.inl hb)
 · exact .inl (.inr (.inl hb))
 · exact .inl (.inr (.inr (.inl hb)))
 · exact(h.dsub.2.2 b hb).imp (fun hb=>.inr (.inr (.inr hb))) id
end
end Gz
namespace Gz
open Go Go.RowKit Go.Proofs Gl
section
variable {base bm n c bx nk nv c1 c2 p i g0 gp cp m:Nat} {w W W5 W6 W7 W8 W10 W12:World} {A1 A2:Option Addr} {vs cs:List Value} {D F:Nat->Prop} {ps:List (List Ent)} {k v:Bs}
structure PutS (base bm n c N:Nat) (w W W7:World) (g0:Nat) (vs:List Value) (D:Nat->Prop) (ps:List (List Ent)) (p g' m' c':Nat) (cs':List Value):Prop where
 raw:MapRaw 182 251 base W7 bm (DD D w W) (some ⟨g0,0,none⟩) n c N vs ps
 at_:vs[p]?=some (.slice (some ⟨g',0,none⟩) m' c')
 hp:p<ps.length
 len:∀l,ps[p]?=some l->l.length=m'
 own:W7.ownsRow base 182 2 (.slice (some ⟨g',0,none⟩) m' c') m' cs'
 ents:∀l,ps[p]?=some l->EntsAt (DD D w W) W7 cs' l
theorem put_state (h:SetS base bm n c w W bx (some ⟨g0,0,none⟩) vs D ps (.slice A1 nk c1) (.slice A2 nv c2) k v) (hp:p<ps.length) (hi:i<=ps[p].length) (hm:m=ps[p].length) (hv:vs[p]?=some (.slice (some ⟨gp,0,none⟩) m cp)) (ho:W.ownsRow base 182 2 (.slice (some ⟨gp,0,none⟩) m cp) m cs) (he:EntsAt D W cs ps[p])
 (h5:Upd (fun b=>b=bm) W W5) (hb5:∃t,W5.heap[bm]?=some (.cells #[.slice (some ⟨g0,0,none⟩) n c,.int .i64 ((ps.flatten.length+1:Nat):Int)] t (0,0))) {x:Ending} (hins:Inserted base 182 2 W5 gp m (cs.take (i*2) ++ [.slice A1 nk c1,.slice A2 nv c2] ++ cs.drop (i*2)) x W6):
 ∃g' c',x=.returned (.slice (some ⟨g',0,none⟩) (m+1) c')/\W6.cell? ⟨bm,0,none⟩=some (.slice (some ⟨g0,0,none⟩) n c)/\(∃u,W6.cell? ⟨g0,p,none⟩=some u)/\W6.frozen? ⟨g0,p,none⟩=false /\
  PutS base bm n c (ps.flatten.length+1) w W (W6.setCell ⟨g0,p,none⟩ (.slice (some ⟨g',0,none⟩) (m+1) c')) g0 (vs.set p (.slice (some ⟨g',0,none⟩) (m+1) c')) D (ps.set p (ps[p].take i ++ [(k,v)] ++ ps[p].drop i)) p g' (m+1) c' (cs.take (i*2) ++ [.slice A1 nk c1,.slice A2 nv c2] ++ cs.drop (i*2)) /\
  Upd (touch bm (some ⟨g0,0,none⟩) n c vs p) W (W6.setCell ⟨g0,p,none⟩ (.slice (some ⟨g',0,none⟩) (m+1) c')):=by
 obtain⟨g',c',rfl,b6,b7,a6⟩:=hins;have hw:=h.wide;have a3:=hw.away p _ gp hv rfl;have d6:gp<W.heap.size:=(zal ho (c:=gp) rfl).1;have hU:Upd (fun b=>b=bm\/(Value.slice (some ⟨gp,0,none⟩) m cp).ownBlock=some b) W W6:=(h5.mono (fun _ _ e=>.inl e)).trans (b7.mono (fun b _ e=>.inr (by rw[e];rfl)));have a8:∃t,W6.heap[bm]?=some (.cells #[.slice (some ⟨g0,0,none⟩) n c,.int .i64 ((ps.flatten.length+1:Nat):Int)] t (0,0)):=by
  obtain⟨t,ht⟩:=hb5;exact⟨t,(b7.block bm (zqA.1 ht).1 (Ne.symm a3.1)).trans ht⟩
 have hl:m+1=(ps[p].take i ++ [(k,v)] ++ ps[p].drop i).length:=by
  rw[List.length_append,List.length_append,List.length_take,List.length_drop,Nat.min_eq_left hi];simp;omega
 have c5:∀b,DD D w W b->¬(b=bm\/(Value.slice (some ⟨gp,0,none⟩) m cp).ownBlock=some b):=fun b hb e=>by
  rcases e with e|e
  · exact hw.dm (e▸hb)
  · simp[Value.ownBlock]at e;exact a3.2.2 (e▸hb)
 have a1:EntsAt (DD D w W) W6 (cs.take (i*2) ++ [.slice A1 nk c1,.slice A2 nv c2] ++ cs.drop (i*2)) (ps[p].take i ++ [(k,v)] ++ ps[p].drop i):=by
  have a9:EntsAt (DD D w W) W cs ps[p]:=he.imp (fun _ _ hb=>hb.mono h.dsub.1);have h1:EntsAt (DD D w W) W [.slice A1 nk c1,.slice A2 nv c2] [(k,v)]:=⟨h.kd,h.vd,trivial⟩
  exact(((a9.take i).append h1).append (a9.drop i)).imp (fun _ _ hb=>hb.upd hU c5)
 have c6:(Value.slice (some ⟨gp,0,none⟩) m cp).ownBlock=some g'\/W.heap.size<=g':=a6.imp (fun e=>by rw[e];rfl) (fun e=>zT h5.size e);have d0:¬DD D w W g':=fun hd=>by
  rcases a6 with e|e
  · exact a3.2.2 (e▸hd)
  · have:=h.dsub.2.1 _ hd;have:=h5.size;omega
 obtain⟨r1,r2⟩:=raw_replace hw.toMapRaw hp hv hU a8 (fun _ hb=>hb) (fun _ hb=>.inl hb) (fun b hb=>zqL (h.dsub.2.1 b hb) hU.size) b6 hl a1 c6 d0;have d9:g0<W.heap.size:=(zal hw.row (c:=g0) rfl).1;have d5:g0≠bm:=fun e=>hw.bmA (by simp[Value.ownBlock,e]);have a5:gp≠g0:=fun e=>a3.2.1 (by rw[e];rfl);have a2:W6.ownsRow base 251 1 (.slice (some ⟨g0,0,none⟩) n c) n vs:=zae hw.row (fun b hb hl=>hU.block b hl (fun e=>by
  simp[Value.ownBlock]at hb;subst hb;rcases e with e|e
  · exact d5 e
  · simp[Value.ownBlock]at e;exact a5 e))
 have b0:p<vs.length:=by rw[hw.len];exact hp
 have b5:g'≠g0:=fun e=>by
  rcases a6 with e2|e2
  · exact a5 (e2.symm.trans e)
  · have:=h5.size;omega
 have hS:Upd (fun b=>b=g0) W6 (W6.setCell ⟨g0,p,none⟩ (.slice (some ⟨g',0,none⟩) (m+1) c')):=Upd.setCell W6 _ rfl;refine⟨g',c',rfl,?_,?_,own_frozen a2 p,⟨r1,by rw[List.getElem?_set,if_pos rfl,if_pos b0],by rw[List.length_set];exact hp,fun l hl2=>?_,?_,fun l hl2=>?_⟩,r2⟩
 · obtain⟨t,ht⟩:=a8;exact zaa ht 0 _ rfl
 · have:=(Sl.of_own a2).cell rfl (zG b0);rw[Nat.zero_add]at this;exact⟨_,this⟩
 · rw[List.getElem?_set,if_pos rfl,if_pos hp]at hl2;cases hl2;exact hl.symm
 · exact zae b6 (fun b hb hl=>hS.block b hl (fun e=>by
    simp[Value.ownBlock]at hb;exact b5 (hb.trans e)))
 · rw[List.getElem?_set,if_pos rfl,if_pos hp]at hl2;cases hl2;refine a1.imp (fun _ _ hb=>hb.upd hS (fun b hd e=>?_));subst e;exact hw.dA _ rfl hd
theorem half_state {N m' g' c' g8 c8:Nat} {cs':List Value} (h:PutS base bm n c N w W W7 g0 vs D ps p g' m' c' cs') (h16:16<m') (h8:New W7 W8) (ho8:W8.ownsRow W7.heap.size 182 2 (.slice (some ⟨g8,0,none⟩) 16 c8) 16 (cs'.take 32)) (hg8:W7.heap.size<=g8) (hD7:∀b,DD D w W b->b<W7.heap.size):
 MapRaw 182 251 base (W8.setCell ⟨g0,p,none⟩ (.slice (some ⟨g8,0,none⟩) 16 c8)) bm (DD D w W) (some ⟨g0,0,none⟩) n c N (vs.set p (.slice (some ⟨g8,0,none⟩) 16 c8)) (ps.set p ((ps[p]'h.hp).take 16)) /\
  Upd (touch bm (some ⟨g0,0,none⟩) n c vs p) W7 (W8.setCell ⟨g0,p,none⟩ (.slice (some ⟨g8,0,none⟩) 16 c8)):=by
 have hl:=h.len _ (zG h.hp);have he:=h.ents _ (zG h.hp);have a2:=h.raw.bm_lt;have a1:base<=W7.heap.size:=zT h.raw.hb (Nat.le_of_lt a2);refine raw_replace h.raw h.hp h.at_ (h8.mono (fun _ _ e=>e.elim)) ?_ (fun _ hb=>hb) (fun _ hb=>.inl hb) (fun b hb=>zqL (hD7 b hb) h8.size) (own_base ho8 a1) (by rw[List.length_take];omega) ((he.take 16).imp (fun _ _ hb=>hb.upd h8 (fun _ _=>id))) (.inr hg8) (fun hd=>by have:=hD7 _ hd;omega)
 obtain⟨t,ht⟩:=h.raw.blk;exact⟨t,(h8.block bm a2 id).trans ht⟩
theorem split_state {N m'':Nat} {W9 W11:World} {vs9 cs2:List Value} {D':Nat->Prop} {ps9:List (List Ent)} {l2:List Ent} {g10 c10:Nat} (h:MapRaw 182 251 base W9 bm D' (some ⟨g0,0,none⟩) n c N vs9 ps9) (hp:p<ps9.length) (h11:New W9 W11) (ho10:W11.ownsRow W9.heap.size 182 2 (.slice (some ⟨g10,0,none⟩) m'' c10) m'' cs2) (hg10:W9.heap.size<=g10) (hm'':m''=l2.length) (he:EntsAt D' W11 cs2 l2)
 {x:Ending} (hins:Inserted base 251 1 W11 g0 n (vs9.take (p+1) ++ [.slice (some ⟨g10,0,none⟩) m'' c10] ++ vs9.drop (p+1)) x W12):
 ∃g2 c2,x=.returned (.slice (some ⟨g2,0,none⟩) (n+1) c2)/\(∃u,W12.cell? ⟨bm,0,none⟩=some u)/\W12.frozen? ⟨bm,0,none⟩=false /\
  MapRaw 182 251 base (W12.setCell ⟨bm,0,none⟩ (.slice (some ⟨g2,0,none⟩) (n+1) c2)) bm D' (some ⟨g2,0,none⟩) (n+1) c2 N (vs9.take (p+1) ++ [.slice (some ⟨g10,0,none⟩) m'' c10] ++ vs9.drop (p+1)) (ps9.take (p+1) ++ [l2] ++ ps9.drop (p+1)) /\
  Upd (fun b=>b=bm\/b=g0) W9 (W12.setCell ⟨bm,0,none⟩ (.slice (some ⟨g2,0,none⟩) (n+1) c2))/\(g2=g0\/W9.heap.size<=g2):=by
 obtain⟨g2,c2,rfl,b5,a3,a5⟩:=hins;have b0:=h.bm_lt;have a4:base<=W9.heap.size:=zT h.hb (Nat.le_of_lt b0);have b9:g0<W9.heap.size:=(zal h.row (c:=g0) rfl).1;have a7:g0≠bm:=fun e=>h.bmA (by simp[Value.ownBlock,e]);have a1:MapRaw 182 251 base W11 bm D' (some ⟨g0,0,none⟩) n c N vs9 ps9:=h.upd h11 (fun _ _=>id);have a2:∃t,W12.heap[bm]?=some (.cells #[.slice (some ⟨g0,0,none⟩) n c,.int .i64 (N:Int)] t (0,0)):=by
  obtain⟨t,ht⟩:=a1.blk;exact⟨t,(a3.block bm a1.bm_lt (Ne.symm a7)).trans ht⟩
 have hS:Upd (fun b=>b=bm) W12 (W12.setCell ⟨bm,0,none⟩ (.slice (some ⟨g2,0,none⟩) (n+1) c2)):=Upd.setCell W12 _ rfl;have hU:Upd (fun b=>b=bm\/b=g0) W11 (W12.setCell ⟨bm,0,none⟩ (.slice (some ⟨g2,0,none⟩) (n+1) c2)):=(a3.mono (fun _ _ e=>.inr e)).trans (hS.mono (fun _ _ e=>.inl e));have a8:g2≠bm:=fun e=>by
  rcases a5 with e2|e2
  · exact a7 (e2.symm.trans e)
  · have:=h11.size;omega
 have a9:g2=g0\/W9.heap.size<=g2:=a5.imp id (fun e=>zT h11.size e);refine⟨g2,c2,rfl,?_,?_,a1.page_ins (by omega) (hU.mono (fun b _ e=>e.imp id (fun e=>by rw[e];rfl))) ?_ ?_ ?_ ⟨cs2,by rw[<-hm''];exact own_base ho10 a4,he⟩ (g':=g10) rfl ?_ ?_,(h11.mono (fun _ _ e=>e.elim)).trans hU,a9⟩
 · obtain⟨t,ht⟩:=a2;exact⟨_,zaa ht 0 _ rfl⟩
 · obtain⟨t,ht⟩:=a2;exact zad ht 0
 · obtain⟨t,ht⟩:=a2;exact⟨t,zac ht _ (i:=0)⟩
 · exact zae b5 (fun b hb hl=>hS.block b hl (fun e=>by
    simp[Value.ownBlock]at hb;exact a8 (hb.trans e)))
 · intro b hb;simp[Value.ownBlock]at hb;subst hb;exact a5.imp (fun e=>by rw[e];rfl) id
 · intro j x hx e;obtain⟨l,_,hl⟩:=h.page_at hx;have:=hl.lt e;omega
 · refine⟨by omega,fun e=>?_,fun hd=>?_⟩
   · simp[Value.ownBlock]at e;omega
   · have:=h.lim _ hd;omega
structure Pre (base bm n c N:Nat) (w W3 W4:World) (g0:Nat) (vs:List Value) (D:Nat->Prop) (ps:List (List Ent)):Prop where
 upd:Upd (fun b=>b=bm) W3 W4
 blk:∃t,W4.heap[bm]?=some (.cells #[.slice (some ⟨g0,0,none⟩) n c,.int .i64 ((N+1:Nat):Int)] t (0,0))
theorem Pre.of (h:MapRaw 182 251 base W5 bm D (some ⟨g0,0,none⟩) n c m vs ps):Pre base bm n c m w W5 (W5.setCell ⟨bm,1,none⟩ (.int .i64 ((m:Int)+1))) g0 vs D ps:=by
 obtain⟨t,ht⟩:=h.blk;exact⟨Upd.setCell (S:=fun b=>b=bm) (a:=⟨bm,1,none⟩) W5 _ rfl,t,zac ht _ (i:=1)⟩
theorem foot_put {A:Option Addr} {g' m' c' b:Nat} (hA:A=some ⟨g0,0,none⟩) (hv:p<vs.length) (hb:foot bm D A n c (vs.set p (.slice (some ⟨g',0,none⟩) m' c')) b):foot bm D A n c vs b\/b=g':=by
 rcases hb with hb|hb|⟨x,hx,hb⟩|hb
 · exact .inl (.inl hb)
 · exact .inl (.inr (.inl hb))
 · rcases List.mem_or_eq_of_mem_set hx with hx|rfl
   · exact .inl (.inr (.inr (.inl ⟨x,hx,hb⟩)))
   · simp[Value.ownBlock]at hb;exact .inr hb.symm
 · exact .inl (.inr (.inr (.inr hb)))
theorem put_end {g' c':Nat} {cs':List Value} (h:SetS base bm n c w W bx (some ⟨g0,0,none⟩) vs D ps (.slice A1 nk c1) (.slice A2 nv c2) k v) (hF:∀b,foot bm D (some ⟨g0,0,none⟩) n c vs b->F b) (hf:Gl.Found ps k p i false) (hp:p<ps.length) (hm:m=ps[p].length) (h32:m+1<=32) (hg':(∃v,vs[p]?=some v/\v.ownBlock=some g')\/w.heap.size<=g')
 (hP:PutS base bm n c (ps.flatten.length+1) w W W7 g0 (vs.set p (.slice (some ⟨g',0,none⟩) (m+1) c')) D (ps.set p (ps[p].take i ++ [(k,v)] ++ ps[p].drop i)) p g' (m+1) c' cs') (hU:Upd (touch bm (some ⟨g0,0,none⟩) n c vs p) W W7):
 SetEnd base bm F w (put ps.flatten k v) (.returned (.bool true)) W7:=by
 obtain⟨_,hi,e1,e2,e3⟩:=set_new (v:=v) h.map.good hf;have a1:p<vs.length:=by rw[h.map.len];exact hp
 refine set_end h hF (raw_flat hP.raw (by rw[e1,e3]) e2 fun l hl=>?_) (fun b hb=>?_) (hU.mono (fun b _ hb=>touch_foot hb)) e1
 · rcases List.mem_or_eq_of_mem_set hl with hl|rfl
   · exact h.map.few l hl
   · rw[List.length_append,List.length_append,List.length_take,List.length_drop,Nat.min_eq_left hi];simp;omega
 · rcases foot_put rfl a1 hb with hb|rfl
   · rcases hb with hb|hb|hb|hb
     · exact .inl (.inl hb)
     · exact .inl (.inr (.inl hb))
     · exact .inl (.inr (.inr (.inl hb)))
     · exact(h.dsub.2.2 b hb).imp (fun hb=>.inr (.inr (.inr hb))) id
   · rcases hg' with⟨x,hx,e⟩|e
     · exact .inl (.inr (.inr (.inl ⟨x,List.mem_of_getElem? hx,e⟩)))
     · exact .inr e
theorem split_end {g8 c8 g10 c10 g2 c2':Nat} {W13:World} (h:SetS base bm n c w W bx (some ⟨g0,0,none⟩) vs D ps (.slice A1 nk c1) (.slice A2 nv c2) k v) (hF:∀b,foot bm D (some ⟨g0,0,none⟩) n c vs b->F b) (hf:Gl.Found ps k p i false) (hp:p<ps.length) (hm:ps[p].length=32)
 (hr:MapRaw 182 251 base W13 bm (DD D w W) (some ⟨g2,0,none⟩) (n+1) c2' (ps.flatten.length+1) ((vs.set p (.slice (some ⟨g8,0,none⟩) 16 c8)).take (p+1) ++ [.slice (some ⟨g10,0,none⟩) 17 c10] ++ (vs.set p (.slice (some ⟨g8,0,none⟩) 16 c8)).drop (p+1))
   ((ps.set p ((ps[p].take i ++ [(k,v)] ++ ps[p].drop i).take 16)).take (p+1) ++ [(ps[p].take i ++ [(k,v)] ++ ps[p].drop i).drop 16] ++ (ps.set p ((ps[p].take i ++ [(k,v)] ++ ps[p].drop i).take 16)).drop (p+1)))
 (hU:Upd (foot bm D (some ⟨g0,0,none⟩) n c vs) W W13) (hg8:w.heap.size<=g8) (hg10:w.heap.size<=g10) (hg2:g2=g0\/w.heap.size<=g2):
 SetEnd base bm F w (put ps.flatten k v) (.returned (.bool true)) W13:=by
 obtain⟨_,hi,e1,e2,e3⟩:=set_new (v:=v) h.map.good hf;obtain⟨l',a5⟩:∃l',l'=ps[p].take i ++ [(k,v)] ++ ps[p].drop i:=⟨_,rfl⟩
 rw[<-a5]at hr e1 e2;have b5:l'.length=33:=by
  rw[a5,List.length_append,List.length_append,List.length_take,List.length_drop,Nat.min_eq_left hi];simp;omega
 have a6:p<(ps.set p l').length:=by rw[List.length_set];exact hp
 have a3:(ps.set p l')[p]=l':=by simp
 obtain⟨s1,s2⟩:=split_page (h:=16) a6 e2 (by omega) (by rw[a3];omega);rw[a3]at s1 s2;have a7:=split_shape ps hp (l'.take 16) (l'.drop 16);have a8:(ps.set p l').take p=ps.take p:=List.take_set_of_le (zR _);have a9:(ps.set p l').drop (p+1)=ps.drop (p+1):=List.drop_set_of_lt (by omega);rw[a8,a9]at s1 s2;rw[a7]at hr;have a4:(ps.take p ++ [l'.take 16,l'.drop 16] ++ ps.drop (p+1)).flatten=put ps.flatten k v:=s2.trans e1;refine set_end h hF (raw_flat hr (by rw[a4,e3]) s1 fun l hl=>?_) (fun b hb=>?_) hU a4
 · rcases List.mem_append.1 hl with hl|hl
   · rcases List.mem_append.1 hl with hl|hl
     · exact h.map.few l (List.mem_of_mem_take hl)
     · simp only[List.mem_cons,List.not_mem_nil,or_false]at hl;rcases hl with rfl|rfl
       · rw[List.length_take];omega
       · rw[List.length_drop];omega
   · exact h.map.few l (List.mem_of_mem_drop hl)
 · have hx:∀x ∈ (vs.set p (.slice (some ⟨g8,0,none⟩) 16 c8)).take (p+1) ++ [.slice (some ⟨g10,0,none⟩) 17 c10] ++ (vs.set p (.slice (some ⟨g8,0,none⟩) 16 c8)).drop (p+1),x ∈ vs\/x=.slice (some ⟨g8,0,none⟩) 16 c8\/x=.slice (some ⟨g10,0,none⟩) 17 c10:=fun x hx=>by
    rcases List.mem_append.1 hx with hx|hx
    · rcases List.mem_append.1 hx with hx|hx
      · rcases List.mem_or_eq_of_mem_set (List.mem_of_mem_take hx) with hx|hx
        · exact .inl hx
        · exact .inr (.inl hx)
      · simp only[List.mem_cons,List.not_mem_nil,or_false]at hx;exact .inr (.inr hx)
    · rcases List.mem_or_eq_of_mem_set (List.mem_of_mem_drop hx) with hx|hx
      · exact .inl hx
      · exact .inr (.inl hx)
   rcases hb with hb|hb|⟨x,b0,hb⟩|hb
   · exact .inl (.inl hb)
   · simp[Value.ownBlock]at hb;subst hb;exact hg2.imp (fun e=>.inr (.inl (by rw[e];rfl))) id
   · rcases hx x b0 with hv|rfl|rfl
     · exact .inl (.inr (.inr (.inl ⟨x,hv,hb⟩)))
     · simp[Value.ownBlock]at hb;exact .inr (by omega)
     · simp[Value.ownBlock]at hb;exact .inr (by omega)
   · exact(h.dsub.2.2 b hb).imp (fun hb=>.inr (.inr (.inr hb))) id
end
end Gz

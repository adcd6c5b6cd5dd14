/- Part of the proof. -/
import Derived.Test.YtbhnjkegkadodaaGreatDoorG19
set_option linter.all false
set_option maxRecDepth 100000
set_option maxHeartbeats 8000000
namespace Gl
open Go Go.RowKit
theorem zbg {F:Fence} {n0:Nat} {P:Program} (w:World) {ops:Array Oper} {rest:List Oper} {o:Oper} {a:Act} {Q:Exit->Act->World->Prop} (hgd:o.guard=none) (s x:Operand) (t:TypeId)
 (hop:o.op=.call { callee:=.builtin .append,args:=#[s,x],argTypes:=#[t,t] })
 (base:Nat) (e:TypeId) (i:TypeInfo) (z:Value) (size bytes:Nat) (ht:P.underlying t=some (.slice e)) (hi:P.info? e=some i) (hz:i.zero=some z)
 (hsize:i.size=size) (hby:i.bytes=bytes) (hzs:z.cells.size=size) (hsz:0<size)
 (v:Value) (n:Nat) (xs:List Value) (hs:a.eval s=v) (hown:w.ownsRow base e size v n xs)
 (A:Option Addr) (m c:Nat) (news:List Value) (hx:a.eval x=.slice A m c) (hl:news.length=m*size) (hsrc:Src w A m news) (h1:∀u ∈ news,u.oneCell'=true)
 (h63:n+m<=maxLen) (hbytes:(n+m)*bytes<=140737488355328) (hbase:base<=w.heap.size)
 (h:∀A' c' w',w'.ownsRow base e size (.slice A' (n+m) c') (n+m) (xs ++ news)->w.grownBy w' v.ownBlock → ((Value.slice A' (n+m) c').ownBlock=v.ownBlock\/(Value.slice A' (n+m) c').ownBlock=some w.heap.size)->wpListIn F n0 P ops Q rest (a.put o.dst (.slice A' (n+m) c')) w'):
 wpListIn F n0 P ops Q (o :: rest) a w:=by
 refine wpListIn_plain hgd fun K hK=>?_
 obtain⟨v',w',hr,h2,h3,h4⟩:=run_append_src (P:=P) w base t o.type e i z size bytes ht hi hz hsize hby hzs hsz v n xs hown A m c news hl hsrc h1 h63 hbytes hbase
 obtain⟨A',c',rfl⟩:=ownsRow_form h2
 unfold Oper.wpIn
 refine⟨?_,?_⟩
 · simp[Oper.about,hop,resolve,Target.leads,Sem.run_pure]
 · rw[Oper.semAt_plain F _ _ (by rw[hop];intro c hc';cases hc')]
   simp[execOp,hop,resolve,invoke,builtin,hs,hx,hr,Result.andThen]
   exact hK _ _ (h A' c' w' h2 h3 h4)
end Gl
namespace Go.Proofs.YtbhnjkegkadodaaGreatDoor
open Go Go.RowKit Go.Proofs Gl Go.Shelf
attribute [local go_sem] Oper.semAt_some
theorem info115:(Tryz.prog.info? 115).map (fun i=>(i.zero,i.size,i.bytes))=some (some (.agg #[.slice none 0 0,.slice none 0 0]),2,48):=by kernel_rfl
def Dumped (w0:World) (L:List Ent) (e:Ending) (w':World):Prop:=∃A n c cells,e=.returned (.slice A n c)/\n=L.length/\Sl 2 w' A n c cells/\EntsAt (fun b=>w0.heap.size<=b) w' cells L/\New w0 w'/\(∀a,A=some a->w0.heap.size<=a.block)
def DumpI (w:World) (ob:Nat) (Z:Nat) (pre:List Ent) (V:World):Prop:=∃v cells,V.heap[ob]?=some (.cells #[v] 37 (0,0))/\V.ownsRow w.heap.size 115 2 v pre.length cells/\EntsAt (fun b=>Z<=b/\v.ownBlock≠some b) V cells pre/\(∀g,v.ownBlock=some g->Z<=g)/\New w V/\ob<Z
theorem dump_c {base bm n c bs:Nat} {w:World} {D:Nat->Prop} {A:Option Addr} {vs:List Value} {ps:List (List Ent)} (hs:StoB w bs bm) (hm:MapIn 182 251 base w bm D A n c vs ps) (hlen:ps.flatten.length<=1000000) (hsz:∀e ∈ ps.flatten,e.1.length<=1073741824/\e.2.length<=1073741824):
 Calls Tryz.prog 17 #[.pointer (some ⟨bs,0,none⟩)] w (Dumped w ps.flatten):=by
 obtain⟨css,hc⟩:=hm.named
 obtain⟨k,hk⟩:=hs
 obtain⟨WA,hWA⟩:∃WA,WA=w.alloc (.cells #[.slice none 0 0] 37):=⟨_,rfl⟩
 have hal:New w WA:=by rw[hWA];exact Upd.alloc _ _ _
 have hWAs:WA.heap.size=w.heap.size+1:=by rw[hWA];show(w.heap.push _).size=_;simp
 have hob:WA.heap[w.heap.size]?=some (.cells #[.slice none 0 0] 37 (0,0)):=by rw[hWA];exact Ex.alloc_new w _
 have hc0:=zaa ((hal.block bs (zqA.1 hk).1 id).trans hk) 0 (.pointer (some ⟨bm,0,none⟩)) rfl
 have hflW:∀b,foot bm D A n c vs b->b<w.heap.size:=fun b hb=>hm.toMapRaw.foot_lt hb
 have HC:=zqH hc;have HL:=zqH hlen;have HSZ:=zqH hsz;have HAL:=zqH hal;have HFL:=zqH hflW;have HOB:=zqH hob
 clear hc hm hlen hsz hal hflW hk hob
 refine(callsIn_wide (n:=0)).1 ?_
 refine callsIn_of_wp_marks Tryz.func17 rfl trivial ?_ rfl
 simp only[Tryz.ntmps17,List.size_toArray,List.length_cons,List.length_nil,Nat.reduceAdd,Nat.reduceSub,Array.replicate_succ,Array.replicate_zero,List.push_toArray,List.append_toArray,List.nil_append,List.cons_append]
 rw[hWA]at hc0
 gi_wp2_with (refine⟨trivial,rfl,?_⟩;gi_at_call 57;refine(callsIn_wide.2 walk_c).mono ?_;rintro e w1 ⟨b1,b2,b3,rfl,hn1,hb,h1,h2,h3⟩;have H1:=zqH (And.intro hn1 (And.intro hb (And.intro h1 (And.intro h2 h3))));clear hn1 hb h1 h2 h3)
 have hn1:New WA w1:=by rw[hWA];exact H1.out.1
 have hb123:w.heap.size+1<=b1/\w.heap.size+1<=b2/\w.heap.size+1<=b3:=by rw[<-hWAs,hWA];exact H1.out.2.1
 have hnW:New w w1:=HAL.out.trans hn1
 have l1:b1<w1.heap.size:=zqB w1 ⟨b1,0,none⟩ H1.out.2.2.1
 have l2:b2<w1.heap.size:=zqB w1 ⟨b2,0,none⟩ H1.out.2.2.2.1
 have l3:b3<w1.heap.size:=zqB w1 ⟨b3,0,none⟩ H1.out.2.2.2.2
 have hw1:Wlk base bm n c b1 b2 b3 D A vs ps css w1:=⟨HC.out.upd hnW (fun _ _=>id),H1.out.2.2.1,H1.out.2.2.2.1,H1.out.2.2.2.2⟩
 have hob1:w1.heap[w.heap.size]?=some (.cells #[.slice none 0 0] 37 (0,0)):=(hn1.block _ (by omega) id).trans HOB.out
 have hsz1:=hn1.size
 have HW1:=zqH hw1;have HNW:=zqH hnW;have HOB1:=zqH hob1
 clear hn1 hw1 hnW hob1
 refine zbb (gf:=108) (lb:=#[.pointer (some ⟨b1,0,none⟩),.pointer (some ⟨b2,0,none⟩),.pointer (some ⟨b3,0,none⟩)]) rfl (fun args w=>zas 108 Tryz.func108 (by kernel_rfl) (by kernel_rfl) args w)
  (walk1_gives (base:=base) (bm:=bm) (n:=n) (c:=c) (D:=D) (A:=A) (vs:=vs) (ps:=ps) (css:=css) HL.out HSZ.out w1 HW1.out) (fun x _ _ vals he=>by obtain⟨_,_,_,_,_,_,e,_⟩:=he;rw[e];rfl) (fun b h=>h.elim)
  (fun P Q hk hu=>hk.upd hu (fun b hb=>by have:=HFL.out b hb;omega) (by omega) (by omega) (by omega)) HW1.out
  (fun x W0 P Q vals hz he hu=>hu.elim (fun hu=>he.upd hu (fun _ _=>id)) (fun hu=>he.upd hu (fun b hb=>by omega)))
  (fun Z (pre:List Ent) V=>DumpI w w.heap.size Z pre V) (fun _ _ _ _=>False)
  (fun Z hZ s P Q hs hu=>by
    obtain⟨v,cells,g1,g2,g3,g4,g5,g6⟩:=hs
    have hnp:∀b,Z<=b->¬Priv (fun _=>False) w1.heap.size Z b:=fun b hb h=>h.elim id (fun h=>by omega)
    exact⟨v,cells,(hu.block _ (zqA.1 g1).1 (fun h=>h.elim id (fun h=>by omega))).trans g1,zae g2 (fun b hb hl=>hu.block b hl (hnp b (g4 b hb))),g3.imp (fun _ _ hb=>hb.upd hu (fun b hb=>hnp b hb.1)),g4,g5.then hu (fun b hb h=>h.elim id (fun h=>by omega)),g6⟩)
  (fun Z cd hZ s P Q hs hu=>hs)
  (fun Z hZ=>⟨.slice none 0 0,[],HOB1.out,World.ownsRow_nil _ _ _ _,trivial,(fun g hg=>by cases hg),HNW.out,by omega⟩)
  (fun W0 vals a' V=>∃k1 n1 e1 k2 n2 e2,vals=#[.slice k1 n1 e1,.slice k2 n2 e2]/\a' = { tmps:=#[.pointer (some ⟨bs,0,none⟩),undef,.slice none 0 0,.pointer (some ⟨w.heap.size,0,none⟩),.slice k1 n1 e1,.slice k2 n2 e2,.pointer (some ⟨bs,0,none⟩),.pointer (some ⟨bs,0,none⟩),.pointer (some ⟨bs,0,none⟩),.pointer (some ⟨bm,0,none⟩),.func (.func 108) #[] #[.pointer (some ⟨b1,0,none⟩),.pointer (some ⟨b2,0,none⟩),.pointer (some ⟨b3,0,none⟩)],.slice k1 n1 e1,.slice k2 n2 e2,undef,undef,undef,undef,undef,undef,undef],defers:=[] })
  (fun W0 vals a' P Q hs hu=>hs)
  ?assign ?body ?done ?stop
 case assign=>
  rintro l2 x W0 V vals K ⟨pre,post,hx⟩ hz hz0 ⟨A1,n1,e1,A2,n2,e2,rfl,g1,g2⟩ hk hK'
  gi_wp2
  exact hK' _ _ (Upd.refl _ _) ⟨A1,n1,e1,A2,n2,e2,rfl,rfl⟩
 case body=>
  rintro Z pre x W0 V vals a' ⟨post,hx⟩ hZ1 hZ2 ⟨v,cells,g1,g2,g3,g4,g5,g6⟩ hu0 hcp ⟨k1,n1,e1,k2,n2,e2,rfl,rfl⟩ hk
  obtain⟨A1,m1,f1,A2,m2,f2,hvals,hcp1,hcp2⟩:=hcp
  simp only[List.cons.injEq,and_true,Array.mk.injEq,Value.slice.injEq]at hvals
  obtain⟨⟨rfl,rfl,rfl⟩,rfl,rfl,rfl⟩:=hvals
  have hnp:∀b,Z<=b->¬Priv (fun _=>False) w1.heap.size Z b:=fun b hb h=>h.elim id (fun h=>by omega)
  have hnp2:∀b,b<w1.heap.size->¬Priv (fun _=>False) w1.heap.size Z b:=fun b hb h=>h.elim id (fun h=>by omega)
  have v1:V.heap[w.heap.size]?=some (.cells #[v] 37 (0,0)):=(hu0.block _ (zqA.1 g1).1 (hnp2 _ (by omega))).trans g1
  have v2:V.ownsRow w.heap.size 115 2 v pre.length cells:=zae g2 (fun b hb hl=>hu0.block b hl (hnp b (g4 b hb)))
  have v3:=g3.imp (fun _ _ hb=>hb.upd hu0 (fun b hb=>hnp b hb.1))
  have vc:=zaa v1 0 v rfl
  have hW0:∀g,v.ownBlock=some g->g<W0.heap.size:=fun g hg=>(zak g2 hg).1
  have hVs:=hu0.size
  have hpl:pre.length<=1000000:=by have h1:=HL.out;rw[hx]at h1;simp at h1;omega
  obtain⟨i0,hi0,hz0,hz1,hz2⟩:=info_parts info115
  have hown:(V.alloc (.cells #[.slice k1 n1 e1,.slice k2 n2 e2] 115)).ownsRow w.heap.size 115 2 v pre.length cells:=zan v2 _ rfl
  have hsrc:Gl.Src (V.alloc (.cells #[.slice k1 n1 e1,.slice k2 n2 e2] 115)) (some ⟨V.heap.size,0,none⟩) 1 [.slice k1 n1 e1,.slice k2 n2 e2]:=fun _=>⟨_,_,rfl,fun j u hu=>by
   rw[Nat.zero_add];exact zaa (Ex.alloc_new V _) j u (by simpa using hu)⟩
  have hwV:w.heap.size<=(V.alloc (.cells #[.slice k1 n1 e1,.slice k2 n2 e2] 115)).heap.size:=by show _<=(V.heap.push _).size;have:=g5.size;simp;omega
  have hbox:∀w2:World,(V.alloc (.cells #[.slice k1 n1 e1,.slice k2 n2 e2] 115)).grownBy w2 v.ownBlock->w2.heap[w.heap.size]?=some (.cells #[v] 37 (0,0)):=fun w2 hg=>by
   have hne:some w.heap.size≠v.ownBlock:=fun e=>by have:=g4 _ e.symm;omega
   have hl:w.heap.size<V.heap.size:=(zqA.1 v1).1
   exact(hg.block _ (by show _<(V.heap.push _).size;simp;omega) hne).trans ((zaj _ hl).trans v1)
  have HOWN:=zqH hown;have HSRC:=zqH hsrc;have HWV:=zqH hwV;have HBOX:=zqH hbox;have HV2:=zqH v2;have HV3:=zqH v3;have H4:=zqH g4;have H5:=zqH g5;have HU0:=zqH hu0;have HCP:=zqH (And.intro hcp1 hcp2);have HKW:=zqH hk;have HWZ:=zqH hW0;have HG1:=zqH v1
  clear hown hsrc hwV hbox v2 v3 g1 g2 g3 g4 g5 hu0 hcp1 hcp2 hk hW0 v1 hx
  gi_wp2_with (gi_at_builtin
               refine zbg _ rfl _ _ _ rfl w.heap.size 115 i0 _ 2 48 Tryz.underlying37 hi0 hz0 hz1 hz2 rfl (by omega) v pre.length cells rfl HOWN.out _ 1 1 [.slice k1 n1 e1,.slice k2 n2 e2] rfl rfl HSRC.out (by simp[Value.oneCell']) (by simp only[maxLen];omega) (by omega) HWV.out ?_
               intro A' c' w2 hown2 hg2 hat2
               have hb2:=HBOX.out w2 hg2
               have hbc:=zaa hb2 0 v rfl
               have hbf:=zac hb2 0
               have HQ:=zqH (And.intro hown2 (And.intro hg2 hat2));clear hown2 hg2 hat2)
  obtain⟨hown2,hg2,hat2⟩:=HQ.out
  obtain⟨v',hv'⟩:∃v',v'=Value.slice A' (pre.length+1) c':=⟨_,rfl⟩
  rw[<-hv']at hown2 hat2 ⊢
  have hu2:Upd (fun b=>v.ownBlock=some b\/b=w.heap.size) V (w2.setCell ⟨w.heap.size,0,none⟩ v'):=((Upd.alloc _ V _).trans (Upd.of_grown hg2 (fun c hc=>.inl hc))).trans (Upd.setCell w2 _ (.inr rfl))
  have hob':v'.ownBlock≠some w.heap.size:=fun e=>by
   rcases hat2 with h|h
   · rw[h]at e;have:=H4.out _ e;omega
   · rw[h]at e
     have e1:(V.alloc (.cells #[.slice k1 n1 e1,.slice k2 n2 e2] 115)).heap.size=V.heap.size+1:=by show(V.heap.push _).size=_;simp
     have:=H5.out.size
     injection e with e;omega
  have hfresh:∀b,v'.ownBlock=some b->v.ownBlock=some b\/V.heap.size<=b:=fun b hb=>by
   rcases hat2 with h|h
   · exact .inl (h▸hb)
   · rw[h]at hb
     have e1:(V.alloc (.cells #[.slice k1 n1 e1,.slice k2 n2 e2] 115)).heap.size=V.heap.size+1:=by show(V.heap.push _).size=_;simp
     injection hb with hb;exact .inr (by omega)
  have hno:∀b,b<Z->b≠w.heap.size->¬(v.ownBlock=some b\/b=w.heap.size):=fun b hb hb2 h=>h.elim (fun h=>by have:=H4.out _ h;omega) hb2
  refine⟨⟨hu2.block _ (by omega) (hno _ (by omega) (by omega)),hu2.block _ (by omega) (hno _ (by omega) (by omega)),hu2.size,fun k hk=>hu2.block k (by omega) (fun h=>?_)⟩,HKW.out.upd hu2 (fun b hb=>hno b (by have:=HFL.out b hb;omega) (by have:=HFL.out b hb;omega)) (hno _ (by omega) (by omega)) (hno _ (by omega) (by omega)) (hno _ (by omega) (by omega)),v',cells ++ [.slice k1 n1 e1,.slice k2 n2 e2],zab hb2 v' (i:=0),?_,?_,?_,?_,g6⟩
  · rcases h with h|h
    · have h1:=H4.out _ h;have h2:=HWZ.out _ h;omega
    · omega
  · rw[List.length_append]
    exact zae hown2 (fun b hb hl=>(Upd.setCell (S:=fun b=>b=w.heap.size) w2 v' rfl).block b hl (fun e=>hob' (e▸hb)))
  · have hold:=HV3.out.imp (D':=fun b=>Z<=b/\v'.ownBlock≠some b) (w':=w2.setCell ⟨w.heap.size,0,none⟩ v') (fun _ _ hb=>(hb.lt.upd hu2 (fun b hb h=>h.elim (fun h=>hb.1.2 h) (fun h=>by have:=hb.1.1;omega))).mono (fun b hb=>⟨hb.1.1,fun e=>(hfresh b e).elim hb.1.2 (fun h=>by have:=hb.2;omega)⟩))
    have hnew:∀u bs',BV (fun b=>W0.heap.size<=b) V u bs'->BV (fun b=>Z<=b/\v'.ownBlock≠some b) (w2.setCell ⟨w.heap.size,0,none⟩ v') u bs':=fun u bs' hb=>
     (hb.lt.upd hu2 (fun b hb h=>h.elim (fun h=>by have:=HWZ.out _ h;omega) (fun h=>by omega))).mono (fun b hb=>⟨by omega,fun e=>(hfresh b e).elim (fun h=>by have:=HWZ.out _ h;omega) (fun h=>by omega)⟩)
    exact hold.append ⟨hnew _ _ HCP.out.1,hnew _ _ HCP.out.2,trivial⟩
  · intro g hg
    rcases hfresh g hg with h|h
    · exact H4.out g h
    · omega
  · refine(H5.out.then (HU0.out) (fun b hb h=>h.elim id (fun h=>by have:=H5.out.size;omega))).then hu2 (fun b hb h=>h.elim (fun h=>by have:=H4.out _ h;omega) (fun h=>by omega))
 case done=>
  rintro Z V hZ1 hZ2 ⟨v,cells,g1,g2,g3,g4,g5,g6⟩ hd _
  have vc:=zaa g1 0 v rfl
  obtain⟨N,hN⟩:∃N,N=ps.flatten.length:=⟨_,rfl⟩
  rw[<-hN]at g2
  obtain⟨A',c',rfl⟩:=ownsRow_form g2
  have HG:=zqH (And.intro g2 (And.intro g3 (And.intro g4 (And.intro g5 hN))))
  clear g1 g2 g3 g4 g5 hN
  gi_wp2
  refine⟨by simp,.inl ⟨_,_,rfl,run_takeDeferred hd,?_⟩⟩
  obtain⟨g2,g3,g4,g5,hN⟩:=HG.out
  have hp:New w (V.putObj w1.heap.size (.deferred none)):=g5.then (Upd.putObj (S:=fun b=>b=w1.heap.size) V _ rfl) (fun b hb e=>by omega)
  have hq:Upd (fun b=>b=w1.heap.size) V (V.putObj w1.heap.size (.deferred none)):=Upd.putObj V _ rfl
  have hge:∀b,Z<=b->¬b=w1.heap.size:=fun b hb e=>by omega
  refine⟨_,results_tmp rfl _ _ _,A',N,c',cells,rfl,hN,Sl.of_own (zae g2 (fun b hb hl=>hq.block b hl (hge b (g4 b hb)))),g3.imp (fun _ _ hb=>(hb.upd hq (fun b hb=>hge b hb.1)).mono (fun b hb=>by have:=hb.1;omega)),hp,fun a ha=>?_⟩
  subst ha
  have:=g4 a.block rfl
  omega
 case stop=>
  rintro Z cd pre x post V hZ1 hZ2 hx h hd
  exact h.elim
end Go.Proofs.YtbhnjkegkadodaaGreatDoor

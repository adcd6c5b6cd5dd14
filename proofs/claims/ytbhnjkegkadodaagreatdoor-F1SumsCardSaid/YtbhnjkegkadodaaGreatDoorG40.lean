/- Part of the proof. -/
import Derived.Test.YtbhnjkegkadodaaGreatDoorG18
set_option linter.all false
set_option maxRecDepth 100000
set_option maxHeartbeats 8000000
namespace Gl
open Go Go.RowKit
theorem zbk {F:Fence} {n0:Nat} {P:Program} (w:World) {ops:Array Oper} {rest:List Oper} {o:Oper} {a:Act} {Q:Exit->Act->World->Prop} (hgd:o.guard=none) (s x:Operand) (t:TypeId)
 (hop:o.op=.call { callee:=.builtin .append,args:=#[s,x],argTypes:=#[t,t] })
 (base:Nat) (e:TypeId) (i:TypeInfo) (z:Value) (size bytes:Nat) (ht:P.underlying t=some (.slice e)) (hi:P.info? e=some i) (hz:i.zero=some z)
 (hsize:i.size=size) (hby:i.bytes=bytes) (hzs:z.cells.size=size) (hsz:0<size)
 (v:Value) (n:Nat) (xs:List Value) (hs:a.eval s=v) (hown:w.ownsRow base e size v n xs)
 (A:Option Addr) (m c:Nat) (news:List Value) (hx:a.eval x=.slice A m c) (hl:news.length=m*size) (hsrc:Src w A m news) (h1:∀u ∈ news,u.oneCell'=true)
 (h63:n+m<=maxLen) (hbytes:(n+m)*bytes<=140737488355328) (hbase:base<=w.heap.size)
 (h:∀A' c' w',w'.ownsRow base e size (.slice A' (n+m) c') (n+m) (xs ++ news)->w.grownBy w' v.ownBlock → ((Value.slice A' (n+m) c').ownBlock=v.ownBlock\/(Value.slice A' (n+m) c').ownBlock=some w.heap.size)->wpListIn F n0 P ops Q rest (a.put o.dst (.slice A' (n+m) c')) w'):
 wpListIn F n0 P ops Q (o :: rest) a w:=by
 refine wpListIn_plain hgd fun K hK=>?_
 obtain⟨v',w',hr,h2,h3,h4⟩:=run_append_src (P:=P) w base t o.type e i z size bytes ht hi hz hsize hby hzs hsz v n xs hown A m c news hl hsrc h1 h63 hbytes hbase;obtain⟨A',c',rfl⟩:=ownsRow_form h2;unfold Oper.wpIn;refine⟨?_,?_⟩
 · simp[Oper.about,hop,resolve,Target.leads,Sem.run_pure]
 · rw[Oper.semAt_plain F _ _ (by rw[hop];intro c hc';cases hc')];simp[execOp,hop,resolve,invoke,builtin,hs,hx,hr,Result.andThen];exact hK _ _ (h A' c' w' h2 h3 h4)
end Gl
namespace Gz
open Go Go.RowKit Go.Proofs Gl Go.Shelf
attribute [local go_sem] Oper.semAt_some
theorem info115:(Tryz.prog.info? 115).map (fun i=>(i.zero,i.size,i.bytes))=some (some (.agg #[.slice none 0 0,.slice none 0 0]),2,48):=by kernel_rfl
def Dumped (w0:World) (L:List Ent) (e:Ending) (w':World):Prop:=∃A n c cells,e=.returned (.slice A n c)/\n=L.length/\Sl 2 w' A n c cells/\EntsAt (fun b=>w0.heap.size<=b) w' cells L/\New w0 w'/\(∀a,A=some a->w0.heap.size<=a.block)
def DumpI (w:World) (ob:Nat) (Z:Nat) (pre:List Ent) (V:World):Prop:=∃v cells,V.heap[ob]?=some (.cells #[v] 37 (0,0))/\V.ownsRow w.heap.size 115 2 v pre.length cells/\EntsAt (fun b=>Z<=b/\v.ownBlock≠some b) V cells pre/\(∀g,v.ownBlock=some g->Z<=g)/\New w V/\ob<Z
theorem dump_c {base bm n c bs:Nat} {w:World} {D:Nat->Prop} {A:Option Addr} {vs:List Value} {ps:List (List Ent)} (hs:StoB w bs bm) (hm:MapIn 182 251 base w bm D A n c vs ps) (hlen:ps.flatten.length<=1000000) (hsz:∀e ∈ ps.flatten,e.1.length<=1073741824/\e.2.length<=1073741824):
 Calls Tryz.prog 17 #[.pointer (some ⟨bs,0,none⟩)] w (Dumped w ps.flatten):=by
 obtain⟨css,hc⟩:=hm.named;obtain⟨k,hk⟩:=hs;obtain⟨WA,a9⟩:=zE (w.alloc (.cells #[.slice none 0 0] 37));have e9:New w WA:=by rw[a9];exact zU _ _ _
 have f6:WA.heap.size=w.heap.size+1:=by rw[a9];show(w.heap.push _).size=_;simp
 have f7:WA.heap[w.heap.size]?=some (.cells #[.slice none 0 0] 37 (0,0)):=by rw[a9];exact zX w _
 have j0:=zaa ((e9.block bs (zqA.1 hk).1 id).trans hk) 0 (.pointer (some ⟨bm,0,none⟩)) rfl;have d8:∀b,foot bm D A n c vs b->b<w.heap.size:=fun b hb=>hm.toMapRaw.foot_lt hb;have HC:=zqH hc;have HL:=zqH hlen;have j1:=zqH hsz;have j3:=zqH e9;have f0:=zqH d8;have j4:=zqH f7;clear hc hm hlen hsz e9 d8 hk f7;refine(callsIn_wide (n:=0)).1 ?_
 refine callsIn_of_wp_marks Tryz.func17 rfl trivial ?_ rfl;simp only[Tryz.ntmps17,List.size_toArray,List.length_cons,List.length_nil,Nat.reduceAdd,Nat.reduceSub,Array.replicate_succ,Array.replicate_zero,List.push_toArray,List.append_toArray,List.nil_append,List.cons_append];rw[a9]at j0
 gi_wp2_with (refine⟨trivial,rfl,?_⟩;gi_at_call 57;refine(callsIn_wide.2 walk_c).mono ?_;rintro e w1 ⟨b1,b2,b3,rfl,a6,hb,h1,h2,h3⟩;have H1:=zqH (zN a6 (zN hb (zN h1 (zN h2 h3))));clear a6 hb h1 h2 h3)
 have a6:New WA w1:=by rw[a9];exact H1.out.1
 have j5:w.heap.size+1<=b1/\w.heap.size+1<=b2/\w.heap.size+1<=b3:=by rw[<-f6,a9];exact H1.out.2.1
 have f3:New w w1:=j3.out.trans a6;have l1:b1<w1.heap.size:=zqB w1 ⟨b1,0,none⟩ H1.out.2.2.1;have l2:b2<w1.heap.size:=zqB w1 ⟨b2,0,none⟩ H1.out.2.2.2.1;have l3:b3<w1.heap.size:=zqB w1 ⟨b3,0,none⟩ H1.out.2.2.2.2;have f8:Wlk base bm n c b1 b2 b3 D A vs ps css w1:=⟨HC.out.upd f3 (fun _ _=>id),H1.out.2.2.1,H1.out.2.2.2.1,H1.out.2.2.2.2⟩
 have e0:w1.heap[w.heap.size]?=some (.cells #[.slice none 0 0] 37 (0,0)):=(a6.block _ (by omega) id).trans j4.out;have l7:=a6.size;have f9:=zqH f8;have j6:=zqH f3;have g0:=zqH e0;clear a6 f8 f3 e0;refine zbd (gf:=108) (lb:=#[.pointer (some ⟨b1,0,none⟩),.pointer (some ⟨b2,0,none⟩),.pointer (some ⟨b3,0,none⟩)]) rfl (fun args w=>zaw 108 Tryz.func108 (by kernel_rfl) (by kernel_rfl) args w)
  (walk1_gives (base:=base) (bm:=bm) (n:=n) (c:=c) (D:=D) (A:=A) (vs:=vs) (ps:=ps) (css:=css) HL.out j1.out w1 f9.out) (fun x _ _ vals he=>by obtain⟨_,_,_,_,_,_,e,_⟩:=he;rw[e];rfl) (fun b h=>h.elim)
  (fun P Q hk hu=>hk.upd hu (fun b hb=>by have:=f0.out b hb;omega) (by omega) (by omega) (by omega)) f9.out
  (fun x W0 P Q vals hz he hu=>hu.elim (fun hu=>he.upd hu (fun _ _=>id)) (fun hu=>he.upd hu (fun b hb=>by omega)))
  (fun Z (pre:List Ent) V=>DumpI w w.heap.size Z pre V) (fun _ _ _ _=>False)
  (fun Z hZ s P Q hs hu=>by
    obtain⟨v,cells,g1,g2,g3,g4,g5,g6⟩:=hs;have b8:∀b,Z<=b->¬Priv (fun _=>False) w1.heap.size Z b:=fun b hb h=>h.elim id (fun h=>by omega);exact⟨v,cells,(hu.block _ (zqA.1 g1).1 (fun h=>h.elim id (fun h=>by omega))).trans g1,zae g2 (fun b hb hl=>hu.block b hl (b8 b (g4 b hb))),g3.imp (fun _ _ hb=>hb.upd hu (fun b hb=>b8 b hb.1)),g4,g5.then hu (fun b hb h=>h.elim id (fun h=>by omega)),g6⟩)
  (fun Z cd hZ s P Q hs hu=>hs)
  (fun Z hZ=>⟨.slice none 0 0,[],g0.out,World.ownsRow_nil _ _ _ _,trivial,(fun g hg=>by cases hg),j6.out,by omega⟩)
  (fun W0 vals a' V=>∃k1 n1 e1 k2 n2 e2,vals=#[.slice k1 n1 e1,.slice k2 n2 e2]/\a' = { tmps:=#[.pointer (some ⟨bs,0,none⟩),undef,.slice none 0 0,.pointer (some ⟨w.heap.size,0,none⟩),.slice k1 n1 e1,.slice k2 n2 e2,.pointer (some ⟨bs,0,none⟩),.pointer (some ⟨bs,0,none⟩),.pointer (some ⟨bs,0,none⟩),.pointer (some ⟨bm,0,none⟩),.func (.func 108) #[] #[.pointer (some ⟨b1,0,none⟩),.pointer (some ⟨b2,0,none⟩),.pointer (some ⟨b3,0,none⟩)],.slice k1 n1 e1,.slice k2 n2 e2,undef,undef,undef,undef,undef,undef,undef],defers:=[] })
  (fun W0 vals a' P Q hs hu=>hs)
  ?assign ?body ?done ?stop
 case assign=>
  rintro l2 x W0 V vals K ⟨pre,post,hx⟩ hz i3 ⟨A1,n1,e1,A2,n2,e2,rfl,g1,g2⟩ hk hK'
  gi_wp2
  exact hK' _ _ (Upd.refl _ _) ⟨A1,n1,e1,A2,n2,e2,rfl,rfl⟩
 case body=>
  rintro Z pre x W0 V vals a' ⟨post,hx⟩ hZ1 hZ2 ⟨v,cells,g1,g2,g3,g4,g5,g6⟩ hu0 hcp ⟨k1,n1,e1,k2,n2,e2,rfl,rfl⟩ hk;obtain⟨A1,m1,f1,A2,m2,f2,c5,e7,e8⟩:=hcp;simp only[List.cons.injEq,and_true,Array.mk.injEq,Value.slice.injEq]at c5;obtain⟨⟨rfl,rfl,rfl⟩,rfl,rfl,rfl⟩:=c5;have b8:∀b,Z<=b->¬Priv (fun _=>False) w1.heap.size Z b:=fun b hb h=>h.elim id (fun h=>by omega);have g7:∀b,b<w1.heap.size->¬Priv (fun _=>False) w1.heap.size Z b:=fun b hb h=>h.elim id (fun h=>by omega);have v1:V.heap[w.heap.size]?=some (.cells #[v] 37 (0,0)):=(hu0.block _ (zqA.1 g1).1 (g7 _ (by omega))).trans g1;have v2:V.ownsRow w.heap.size 115 2 v pre.length cells:=zae g2 (fun b hb hl=>hu0.block b hl (b8 b (g4 b hb)));have v3:=g3.imp (fun _ _ hb=>hb.upd hu0 (fun b hb=>b8 b hb.1));have vc:=zaa v1 0 v rfl;have g9:∀g,v.ownBlock=some g->g<W0.heap.size:=fun g hg=>(zal g2 hg).1;have m7:=hu0.size;have m8:pre.length<=1000000:=by have h1:=HL.out;rw[hx]at h1;simp at h1;omega
  obtain⟨i0,k7,i3,k8,k9⟩:=info_parts info115;have e3:(V.alloc (.cells #[.slice k1 n1 e1,.slice k2 n2 e2] 115)).ownsRow w.heap.size 115 2 v pre.length cells:=zar v2 _ rfl;have e4:Gl.Src (V.alloc (.cells #[.slice k1 n1 e1,.slice k2 n2 e2] 115)) (some ⟨V.heap.size,0,none⟩) 1 [.slice k1 n1 e1,.slice k2 n2 e2]:=fun _=>⟨_,_,rfl,fun j u hu=>by
   rw[Nat.zero_add];exact zaa (zX V _) j u (by simpa using hu)⟩
  have h0:w.heap.size<=(V.alloc (.cells #[.slice k1 n1 e1,.slice k2 n2 e2] 115)).heap.size:=by show _<=(V.heap.push _).size;have:=g5.size;simp;omega
  have e5:∀w2:World,(V.alloc (.cells #[.slice k1 n1 e1,.slice k2 n2 e2] 115)).grownBy w2 v.ownBlock->w2.heap[w.heap.size]?=some (.cells #[v] 37 (0,0)):=fun w2 hg=>by
   have j8:some w.heap.size≠v.ownBlock:=fun e=>by have:=g4 _ e.symm;omega
   have hl:w.heap.size<V.heap.size:=(zqA.1 v1).1;exact(hg.block _ (by show _<(V.heap.push _).size;simp;omega) j8).trans ((zaj _ hl).trans v1)
  have h4:=zqH e3;have h5:=zqH e4;have j9:=zqH h0;have h6:=zqH e5;have m9:=zqH v2;have k0:=zqH v3;have H4:=zqH g4;have H5:=zqH g5;have k4:=zqH hu0;have h8:=zqH (zN e7 e8);have k5:=zqH hk;have f4:=zqH g9;have o0:=zqH v1;clear e3 e4 h0 e5 v2 v3 g1 g2 g3 g4 g5 hu0 e7 e8 hk g9 v1 hx
  gi_wp2_with (gi_at_builtin
               refine zbk _ rfl _ _ _ rfl w.heap.size 115 i0 _ 2 48 Tryz.underlying37 k7 i3 k8 k9 rfl (by omega) v pre.length cells rfl h4.out _ 1 1 [.slice k1 n1 e1,.slice k2 n2 e2] rfl rfl h5.out (by simp[Value.oneCell']) (by simp only[maxLen];omega) (by omega) j9.out ?_
               intro A' c' w2 a1 c6 a2;have b9:=h6.out w2 c6;have o1:=zaa b9 0 v rfl;have o2:=zad b9 0;have HQ:=zqH (zN a1 (zN c6 a2));clear a1 c6 a2)
  obtain⟨a1,c6,a2⟩:=HQ.out;obtain⟨v',l0⟩:∃v',v'=Value.slice A' (pre.length+1) c':=⟨_,rfl⟩
  rw[<-l0]at a1 a2 ⊢;have a4:Upd (fun b=>v.ownBlock=some b\/b=w.heap.size) V (w2.setCell ⟨w.heap.size,0,none⟩ v'):=((zU _ V _).trans (Upd.of_grown c6 (fun c hc=>.inl hc))).trans (Upd.setCell w2 _ (.inr rfl));have h9:v'.ownBlock≠some w.heap.size:=fun e=>by
   rcases a2 with h|h
   · rw[h]at e;have:=H4.out _ e;omega
   · rw[h]at e;have e1:(V.alloc (.cells #[.slice k1 n1 e1,.slice k2 n2 e2] 115)).heap.size=V.heap.size+1:=(by show(V.heap.push _).size=_;simp);have:=H5.out.size
     injection e with e;omega
  have a3:∀b,v'.ownBlock=some b->v.ownBlock=some b\/V.heap.size<=b:=fun b hb=>by
   rcases a2 with h|h
   · exact .inl (h▸hb)
   · rw[h]at hb;have e1:(V.alloc (.cells #[.slice k1 n1 e1,.slice k2 n2 e2] 115)).heap.size=V.heap.size+1:=by show(V.heap.push _).size=_;simp
     injection hb with hb;exact .inr (by omega)
  have a8:∀b,b<Z->b≠w.heap.size->¬(v.ownBlock=some b\/b=w.heap.size):=fun b hb b9 h=>h.elim (fun h=>by have:=H4.out _ h;omega) b9;refine⟨⟨a4.block _ (by omega) (a8 _ (by omega) (by omega)),a4.block _ (by omega) (a8 _ (by omega) (by omega)),a4.size,fun k hk=>a4.block k (by omega) (fun h=>?_)⟩,k5.out.upd a4 (fun b hb=>a8 b (by have:=f0.out b hb;omega) (by have:=f0.out b hb;omega)) (a8 _ (by omega) (by omega)) (a8 _ (by omega) (by omega)) (a8 _ (by omega) (by omega)),v',cells ++ [.slice k1 n1 e1,.slice k2 n2 e2],zac b9 v' (i:=0),?_,?_,?_,?_,g6⟩
  · rcases h with h|h
    · have h1:=H4.out _ h;have h2:=f4.out _ h;omega
    · omega
  · rw[List.length_append];exact zae a1 (fun b hb hl=>(Upd.setCell (S:=fun b=>b=w.heap.size) w2 v' rfl).block b hl (fun e=>h9 (e▸hb)))
  · have hold:=k0.out.imp (D':=fun b=>Z<=b/\v'.ownBlock≠some b) (w':=w2.setCell ⟨w.heap.size,0,none⟩ v') (fun _ _ hb=>(hb.lt.upd a4 (fun b hb h=>h.elim (fun h=>hb.1.2 h) (fun h=>by have:=hb.1.1;omega))).mono (fun b hb=>⟨hb.1.1,fun e=>(a3 b e).elim hb.1.2 (fun h=>by have:=hb.2;omega)⟩));have e6:∀u bs',BV (fun b=>W0.heap.size<=b) V u bs'->BV (fun b=>Z<=b/\v'.ownBlock≠some b) (w2.setCell ⟨w.heap.size,0,none⟩ v') u bs':=fun u bs' hb=>
     (hb.lt.upd a4 (fun b hb h=>h.elim (fun h=>by have:=f4.out _ h;omega) (fun h=>by omega))).mono (fun b hb=>⟨by omega,fun e=>(a3 b e).elim (fun h=>by have:=f4.out _ h;omega) (fun h=>by omega)⟩)
    exact hold.append ⟨e6 _ _ h8.out.1,e6 _ _ h8.out.2,trivial⟩
  · intro g hg;rcases a3 g hg with h|h
    · exact H4.out g h
    · omega
  · refine(H5.out.then (k4.out) (fun b hb h=>h.elim id (fun h=>by have:=H5.out.size;omega))).then a4 (fun b hb h=>h.elim (fun h=>by have:=H4.out _ h;omega) (fun h=>by omega))
 case done=>
  rintro Z V hZ1 hZ2 ⟨v,cells,g1,g2,g3,g4,g5,g6⟩ hd _;have vc:=zaa g1 0 v rfl;obtain⟨N,hN⟩:=zE ps.flatten.length;rw[<-hN]at g2;obtain⟨A',c',rfl⟩:=ownsRow_form g2;have HG:=zqH (zN g2 (zN g3 (zN g4 (zN g5 hN))));clear g1 g2 g3 g4 g5 hN
  gi_wp2
  refine⟨by simp,.inl ⟨_,_,rfl,run_takeDeferred hd,?_⟩⟩;obtain⟨g2,g3,g4,g5,hN⟩:=HG.out;have hp:New w (V.putObj w1.heap.size (.deferred none)):=g5.then (Upd.putObj (S:=fun b=>b=w1.heap.size) V _ rfl) (fun b hb e=>by omega);have hq:Upd (fun b=>b=w1.heap.size) V (V.putObj w1.heap.size (.deferred none)):=Upd.putObj V _ rfl;have i1:∀b,Z<=b->¬b=w1.heap.size:=fun b hb e=>by omega
  refine⟨_,results_tmp rfl _ _ _,A',N,c',cells,rfl,hN,Sl.of_own (zae g2 (fun b hb hl=>hq.block b hl (i1 b (g4 b hb)))),g3.imp (fun _ _ hb=>(hb.upd hq (fun b hb=>i1 b hb.1)).mono (fun b hb=>by have:=hb.1;omega)),hp,fun a ha=>?_⟩;subst ha;have:=g4 a.block rfl;omega
 case stop=>
  rintro Z cd pre x post V hZ1 hZ2 hx h hd;exact h.elim
end Gz

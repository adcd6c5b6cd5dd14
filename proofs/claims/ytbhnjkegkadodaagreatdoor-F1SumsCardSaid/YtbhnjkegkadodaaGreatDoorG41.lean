/- Part of the proof. -/
import Derived.Test.YtbhnjkegkadodaaGreatDoorG39
import Derived.Test.YtbhnjkegkadodaaGreatDoorG40
set_option linter.all false
set_option maxRecDepth 100000
set_option maxHeartbeats 8000000
namespace Gz
open Go Go.RowKit Go.Proofs Gl Go.Shelf
attribute [local go_sem] Oper.semAt_some
theorem info113:(Tryz.prog.info? 113).map (fun i=>(i.zero,i.size,i.bytes))=some (some (.slice none 0 0),1,24):=by kernel_rfl
def KeysAt (D:Nat->Prop) (w:World) (cs:List Value) (l:List Ent):Prop:=cs.length=l.length/\∀(i:Nat) (e:Ent),l[i]?=some e->∃v,cs[i]?=some v/\BV D w v e.1
theorem KeysAt.nil (D:Nat->Prop) (w:World):KeysAt D w [] []:=⟨rfl,fun i e h=>by simp at h⟩
theorem KeysAt.imp {D D':Nat->Prop} {w w':World} {cs:List Value} {l:List Ent} (h:KeysAt D w cs l) (hi:∀v bs,BV D w v bs->BV D' w' v bs):KeysAt D' w' cs l:=
 ⟨h.1,fun i e he=>let ⟨v,h1,h2⟩:=h.2 i e he;⟨v,h1,hi _ _ h2⟩⟩
theorem KeysAt.snoc {D:Nat->Prop} {w:World} {cs:List Value} {l:List Ent} (h:KeysAt D w cs l) {v:Value} {e:Ent} (hv:BV D w v e.1):KeysAt D w (cs ++ [v]) (l ++ [e]):=
 ⟨by simp[h.1],fun i x hx=>by
   rcases Nat.lt_or_ge i l.length with hi|hi
   · rw[List.getElem?_append_left hi]at hx;obtain⟨u,h1,h2⟩:=h.2 i x hx;exact⟨u,by rw[List.getElem?_append_left (by rw[h.1];exact hi)];exact h1,h2⟩
   · have hl:=(List.getElem?_eq_some_iff.1 hx).1;simp at hl;obtain rfl:i=l.length:=(by omega);rw[List.getElem?_append_right (zR _),Nat.sub_self]at hx;cases hx;exact⟨v,by rw[<-h.1,List.getElem?_append_right (zR _),Nat.sub_self];rfl,hv⟩⟩
def AllR (F:Nat->Prop) (bs bm:Nat) (w:World) (L:List Ent) (pk:Bs) (e:Ending) (w':World):Prop:=
 ∃A n c cells,e=.returned (.slice A n c)/\n=(prefixed pk L).length/\Sl 1 w' A n c cells/\KeysAt (fun b=>w.heap.size<=b) w' cells (prefixed pk L)/\SFm F bs bm w' L/\Upd (fun b=>b=bs) w w'/\(∀a,A=some a->w.heap.size<=a.block)
def AllI (w:World) (bs ob Z:Nat) (pre:List Ent) (V:World):Prop:=∃v cells,V.heap[ob]?=some (.cells #[v] 140 (0,0))/\V.ownsRow w.heap.size 113 1 v pre.length cells/\KeysAt (fun b=>Z<=b/\v.ownBlock≠some b) V cells pre/\(∀g,v.ownBlock=some g->Z<=g)/\Upd (fun b=>b=bs) w V/\ob<Z
theorem all_c {F:Nat->Prop} {bs bm:Nat} {w:World} {L:List Ent} (kind:Int) (hd md a:Nat) (hf:∀W,Calls Tryz.prog 173 #[.int .i64 kind] W fun e w'=>e=.returned (.tuple #[.agg #[.int .u8 (hd:Int),.int .u8 (md:Int),.bool true,.bool true,.bool false],.bool true])/\New W w') (h1:hd<256) (h2:md<256) (h0:0<md) (ha:a<18446744073709551616)
 (hs:SFm F bs bm w L) (hlen:L.length<=1000000) (hsz:∀e ∈ L,e.1.length<=1073741824/\e.2.length<=1073741824):
 Calls Tryz.prog 71 #[.pointer (some ⟨bs,0,none⟩),.int .i64 kind,.int .u64 (a:Int)] w (AllR F bs bm w L (hd :: (be 8 a ++ [md]))):=by
 obtain⟨base,D,A,n,c,vs,ps,g1,g2,g3,g4,g5,rfl⟩:=hs;obtain⟨css,hc⟩:=g2.named;obtain⟨pk,j4⟩:=zE (hd :: (be 8 a ++ [md]));obtain⟨WA,e4⟩:=zE (w.alloc (.cells #[.slice none 0 0] 140));have h6:New w WA:=by rw[e4];exact zU _ _ _
 have p0:WA.heap.size=w.heap.size+1:=by rw[e4];exact World.size_alloc _ _
 have h7:WA.heap[w.heap.size]?=some (.cells #[.slice none 0 0] 140 (0,0)):=by rw[e4];exact zX w _
 have e5:∀b,foot bm D A n c vs b->b<w.heap.size/\b≠bs:=fun b hb=>g4 b (g3 b hb);have e6:bs<w.heap.size:=g1.lt;have d5:=under_c (w:=WA) kind hd md a hf h1 h2 h0 ha;rw[<-j4]at d5 ⊢;have h8:=zqH d5;have HC:=zqH hc;have HL:=zqH hlen;have l6:=zqH hsz;have l7:=zqH h6;have f5:=zqH e5;have l8:=zqH h7;have l9:=zqH g1;have m0:=zqH e6;have m3:=zqH (zN g2 (zN g3 (zN g4 g5)));clear d5 hc hlen hsz h6 e5 h7 g1 g2 g3 g4 g5 e6 hf h1 h2 h0 ha j4;refine(callsIn_wide (n:=0)).1 ?_
 refine callsIn_of_wp_marks Tryz.func71 rfl trivial ?_ rfl;simp only[Tryz.ntmps71,List.size_toArray,List.length_cons,List.length_nil,Nat.reduceAdd,Nat.reduceSub,Array.replicate_succ,Array.replicate_zero,List.push_toArray,List.append_toArray,List.nil_append,List.cons_append]
 gi_wp2_with (first
  | (rw[<-e4];refine⟨trivial,rfl,?_⟩;gi_at_call 115;refine(callsIn_wide.2 h8.out).mono ?_;rintro e w1 ⟨Ah,ch,rfl,k0,k3,k4⟩;have H1:=zqH (zN k0 (zN k3 k4));clear k0 k3 k4)
  | (refine⟨trivial,rfl,?_⟩;gi_at_call 129;refine(callsIn_wide.2 (prefix_c (bs:=bs) H1.out.1 (by decide) (by decide))).mono ?_;rintro e w2 ⟨p1,p2,sp,pp,A1,c1,rfl,b7,f7,b8,b9,c5,c6,a1⟩;have H2:=zqH (zN b7 (zN f7 (zN b8 (zN b9 (zN c5 (zN c6 a1))))));clear b7 f7 b8 b9 c5 c6 a1))
 obtain⟨b7,⟨q1,q2,q3,q4⟩,b8,b9,c5,c6,a1⟩:=H2.out;have a9:New w w2:=by
  exact(l7.out.trans H1.out.2.1).trans b7
 have p6:w.heap.size+1<=w1.heap.size:=by
  have h:WA.heap.size<=w1.heap.size:=H1.out.2.1.size;omega
 have p7:=b7.size;have e7:w2.heap[w.heap.size]?=some (.cells #[.slice none 0 0] 140 (0,0)):=by
  refine(b7.block _ (by omega) id).trans ?_
  have hq:New WA w1:=H1.out.2.1;exact(hq.block _ (by omega) id).trans l8.out
 obtain⟨_,_,_,e1,g0,j5⟩:=a1;cases e1;have l1:p1<w2.heap.size:=zqB w2 ⟨p1,0,none⟩ b8;have l2:p2<w2.heap.size:=zqB w2 ⟨p2,0,none⟩ b9;have l3:sp<w2.heap.size:=zqB w2 ⟨sp,0,none⟩ c5;have l4:pp<w2.heap.size:=zqB w2 ⟨pp,0,none⟩ c6;have l5:∀x,A1=some x → 0<10->w.heap.size<x.block/\x.block<w2.heap.size:=fun x hx h0=>⟨by have:=j5 x hx h0;omega,by
  obtain⟨_,_,_,e,_,h⟩:=BV.of g0;cases e;exact h x hx h0⟩
 have h9:CntP base bm n c bs sp pp 10 c1 p1 p2 D A A1 vs ps css pk w2:=⟨⟨HC.out.upd a9 (fun _ _=>id),l9.out.upd a9 id,c5,c6,g0⟩,b8,b9⟩
 have r2:=m0.out;have d6:∀(T:Nat->Prop) (P Q:World),CntP base bm n c bs sp pp 10 c1 p1 p2 D A A1 vs ps css pk P->Upd T P Q → (∀b,b<w2.heap.size->b≠w.heap.size->¬T b)->CntP base bm n c bs sp pp 10 c1 p1 p2 D A A1 vs ps css pk Q:=fun T P Q hk hu hT=>
  hk.upd hu (fun b hb=>hT b (by have:=(f5.out b hb).1;omega) (by have:=(f5.out b hb).1;omega)) (hT _ l3 (by omega)) (hT _ l4 (by omega)) (fun x hx h0=>hT _ (l5 x hx h0).2 (by have:=(l5 x hx h0).1;omega)) (hT _ l1 (by omega)) (hT _ l2 (by omega)) (hk.wlk.sto.upd hu (hT _ (by omega) (by omega)))
 have m4:=zqH h9;have f6:=zqH d6;have e8:=zqH a9;have i1:=zqH e7;have L5:=zqH l5;clear d6 a9 e7 g0 j5 b8 b9 c5 c6 h9 l5;refine zbd (gf:=234) (lb:=#[.pointer (some ⟨p1,0,none⟩),.pointer (some ⟨p2,0,none⟩)]) rfl (fun args w=>zaw 234 Tryz.func234 (by kernel_rfl) (by kernel_rfl) args w)
  (countedP_gives (base:=base) (bm:=bm) (n:=n) (c:=c) (bs:=bs) (sp:=sp) (pp:=pp) (np:=10) (cp:=c1) (p1:=p1) (p2:=p2) (D:=D) (A:=A) (Ap:=A1) (vs:=vs) (ps:=ps) (css:=css) (pk:=pk) (by decide) HL.out l6.out (fun hb=>(f5.out bs hb).2 rfl) ⟨by omega,by omega,by omega,by omega⟩ (fun x hx h0 e=>by have:=(L5.out x hx h0).1;omega))
  (fun x _ _ vals he=>by obtain⟨_,_,_,_,_,_,e,_⟩:=he;rw[e];rfl) (fun b h=>by have h:b=bs:=h;omega)
  (fun P Q hk hu=>f6.out _ P Q hk hu (fun b hb _ h=>by omega)) m4.out
  (fun x W0 P Q vals hz he hu=>hu.elim (fun hu=>he.upd hu (fun _ _=>id)) (fun hu=>he.upd hu (fun b hb=>by omega)))
  (fun Z (pre:List Ent) V=>AllI w bs w.heap.size Z pre V) (fun _ _ _ _=>False)
  (fun Z hZ s P Q hs hu=>by
    obtain⟨v,cells,g1,g2,g3,g4,g5,g6⟩:=hs;have d7:∀b,Z<=b->¬Priv (fun b=>b=bs) w2.heap.size Z b:=fun b hb h=>h.elim (fun h=>by have h:b=bs:=h;omega) (fun h=>by omega);exact⟨v,cells,(hu.block _ (zqA.1 g1).1 (fun h=>h.elim (fun h=>by have h:w.heap.size=bs:=h;omega) (fun h=>by omega))).trans g1,zae g2 (fun b hb hl=>hu.block b hl (d7 b (g4 b hb))),g3.imp (fun _ _ hb=>hb.upd hu (fun b hb=>d7 b hb.1)),g4,g5.then hu (fun b hb h=>h.elim id (fun h=>by omega)),g6⟩)
  (fun Z cd hZ s P Q hs hu=>hs)
  (fun Z hZ=>⟨.slice none 0 0,[],i1.out,World.ownsRow_nil _ _ _ _,KeysAt.nil _ _,(fun g hg=>by cases hg),e8.out.mono (fun _ _ h=>h.elim),by omega⟩)
  (fun W0 vals a' V=>∃k1 n1 e1 k2 n2 e2,vals=#[.slice k1 n1 e1,.slice k2 n2 e2]/\a' = { tmps:=#[.pointer (some ⟨bs,0,none⟩),.int .i64 kind,.int .u64 (a:Int),undef,undef,undef,.slice none 0 0,.pointer (some ⟨w.heap.size,0,none⟩),.slice Ah 10 ch,.int .i64 0,.slice k1 n1 e1,.tuple #[.slice Ah 10 ch,.int .i64 0],.int .i64 kind,.int .u64 (a:Int),.tuple #[.slice Ah 10 ch,.int .i64 0],.slice Ah 10 ch,.int .i64 0,.pointer (some ⟨bs,0,none⟩),.slice Ah 10 ch,.func (.func 234) #[] #[.pointer (some ⟨p1,0,none⟩),.pointer (some ⟨p2,0,none⟩)],.slice k1 n1 e1,.slice k2 n2 e2,undef,undef,undef,undef,undef],defers:=[] })
  (fun W0 vals a' P Q hs hu=>hs)
  ?assign ?body ?done ?stop
 case assign=>
  rintro l2 x W0 V vals K ⟨pre,post,hx⟩ hz j7 ⟨A1,n1,e1,A2,n2,e2,rfl,g1,g2⟩ hk hK'
  gi_wp2
  exact hK' _ _ (Upd.refl _ _) ⟨A1,n1,e1,A2,n2,e2,rfl,rfl⟩
 case body=>
  rintro Z pre x W0 V vals a' ⟨post,hx⟩ hZ1 hZ2 ⟨v,cells,g1,g2,g3,g4,g5,g6⟩ hu0 hcp ⟨k1,n1,e1,k2,n2,e2,rfl,rfl⟩ hk;obtain⟨s8,m1,f1,A2,m2,f2,d8,f4,j6⟩:=hcp;simp only[List.cons.injEq,and_true,Array.mk.injEq,Value.slice.injEq]at d8;obtain⟨⟨rfl,rfl,rfl⟩,rfl,rfl,rfl⟩:=d8;have d7:∀b,Z<=b->¬Priv (fun b=>b=bs) w2.heap.size Z b:=fun b hb h=>h.elim (fun h=>by have h:b=bs:=h;omega) (fun h=>by omega);have v1:V.heap[w.heap.size]?=some (.cells #[v] 140 (0,0)):=(hu0.block _ (zqA.1 g1).1 (fun h=>h.elim (fun h=>by have h:w.heap.size=bs:=h;omega) (fun h=>by omega))).trans g1;have v2:V.ownsRow w.heap.size 113 1 v pre.length cells:=zae g2 (fun b hb hl=>hu0.block b hl (d7 b (g4 b hb)));have v3:=g3.imp (fun _ _ hb=>hb.upd hu0 (fun b hb=>d7 b hb.1));have vc:=zaa v1 0 v rfl;have i3:∀g,v.ownBlock=some g->g<W0.heap.size:=fun g hg=>(zal g2 hg).1;have r5:=hu0.size;have f7:pre.length<=1000000:=by
   have h1:=HL.out;have h2:(prefixed pk ps.flatten).length<=ps.flatten.length:=zT (List.Sublist.length_le (List.takeWhile_sublist _)) (List.length_filter_le _ _);rw[hx]at h2;simp at h2 h1;omega
  obtain⟨i0,o3,j7,o4,o5⟩:=info_parts info113;have e9:(V.alloc (.cells #[.slice k1 n1 e1] 113)).ownsRow w.heap.size 113 1 v pre.length cells:=zar v2 _ rfl;have f0:Gl.Src (V.alloc (.cells #[.slice k1 n1 e1] 113)) (some ⟨V.heap.size,0,none⟩) 1 [.slice k1 n1 e1]:=fun _=>⟨_,_,rfl,fun j u hu=>by
   rw[Nat.zero_add];exact zaa (zX V _) j u (by simpa using hu)⟩
  have i4:w.heap.size<=(V.alloc (.cells #[.slice k1 n1 e1] 113)).heap.size:=by rw[World.size_alloc];have:=g5.size;omega
  have f3:∀w2:World,(V.alloc (.cells #[.slice k1 n1 e1] 113)).grownBy w2 v.ownBlock->w2.heap[w.heap.size]?=some (.cells #[v] 140 (0,0)):=fun w2 hg=>by
   have m5:some w.heap.size≠v.ownBlock:=fun e=>by have:=g4 _ e.symm;omega
   have hl:w.heap.size<V.heap.size:=(zqA.1 v1).1;exact(hg.block _ (by rw[World.size_alloc];omega) m5).trans ((zaj _ hl).trans v1)
  have i5:=zqH e9;have i6:=zqH f0;have m6:=zqH i4;have i7:=zqH f3;have m7:=zqH v3;have H4:=zqH g4;have H5:=zqH g5;have m9:=zqH hu0;have o0:=zqH f4;have o1:=zqH hk;have f8:=zqH i3;clear e9 f0 i4 f3 v2 v3 g1 g2 g3 g4 g5 hu0 f4 j6 hk i3 v1 hx
  gi_wp2_with (gi_at_builtin
               refine zbk _ rfl _ _ _ rfl w.heap.size 113 i0 _ 1 24 Tryz.underlying140 o3 j7 o4 o5 rfl (by omega) v pre.length cells rfl i5.out _ 1 1 [.slice k1 n1 e1] rfl rfl i6.out (by simp[Value.oneCell']) (by simp only[maxLen];omega) (by omega) m6.out ?_
               intro A' c' w3 a2 d9 a3;have a1:=i7.out w3 d9;have r6:=zaa a1 0 v rfl;have r7:=zad a1 0;have HQ:=zqH (zN a2 (zN d9 a3));clear a2 d9 a3)
  obtain⟨a2,d9,a3⟩:=HQ.out;obtain⟨v',o6⟩:∃v',v'=Value.slice A' (pre.length+1) c':=⟨_,rfl⟩
  rw[<-o6]at a2 a3 ⊢;have r9:(V.alloc (.cells #[.slice k1 n1 e1] 113)).heap.size=V.heap.size+1:=World.size_alloc _ _;have a5:Upd (fun b=>v.ownBlock=some b\/b=w.heap.size) V (w3.setCell ⟨w.heap.size,0,none⟩ v'):=((zU _ V _).trans (Upd.of_grown d9 (fun c hc=>.inl hc))).trans (Upd.setCell w3 _ (.inr rfl));have j0:v'.ownBlock≠some w.heap.size:=fun e=>by
   rcases a3 with h|h
   · rw[h]at e;have:=H4.out _ e;omega
   · rw[h]at e;have:=H5.out.size
     injection e with e;omega
  have a4:∀b,v'.ownBlock=some b->v.ownBlock=some b\/V.heap.size<=b:=fun b hb=>by
   rcases a3 with h|h
   · exact .inl (h▸hb)
   · rw[h]at hb
     injection hb with hb;exact .inr (by omega)
  have f9:∀b,b<Z->b≠w.heap.size->¬(v.ownBlock=some b\/b=w.heap.size):=fun b hb a1 h=>h.elim (fun h=>by have:=H4.out _ h;omega) a1;refine⟨⟨a5.block _ (by omega) (f9 _ (by omega) (by omega)),a5.block _ (by omega) (f9 _ (by omega) (by omega)),a5.size,fun k hk=>a5.block k (by omega) (fun h=>?_)⟩,f6.out _ _ _ o1.out a5 (fun b hb a1=>f9 b (by omega) a1),v',cells ++ [.slice k1 n1 e1],zac a1 v' (i:=0),?_,?_,?_,?_,g6⟩
  · rcases h with h|h
    · have h1:=H4.out _ h;have h2:=f8.out _ h;omega
    · omega
  · rw[List.length_append];exact zae a2 (fun b hb hl=>(Upd.setCell (S:=fun b=>b=w.heap.size) w3 v' rfl).block b hl (fun e=>j0 (e▸hb)))
  · have hold:=m7.out.imp (D':=fun b=>Z<=b/\v'.ownBlock≠some b) (w':=w3.setCell ⟨w.heap.size,0,none⟩ v') (fun _ _ hb=>(hb.lt.upd a5 (fun b hb h=>h.elim (fun h=>hb.1.2 h) (fun h=>by have:=hb.1.1;omega))).mono (fun b hb=>⟨hb.1.1,fun e=>(a4 b e).elim hb.1.2 (fun h=>by have:=hb.2;omega)⟩));exact hold.snoc ((o0.out.lt.upd a5 (fun b hb h=>h.elim (fun h=>by have:=f8.out _ h;omega) (fun h=>by omega))).mono (fun b hb=>⟨by omega,fun e=>(a4 b e).elim (fun h=>by have:=f8.out _ h;omega) (fun h=>by omega)⟩))
  · intro g hg;rcases a4 g hg with h|h
    · exact H4.out g h
    · omega
  · refine(H5.out.then (m9.out) (fun b hb h=>h.elim id (fun h=>by have:=H5.out.size;omega))).then a5 (fun b hb h=>h.elim (fun h=>by have:=H4.out _ h;omega) (fun h=>by omega))
 case done=>
  rintro Z V hZ1 hZ2 ⟨v,cells,g1,g2,g3,g4,g5,g6⟩ hd hkV;have vc:=zaa g1 0 v rfl;obtain⟨N,hN⟩:=zE ((prefixed pk ps.flatten).length);rw[<-hN]at g2;obtain⟨A',c',rfl⟩:=ownsRow_form g2;have HG:=zqH (zN g2 (zN g3 (zN g4 (zN g5 hN))));have o2:=zqH hkV;clear g1 g2 g3 g4 g5 hN hkV
  gi_wp2
  refine⟨by simp,.inl ⟨_,_,rfl,run_takeDeferred hd,?_⟩⟩;obtain⟨g2,g3,g4,g5,hN⟩:=HG.out;have hq:Upd (fun b=>b=w2.heap.size) V (V.putObj w2.heap.size (.deferred none)):=Upd.putObj V _ rfl;have j1:∀b,Z<=b->¬b=w2.heap.size:=fun b hb e=>by omega
  have j3:=f6.out _ _ _ o2.out hq (fun b hb _ e=>by omega);have hp:Upd (fun b=>b=bs) w (V.putObj w2.heap.size (.deferred none)):=g5.then hq (fun b hb e=>by have:=e8.out.size;have e:b=w2.heap.size:=e;omega);obtain⟨h2,h3,h4,h5⟩:=m3.out;refine⟨_,results_tmp rfl _ _ _,A',N,c',cells,rfl,hN,Sl.of_own (zae g2 (fun b hb hl=>hq.block b hl (j1 b (g4 b hb)))),g3.imp (fun _ _ hb=>(hb.upd hq (fun b hb=>j1 b hb.1)).mono (fun b hb=>by have:=hb.1;omega)),⟨base,D,A,n,c,vs,ps,j3.wlk.sto,⟨j3.wlk.map.map.toMapRaw,h2.good,h2.few⟩,h3,fun b hb=>⟨zqL (h4 b hb).1 hp.size,(h4 b hb).2⟩,zT h5 hp.size,rfl⟩,hp,fun a ha=>?_⟩;subst ha;have:=g4 a.block rfl;omega
 case stop=>
  rintro Z cd pre x post V hZ1 hZ2 hx h hd;exact h.elim
theorem blt_nil (a:Bs):blt a []=false:=by cases a<;>rfl
theorem pfx_h (S:F1.Sta):prefixed (118 :: (be 8 16 ++ [104])) (F1.ents S)=S.h.map F1.entH:=by
 unfold prefixed F1.ents;have h1:∀e ∈ S.h.map F1.entH ++ S.c.map F1.entC,(!blt e.1 (118 :: (be 8 16 ++ [104])))=true:=fun e he=>by
  rcases List.mem_append.1 he with he|he<;>obtain⟨x,_,rfl⟩:=List.mem_map.1 he
  · show(!blt (F1.hk x.1) _)=true
    unfold F1.hk;rw[F1.blt_self_cons,F1.blt_pre,F1.blt_self_cons,blt_nil];rfl
  · show(!blt (F1.ck x.1) _)=true
    unfold F1.ck;rw[F1.blt_self_cons,F1.blt_pre];simp[blt]
 rw[List.filter_eq_self.2 h1];have h2:∀e ∈ S.h.map F1.entH,decide ((118 :: (be 8 16 ++ [104])) <+: e.1)=true:=fun e he=>by
  obtain⟨x,_,rfl⟩:=List.mem_map.1 he;exact decide_eq_true ⟨be 8 x.1,by show _=F1.hk x.1;unfold F1.hk;simp⟩
 cases hc:S.c.map F1.entC with
 | nil=>rw[List.append_nil];exact twp_all h2
 | cons y l=>
   refine twp_cut h2 (decide_eq_false fun hp=>?_);obtain⟨x,_,rfl⟩:=List.mem_map.1 (show y ∈ S.c.map F1.entC by rw[hc];exact List.mem_cons_self);obtain⟨t,ht⟩:=hp;have ht:_=F1.ck x.1:=ht;unfold F1.ck at ht;simp at ht
theorem pfx_c (S:F1.Sta):prefixed (118 :: (be 8 16 ++ [115])) (F1.ents S)=S.c.map F1.entC:=by
 unfold prefixed F1.ents;have h1:∀e ∈ S.h.map F1.entH,¬(!blt e.1 (118 :: (be 8 16 ++ [115])))=true:=fun e he=>by
  obtain⟨x,_,rfl⟩:=List.mem_map.1 he;show ¬(!blt (F1.hk x.1) _)=true;unfold F1.hk;rw[F1.blt_self_cons,F1.blt_pre];simp[blt]
 have h3:∀e ∈ S.c.map F1.entC,(!blt e.1 (118 :: (be 8 16 ++ [115])))=true:=fun e he=>by
  obtain⟨x,_,rfl⟩:=List.mem_map.1 he;show(!blt (F1.ck x.1) _)=true;unfold F1.ck;rw[F1.blt_self_cons,F1.blt_pre,F1.blt_self_cons,blt_nil];rfl
 rw[List.filter_append,List.filter_eq_nil_iff.2 h1,List.filter_eq_self.2 h3,List.nil_append];refine twp_all fun e he=>?_
 obtain⟨x,_,rfl⟩:=List.mem_map.1 he;exact decide_eq_true ⟨be 8 x.1,by show _=F1.ck x.1;unfold F1.ck;simp⟩
theorem Okay.sz {S:F1.Sta} (h:Okay S):∀e ∈ F1.ents S,e.1.length<=1073741824/\e.2.length<=1073741824:=fun e he=>⟨by
 unfold F1.ents at he;rcases List.mem_append.1 he with he|he<;>obtain⟨x,_,rfl⟩:=List.mem_map.1 he
 · show(F1.hk x.1).length<=_;simp[F1.hk,zah]
 · show(F1.ck x.1).length<=_;simp[F1.ck,zah],h.val e he⟩
theorem all_h {F:Nat->Prop} {bs bm:Nat} {w:World} {S:F1.Sta} (hS:Okay S) (h:SFm F bs bm w (F1.ents S)):Calls Tryz.prog 71 #[.pointer (some ⟨bs,0,none⟩),.int .i64 7,.int .u64 16] w (AllR F bs bm w (F1.ents S) (118 :: (be 8 16 ++ [104]))):=
 all_c 7 118 104 16 form7 (by decide) (by decide) (by decide) (by decide) h hS.len hS.sz
theorem all_k {F:Nat->Prop} {bs bm:Nat} {w:World} {S:F1.Sta} (hS:Okay S) (h:SFm F bs bm w (F1.ents S)):Calls Tryz.prog 71 #[.pointer (some ⟨bs,0,none⟩),.int .i64 8,.int .u64 16] w (AllR F bs bm w (F1.ents S) (118 :: (be 8 16 ++ [115]))):=
 all_c 8 118 115 16 form8 (by decide) (by decide) (by decide) (by decide) h hS.len hS.sz
theorem count_c {F:Nat->Prop} {bs bm:Nat} {w:World} {S:F1.Sta} (hS:Okay S) (h:SFm F bs bm w (F1.ents S)):
 Calls Tryz.prog 21 #[.pointer (some ⟨bs,0,none⟩),.int .u64 16] w fun e w'=>e=.returned (.tuple #[.int .i64 (S.h.length:Int),.int .i64 (S.c.length:Int)])/\SFm F bs bm w' (F1.ents S)/\Upd (fun b=>b=bs) w w':=by
 have H1:=zqH (all_h hS h);have HS:=zqH hS;clear h hS;go_enter Tryz.func21,Tryz.ntmps21
 go_wp2_with (first
  | (go_at_call_of 71 (Value.int IntKind.i64 7);refine H1.out.mono ?_;rintro e w1 ⟨A,n,c,cells,rfl,hn,_,_,a1,a2,_⟩;rw[pfx_h,List.length_map]at hn;subst hn;have K1:=zqH (zN a1 a2);clear a1 a2)
  | (go_at_call_of 71 (Value.int IntKind.i64 8);refine(all_k HS.out K1.out.1).mono ?_;rintro e w2 ⟨A2,n2,c2,a6,rfl,a3,_,_,a4,a5,_⟩;rw[pfx_c,List.length_map]at a3;subst a3;have K2:=zqH (zN a4 a5);clear a4 a5))
 go_ret2
 exact⟨rfl,K2.out.1,K1.out.2.trans K2.out.2⟩
theorem del_head {e:Ent} {l:List Ent} (h:Sorted (e :: l)):del (e :: l) e.1=l:=by
 have h:=List.pairwise_cons.1 h;unfold del;rw[List.filter_cons_of_neg (by simp),List.filter_eq_self.2 fun x hx=>?_];have:=h.1 x hx;have a1:x.1≠e.1:=fun e2=>by rw[e2,zax]at this;cases this
 simpa using a1
theorem gone_loop {P R:List Ent} {j:Nat} {e:Ent} (hj:P[j]?=some e) (hs:Sorted (P.drop j ++ R)):del (P.drop j ++ R) e.1=P.drop (j+1) ++ R:=by
 have a1:=(List.getElem?_eq_some_iff.1 hj).1;have he:=(List.getElem?_eq_some_iff.1 hj).2;rw[List.drop_eq_getElem_cons a1,he,List.cons_append]at hs ⊢;exact del_head hs
theorem gone_c {F:Nat->Prop} {bs:Nat} {w:World} {S:F1.Sta} (hS:Okay S) (h:SF F bs w (F1.ents S)):
 Calls Tryz.prog 35 #[.pointer (some ⟨bs,0,none⟩),.int .u64 16] w fun e w'=>e=.returned (.tuple #[])/\∃F',SF F' bs w' []/\Step F F' bs w w':=by
 obtain⟨W1,a8⟩:∃W,W=w.alloc (.cells #[.int .i64 7,.int .i64 8] 3):=⟨_,rfl⟩
 have n1:New w W1:=by rw[a8];exact zU _ _ _
 have s1:W1.heap.size=w.heap.size+1:=by rw[a8];exact World.size_alloc _ _
 have k1:W1.heap[w.heap.size]?=some (.cells #[.int .i64 7,.int .i64 8] 3 (0,0)):=by rw[a8];exact zX w _
 have e5:=h.off_new (zR w.heap.size);obtain⟨Ls,d9⟩:∃Ls:Nat->F1.Sta,Ls=fun i=>if i=0 then S else if i=1 then⟨[],S.c⟩ else⟨[],[]⟩:=⟨_,rfl⟩
 have e6:∀i,Okay (Ls i):=fun i=>by
  rw[d9];simp only
  split
  · exact hS
  · split
    · exact⟨⟨fun x hx=>(by cases hx),hS.fine.c⟩,fun x hx=>(by cases hx),zT (Nat.add_le_add_right (Nat.zero_le _) _) hS.few⟩
    · exact⟨⟨fun x hx=>(by cases hx),fun x hx=>(by cases hx)⟩,fun x hx=>(by cases hx),by simp⟩
 have d7:=zqH e6;have H1:=zqH (h.new n1);have N1:=zqH n1;have K1:=zqH k1;have e7:=zqH e5;have a4:Hid (Ls 0=S/\Ls 1=⟨[],S.c⟩/\Ls 2=⟨[],[]⟩):=zqH (by rw[d9];exact⟨rfl,rfl,rfl⟩);clear e6 h n1 k1 e5 d9 hS;go_enter Tryz.func35,Tryz.ntmps35
 go_upto_region 1 with fail
 rw[<-a8];clear a8
 go_loopw [10] (fun v10 wr=>∃i:Nat,i<=2/\v10=.int .i64 (i:Int)/\Hid (∃F',SF F' bs wr (F1.ents (Ls i))/\Step F F' bs W1 wr)) (fun v10 _=>2-(intOf v10).toNat)
 case atStart=>exact⟨0,by omega,rfl,zqH ⟨F,by rw[a4.out.1];exact H1.out,Step.refl _ _ _⟩⟩
 case round=>
  obtain⟨i,hi,rfl,hI⟩:=hrel;by_cases h2:i<2
  · obtain⟨F',e0,e1⟩:=hI.out;obtain⟨bm,hm⟩:=e0.m;have kk:=(e1.block (show w.heap.size<W1.heap.size by omega) e7.out.1 e7.out.2).trans K1.out;obtain⟨kd,i1,P,R,pk,d0,f2,d5⟩:∃kd:Int,wr.cell? ⟨w.heap.size,i,none⟩=some (.int .i64 kd)/\∃(P R:List Ent) (pk:Bs),Calls Tryz.prog 71 #[.pointer (some ⟨bs,0,none⟩),.int .i64 kd,.int .u64 16] wr (AllR F' bs bm wr (F1.ents (Ls i)) pk)/\prefixed pk (F1.ents (Ls i))=P/\F1.ents (Ls i)=P ++ R/\F1.ents (Ls (i+1))=R:=by
     rcases Nat.lt_or_ge i 1 with hi1|hi1
     · obtain rfl:i=0:=(by omega);exact⟨7,zaa kk 0 _ rfl,_,(Ls 0).c.map F1.entC,_,all_h (d7.out 0) hm,pfx_h _,rfl,by rw[a4.out.1,a4.out.2.1];rfl⟩
     · obtain rfl:i=1:=(by omega);exact⟨8,zaa kk 1 _ rfl,_,[],_,all_k (d7.out 1) hm,pfx_c _,by rw[a4.out.2.1];unfold F1.ents;simp,by rw[a4.out.2.2];rfl⟩
    have b9:=zqH d0;have a2:=zqH (zN f2 d5);have d8:=zqH (zN e0 e1);have c5:=(d7.out i).len;have c6:=zqH c5;clear d0 f2 d5 e0 e1 hm kk hI c5
    go_upto_region 4 with(go_at_call 71;refine b9.out.mono ?_;rintro e wa ⟨A,n,c,cells,rfl,hn,a9,a6,b6,b7,hA⟩;have HA:=zqH (zN hn (zN a9 (zN a6 (zN b6 (zN b7 hA)))));clear hn a9 a6 b6 b7 hA b9)
    have e9:∀b,F' b->b<wr.heap.size/\b≠bs:=fun b hb=>d8.out.1.lt hb;have g6:=d8.out.1.bs_lt;have h7:n<=1000000:=by
     have h1:=c6.out;have h2:=HA.out.1;rw[a2.out.1]at h2;rw[a2.out.2.1,List.length_append]at h1;omega
    go_loopw [19] (fun v19 wx=>∃j:Nat,j<=n/\v19=.int .i64 (j:Int)/\Hid (∃F2,SF F2 bs wx (P.drop j ++ R)/\Step F' F2 bs wa wx)) (fun v19 _=>n-(intOf v19).toNat)
    case atStart=>exact⟨0,by omega,rfl,zqH ⟨F',by rw[List.drop_zero,<-a2.out.2.1];exact HA.out.2.2.2.1.sf,Step.refl _ _ _⟩⟩
    case round=>
     obtain⟨j,hj,rfl,hJ⟩:=hrel;by_cases hjn:j<n
     · obtain⟨hn,a9,a6,b6,b7,f3⟩:=HA.out;rw[a2.out.1]at hn a6;obtain⟨F2,a3,a1⟩:=hJ.out;obtain⟨e,he⟩:∃e,P[j]?=some e:=⟨_,zG (by omega)⟩
       obtain⟨v,hv,g5⟩:=a6.2 j e he;obtain⟨g,o,rfl,b0⟩:=a9.row (by omega);obtain⟨Ak,nk,ck,rfl,f4,b8⟩:=g5;have hg:=f3 _ rfl;have cx:=(a1.upd.cell (a:=⟨g,o+j,none⟩) b0.1 (fun h=>h.elim (fun h=>by have:=(e9 g h).1;simp only at hg;omega) (fun h=>by simp only at hg h;omega))).trans (b0.2 j _ hv);have f0:=f4.upd a1.upd (fun a ha h0 h=>h.elim (fun h=>by have:=(e9 _ h).1;have:=b8 a ha h0;omega) (fun h=>by have:=b8 a ha h0;omega));have a7:=kdel_f (k:=e.1) a3 (by
        have h1:=c6.out;rw[a2.out.2.1,List.length_append]at h1;rw[List.length_append,List.length_drop];omega) f0 (fun a ha h0 h=>by have:=b8 a ha h0;omega)
       rw[gone_loop he a3.sorted]at a7;have HD:=zqH a7;have f9:=zqH a1;clear a7 a1 a3 f0 f4 b8 b0 a9 a6 b6 b7 f3 hJ hv he hn
       go_wp2_with (go_at_call 89;refine HD.out.mono ?_;rintro e w3 ⟨⟨rv,rfl⟩,F3,f5,d6⟩;have H3:=zqH (zN f5 d6);clear f5 d6)
       have g0:wrap64 ((j:Int)+1)=((j+1:Nat):Int):=(by unfold wrap64;omega);exact⟨⟨j+1,by omega,by congr 1,zqH ⟨F3,H3.out.1,f9.out.trans H3.out.2⟩⟩,by simp[intOf,g0];omega⟩
     · obtain rfl:j=n:=(by omega);obtain⟨F2,a3,a1⟩:=hJ.out;have hn:=HA.out.1;rw[a2.out.1]at hn;rw[hn,List.drop_length,List.nil_append,<-a2.out.2.2]at a3;have HE:=zqH (show SF F2 bs wr (F1.ents (Ls (i+1)))/\Step F F2 bs W1 wr from⟨a3,(d8.out.2.trans ⟨fun b hb=>.inl hb,HA.out.2.2.2.2.1.mono (fun b _ h=>.inr h)⟩).trans a1⟩);clear a3 a1 hJ hn;go_wp2;exact⟨⟨i+1,by omega,by congr 1,zqH ⟨F2,HE.out⟩⟩,by simp[intOf];omega⟩
  · obtain rfl:i=2:=(by omega);go_wp2
    go_end0
    obtain⟨F',h1,h2⟩:=hI.out;rw[a4.out.2.2]at h1;exact⟨rfl,F',h1,(Step.of_new N1.out).trans h2⟩
end Gz

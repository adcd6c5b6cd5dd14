/- Part of the proof. -/
import Derived.Test.YtbhnjkegkadodaaGreatDoorG40
import Derived.Test.YtbhnjkegkadodaaGreatDoorG42
set_option linter.all false
set_option maxRecDepth 100000
set_option maxHeartbeats 8000000
namespace Go.Proofs.YtbhnjkegkadodaaGreatDoor
open Go Go.RowKit Go.Proofs Gl Go.Shelf
attribute [local go_sem] Oper.semAt_some
theorem info113:(Tryz.prog.info? 113).map (fun i=>(i.zero,i.size,i.bytes))=some (some (.slice none 0 0),1,24):=by kernel_rfl
def KeysAt (D:Nat->Prop) (w:World) (cs:List Value) (l:List Ent):Prop:=cs.length=l.length/\∀(i:Nat) (e:Ent),l[i]?=some e->∃v,cs[i]?=some v/\BV D w v e.1
theorem KeysAt.nil (D:Nat->Prop) (w:World):KeysAt D w [] []:=⟨rfl,fun i e h=>by simp at h⟩
theorem KeysAt.imp {D D':Nat->Prop} {w w':World} {cs:List Value} {l:List Ent} (h:KeysAt D w cs l) (hi:∀v bs,BV D w v bs->BV D' w' v bs):KeysAt D' w' cs l:=
 ⟨h.1,fun i e he=>let ⟨v,h1,h2⟩:=h.2 i e he;⟨v,h1,hi _ _ h2⟩⟩
theorem KeysAt.snoc {D:Nat->Prop} {w:World} {cs:List Value} {l:List Ent} (h:KeysAt D w cs l) {v:Value} {e:Ent} (hv:BV D w v e.1):KeysAt D w (cs ++ [v]) (l ++ [e]):=
 ⟨by simp[h.1],fun i x hx=>by
   rcases Nat.lt_or_ge i l.length with hi|hi
   · rw[List.getElem?_append_left hi]at hx
     obtain⟨u,h1,h2⟩:=h.2 i x hx
     exact⟨u,by rw[List.getElem?_append_left (by rw[h.1];exact hi)];exact h1,h2⟩
   · have hl:=(List.getElem?_eq_some_iff.1 hx).1
     simp at hl
     obtain rfl:i=l.length:=by omega
     rw[List.getElem?_append_right (Nat.le_refl _),Nat.sub_self]at hx
     cases hx
     exact⟨v,by rw[<-h.1,List.getElem?_append_right (Nat.le_refl _),Nat.sub_self];rfl,hv⟩⟩
def AllR (F:Nat->Prop) (bs bm:Nat) (w:World) (L:List Ent) (pk:Bs) (e:Ending) (w':World):Prop:=
 ∃A n c cells,e=.returned (.slice A n c)/\n=(prefixed pk L).length/\Sl 1 w' A n c cells/\KeysAt (fun b=>w.heap.size<=b) w' cells (prefixed pk L)/\SFm F bs bm w' L/\Upd (fun b=>b=bs) w w'/\(∀a,A=some a->w.heap.size<=a.block)
def AllI (w:World) (bs ob Z:Nat) (pre:List Ent) (V:World):Prop:=∃v cells,V.heap[ob]?=some (.cells #[v] 140 (0,0))/\V.ownsRow w.heap.size 113 1 v pre.length cells/\KeysAt (fun b=>Z<=b/\v.ownBlock≠some b) V cells pre/\(∀g,v.ownBlock=some g->Z<=g)/\Upd (fun b=>b=bs) w V/\ob<Z
theorem all_c {F:Nat->Prop} {bs bm:Nat} {w:World} {L:List Ent} (kind:Int) (hd md a:Nat) (hf:∀W,Calls Tryz.prog 173 #[.int .i64 kind] W fun e w'=>e=.returned (.tuple #[.agg #[.int .u8 (hd:Int),.int .u8 (md:Int),.bool true,.bool true,.bool false],.bool true])/\New W w') (h1:hd<256) (h2:md<256) (h0:0<md) (ha:a<18446744073709551616)
 (hs:SFm F bs bm w L) (hlen:L.length<=1000000) (hsz:∀e ∈ L,e.1.length<=1073741824/\e.2.length<=1073741824):
 Calls Tryz.prog 71 #[.pointer (some ⟨bs,0,none⟩),.int .i64 kind,.int .u64 (a:Int)] w (AllR F bs bm w L (hd :: (be 8 a ++ [md]))):=by
 obtain⟨base,D,A,n,c,vs,ps,g1,g2,g3,g4,g5,rfl⟩:=hs
 obtain⟨css,hc⟩:=g2.named
 obtain⟨pk,hpk⟩:∃pk,pk=hd :: (be 8 a ++ [md]):=⟨_,rfl⟩
 obtain⟨WA,hWA⟩:∃WA,WA=w.alloc (.cells #[.slice none 0 0] 140):=⟨_,rfl⟩
 have hal:New w WA:=by rw[hWA];exact Upd.alloc _ _ _
 have hWAs:WA.heap.size=w.heap.size+1:=by rw[hWA];exact World.size_alloc _ _
 have hob:WA.heap[w.heap.size]?=some (.cells #[.slice none 0 0] 140 (0,0)):=by rw[hWA];exact Ex.alloc_new w _
 have hflW:∀b,foot bm D A n c vs b->b<w.heap.size/\b≠bs:=fun b hb=>g4 b (g3 b hb)
 have hbsW:bs<w.heap.size:=g1.lt
 have h115:=under_c (w:=WA) kind hd md a hf h1 h2 h0 ha
 rw[<-hpk]at h115 ⊢
 have H115:=zqH h115;have HC:=zqH hc;have HL:=zqH hlen;have HSZ:=zqH hsz;have HAL:=zqH hal;have HFL:=zqH hflW;have HOB:=zqH hob;have HG1:=zqH g1;have HBS:=zqH hbsW;have HSF:=zqH (And.intro g2 (And.intro g3 (And.intro g4 g5)))
 clear h115 hc hlen hsz hal hflW hob g1 g2 g3 g4 g5 hbsW hf h1 h2 h0 ha hpk
 refine(callsIn_wide (n:=0)).1 ?_
 refine callsIn_of_wp_marks Tryz.func71 rfl trivial ?_ rfl
 simp only[Tryz.ntmps71,List.size_toArray,List.length_cons,List.length_nil,Nat.reduceAdd,Nat.reduceSub,Array.replicate_succ,Array.replicate_zero,List.push_toArray,List.append_toArray,List.nil_append,List.cons_append]
 gi_wp2_with (first
  | (rw[<-hWA];refine⟨trivial,rfl,?_⟩;gi_at_call 115;refine(callsIn_wide.2 H115.out).mono ?_;rintro e w1 ⟨Ah,ch,rfl,hb1,hn1,ha1⟩;have H1:=zqH (And.intro hb1 (And.intro hn1 ha1));clear hb1 hn1 ha1)
  | (refine⟨trivial,rfl,?_⟩;gi_at_call 129;refine(callsIn_wide.2 (prefix_c (bs:=bs) H1.out.1 (by decide) (by decide))).mono ?_;rintro e w2 ⟨p1,p2,sp,pp,A1,c1,rfl,hn2,hpl,hp1,hp2,hp3,hp4,hb2⟩;have H2:=zqH (And.intro hn2 (And.intro hpl (And.intro hp1 (And.intro hp2 (And.intro hp3 (And.intro hp4 hb2))))));clear hn2 hpl hp1 hp2 hp3 hp4 hb2))
 obtain⟨hn2,⟨hp1w,hp2w,hspw,hppw⟩,hp1,hp2,hp3,hp4,hb2⟩:=H2.out
 have hnW2:New w w2:=by
  exact(HAL.out.trans H1.out.2.1).trans hn2
 have hWA1:w.heap.size+1<=w1.heap.size:=by
  have h:WA.heap.size<=w1.heap.size:=H1.out.2.1.size
  omega
 have hs12:=hn2.size
 have hob2:w2.heap[w.heap.size]?=some (.cells #[.slice none 0 0] 140 (0,0)):=by
  refine(hn2.block _ (by omega) id).trans ?_
  have hq:New WA w1:=H1.out.2.1
  exact(hq.block _ (by omega) id).trans HOB.out
 obtain⟨_,_,_,e1,hby,hat⟩:=hb2
 cases e1
 have l1:p1<w2.heap.size:=zqB w2 ⟨p1,0,none⟩ hp1
 have l2:p2<w2.heap.size:=zqB w2 ⟨p2,0,none⟩ hp2
 have l3:sp<w2.heap.size:=zqB w2 ⟨sp,0,none⟩ hp3
 have l4:pp<w2.heap.size:=zqB w2 ⟨pp,0,none⟩ hp4
 have l5:∀x,A1=some x → 0<10->w.heap.size<x.block/\x.block<w2.heap.size:=fun x hx h0=>⟨by have:=hat x hx h0;omega,by
  obtain⟨_,_,_,e,_,h⟩:=BV.of hby
  cases e
  exact h x hx h0⟩
 have hK2:CntP base bm n c bs sp pp 10 c1 p1 p2 D A A1 vs ps css pk w2:=⟨⟨HC.out.upd hnW2 (fun _ _=>id),HG1.out.upd hnW2 id,hp3,hp4,hby⟩,hp1,hp2⟩
 have hbw:=HBS.out
 have hKupd:∀(T:Nat->Prop) (P Q:World),CntP base bm n c bs sp pp 10 c1 p1 p2 D A A1 vs ps css pk P->Upd T P Q → (∀b,b<w2.heap.size->b≠w.heap.size->¬T b)->CntP base bm n c bs sp pp 10 c1 p1 p2 D A A1 vs ps css pk Q:=fun T P Q hk hu hT=>
  hk.upd hu (fun b hb=>hT b (by have:=(HFL.out b hb).1;omega) (by have:=(HFL.out b hb).1;omega)) (hT _ l3 (by omega)) (hT _ l4 (by omega)) (fun x hx h0=>hT _ (l5 x hx h0).2 (by have:=(l5 x hx h0).1;omega)) (hT _ l1 (by omega)) (hT _ l2 (by omega)) (hk.wlk.sto.upd hu (hT _ (by omega) (by omega)))
 have HK2:=zqH hK2;have HKU:=zqH hKupd;have HNW2:=zqH hnW2;have HOB2:=zqH hob2;have L5:=zqH l5
 clear hKupd hnW2 hob2 hby hat hp1 hp2 hp3 hp4 hK2 l5
 refine zbb (gf:=234) (lb:=#[.pointer (some ⟨p1,0,none⟩),.pointer (some ⟨p2,0,none⟩)]) rfl (fun args w=>zas 234 Tryz.func234 (by kernel_rfl) (by kernel_rfl) args w)
  (countedP_gives (base:=base) (bm:=bm) (n:=n) (c:=c) (bs:=bs) (sp:=sp) (pp:=pp) (np:=10) (cp:=c1) (p1:=p1) (p2:=p2) (D:=D) (A:=A) (Ap:=A1) (vs:=vs) (ps:=ps) (css:=css) (pk:=pk) (by decide) HL.out HSZ.out (fun hb=>(HFL.out bs hb).2 rfl) ⟨by omega,by omega,by omega,by omega⟩ (fun x hx h0 e=>by have:=(L5.out x hx h0).1;omega))
  (fun x _ _ vals he=>by obtain⟨_,_,_,_,_,_,e,_⟩:=he;rw[e];rfl) (fun b h=>by have h:b=bs:=h;omega)
  (fun P Q hk hu=>HKU.out _ P Q hk hu (fun b hb _ h=>by omega)) HK2.out
  (fun x W0 P Q vals hz he hu=>hu.elim (fun hu=>he.upd hu (fun _ _=>id)) (fun hu=>he.upd hu (fun b hb=>by omega)))
  (fun Z (pre:List Ent) V=>AllI w bs w.heap.size Z pre V) (fun _ _ _ _=>False)
  (fun Z hZ s P Q hs hu=>by
    obtain⟨v,cells,g1,g2,g3,g4,g5,g6⟩:=hs
    have hnp:∀b,Z<=b->¬Priv (fun b=>b=bs) w2.heap.size Z b:=fun b hb h=>h.elim (fun h=>by have h:b=bs:=h;omega) (fun h=>by omega)
    exact⟨v,cells,(hu.block _ (zqA.1 g1).1 (fun h=>h.elim (fun h=>by have h:w.heap.size=bs:=h;omega) (fun h=>by omega))).trans g1,zae g2 (fun b hb hl=>hu.block b hl (hnp b (g4 b hb))),g3.imp (fun _ _ hb=>hb.upd hu (fun b hb=>hnp b hb.1)),g4,g5.then hu (fun b hb h=>h.elim id (fun h=>by omega)),g6⟩)
  (fun Z cd hZ s P Q hs hu=>hs)
  (fun Z hZ=>⟨.slice none 0 0,[],HOB2.out,World.ownsRow_nil _ _ _ _,KeysAt.nil _ _,(fun g hg=>by cases hg),HNW2.out.mono (fun _ _ h=>h.elim),by omega⟩)
  (fun W0 vals a' V=>∃k1 n1 e1 k2 n2 e2,vals=#[.slice k1 n1 e1,.slice k2 n2 e2]/\a' = { tmps:=#[.pointer (some ⟨bs,0,none⟩),.int .i64 kind,.int .u64 (a:Int),undef,undef,undef,.slice none 0 0,.pointer (some ⟨w.heap.size,0,none⟩),.slice Ah 10 ch,.int .i64 0,.slice k1 n1 e1,.tuple #[.slice Ah 10 ch,.int .i64 0],.int .i64 kind,.int .u64 (a:Int),.tuple #[.slice Ah 10 ch,.int .i64 0],.slice Ah 10 ch,.int .i64 0,.pointer (some ⟨bs,0,none⟩),.slice Ah 10 ch,.func (.func 234) #[] #[.pointer (some ⟨p1,0,none⟩),.pointer (some ⟨p2,0,none⟩)],.slice k1 n1 e1,.slice k2 n2 e2,undef,undef,undef,undef,undef],defers:=[] })
  (fun W0 vals a' P Q hs hu=>hs)
  ?assign ?body ?done ?stop
 case assign=>
  rintro l2 x W0 V vals K ⟨pre,post,hx⟩ hz hz0 ⟨A1,n1,e1,A2,n2,e2,rfl,g1,g2⟩ hk hK'
  gi_wp2
  exact hK' _ _ (Upd.refl _ _) ⟨A1,n1,e1,A2,n2,e2,rfl,rfl⟩
 case body=>
  rintro Z pre x W0 V vals a' ⟨post,hx⟩ hZ1 hZ2 ⟨v,cells,g1,g2,g3,g4,g5,g6⟩ hu0 hcp ⟨k1,n1,e1,k2,n2,e2,rfl,rfl⟩ hk
  obtain⟨A1',m1,f1,A2,m2,f2,hvals,hcp1,hcp2⟩:=hcp
  simp only[List.cons.injEq,and_true,Array.mk.injEq,Value.slice.injEq]at hvals
  obtain⟨⟨rfl,rfl,rfl⟩,rfl,rfl,rfl⟩:=hvals
  have hnp:∀b,Z<=b->¬Priv (fun b=>b=bs) w2.heap.size Z b:=fun b hb h=>h.elim (fun h=>by have h:b=bs:=h;omega) (fun h=>by omega)
  have v1:V.heap[w.heap.size]?=some (.cells #[v] 140 (0,0)):=(hu0.block _ (zqA.1 g1).1 (fun h=>h.elim (fun h=>by have h:w.heap.size=bs:=h;omega) (fun h=>by omega))).trans g1
  have v2:V.ownsRow w.heap.size 113 1 v pre.length cells:=zae g2 (fun b hb hl=>hu0.block b hl (hnp b (g4 b hb)))
  have v3:=g3.imp (fun _ _ hb=>hb.upd hu0 (fun b hb=>hnp b hb.1))
  have vc:=zaa v1 0 v rfl
  have hW0:∀g,v.ownBlock=some g->g<W0.heap.size:=fun g hg=>(zak g2 hg).1
  have hVs:=hu0.size
  have hpl:pre.length<=1000000:=by
   have h1:=HL.out
   have h2:(prefixed pk ps.flatten).length<=ps.flatten.length:=Nat.le_trans (List.Sublist.length_le (List.takeWhile_sublist _)) (List.length_filter_le _ _)
   rw[hx]at h2;simp at h2 h1;omega
  obtain⟨i0,hi0,hz0,hz1,hz2⟩:=info_parts info113
  have hown:(V.alloc (.cells #[.slice k1 n1 e1] 113)).ownsRow w.heap.size 113 1 v pre.length cells:=zan v2 _ rfl
  have hsrc:Gl.Src (V.alloc (.cells #[.slice k1 n1 e1] 113)) (some ⟨V.heap.size,0,none⟩) 1 [.slice k1 n1 e1]:=fun _=>⟨_,_,rfl,fun j u hu=>by
   rw[Nat.zero_add];exact zaa (Ex.alloc_new V _) j u (by simpa using hu)⟩
  have hwV:w.heap.size<=(V.alloc (.cells #[.slice k1 n1 e1] 113)).heap.size:=by rw[World.size_alloc];have:=g5.size;omega
  have hbox:∀w2:World,(V.alloc (.cells #[.slice k1 n1 e1] 113)).grownBy w2 v.ownBlock->w2.heap[w.heap.size]?=some (.cells #[v] 140 (0,0)):=fun w2 hg=>by
   have hne:some w.heap.size≠v.ownBlock:=fun e=>by have:=g4 _ e.symm;omega
   have hl:w.heap.size<V.heap.size:=(zqA.1 v1).1
   exact(hg.block _ (by rw[World.size_alloc];omega) hne).trans ((zaj _ hl).trans v1)
  have HOWN:=zqH hown;have HSRC:=zqH hsrc;have HWV:=zqH hwV;have HBOX:=zqH hbox;have HV3:=zqH v3;have H4:=zqH g4;have H5:=zqH g5;have HU0:=zqH hu0;have HCP:=zqH hcp1;have HKW:=zqH hk;have HWZ:=zqH hW0
  clear hown hsrc hwV hbox v2 v3 g1 g2 g3 g4 g5 hu0 hcp1 hcp2 hk hW0 v1 hx
  gi_wp2_with (gi_at_builtin
               refine zbg _ rfl _ _ _ rfl w.heap.size 113 i0 _ 1 24 Tryz.underlying140 hi0 hz0 hz1 hz2 rfl (by omega) v pre.length cells rfl HOWN.out _ 1 1 [.slice k1 n1 e1] rfl rfl HSRC.out (by simp[Value.oneCell']) (by simp only[maxLen];omega) (by omega) HWV.out ?_
               intro A' c' w3 hown2 hg2 hat2
               have hb2:=HBOX.out w3 hg2
               have hbc:=zaa hb2 0 v rfl
               have hbf:=zac hb2 0
               have HQ:=zqH (And.intro hown2 (And.intro hg2 hat2));clear hown2 hg2 hat2)
  obtain⟨hown2,hg2,hat2⟩:=HQ.out
  obtain⟨v',hv'⟩:∃v',v'=Value.slice A' (pre.length+1) c':=⟨_,rfl⟩
  rw[<-hv']at hown2 hat2 ⊢
  have e1s:(V.alloc (.cells #[.slice k1 n1 e1] 113)).heap.size=V.heap.size+1:=World.size_alloc _ _
  have hu2:Upd (fun b=>v.ownBlock=some b\/b=w.heap.size) V (w3.setCell ⟨w.heap.size,0,none⟩ v'):=((Upd.alloc _ V _).trans (Upd.of_grown hg2 (fun c hc=>.inl hc))).trans (Upd.setCell w3 _ (.inr rfl))
  have hob':v'.ownBlock≠some w.heap.size:=fun e=>by
   rcases hat2 with h|h
   · rw[h]at e;have:=H4.out _ e;omega
   · rw[h]at e
     have:=H5.out.size
     injection e with e;omega
  have hfresh:∀b,v'.ownBlock=some b->v.ownBlock=some b\/V.heap.size<=b:=fun b hb=>by
   rcases hat2 with h|h
   · exact .inl (h▸hb)
   · rw[h]at hb
     injection hb with hb;exact .inr (by omega)
  have hno:∀b,b<Z->b≠w.heap.size->¬(v.ownBlock=some b\/b=w.heap.size):=fun b hb hb2 h=>h.elim (fun h=>by have:=H4.out _ h;omega) hb2
  refine⟨⟨hu2.block _ (by omega) (hno _ (by omega) (by omega)),hu2.block _ (by omega) (hno _ (by omega) (by omega)),hu2.size,fun k hk=>hu2.block k (by omega) (fun h=>?_)⟩,HKU.out _ _ _ HKW.out hu2 (fun b hb hb2=>hno b (by omega) hb2),v',cells ++ [.slice k1 n1 e1],zab hb2 v' (i:=0),?_,?_,?_,?_,g6⟩
  · rcases h with h|h
    · have h1:=H4.out _ h;have h2:=HWZ.out _ h;omega
    · omega
  · rw[List.length_append]
    exact zae hown2 (fun b hb hl=>(Upd.setCell (S:=fun b=>b=w.heap.size) w3 v' rfl).block b hl (fun e=>hob' (e▸hb)))
  · have hold:=HV3.out.imp (D':=fun b=>Z<=b/\v'.ownBlock≠some b) (w':=w3.setCell ⟨w.heap.size,0,none⟩ v') (fun _ _ hb=>(hb.lt.upd hu2 (fun b hb h=>h.elim (fun h=>hb.1.2 h) (fun h=>by have:=hb.1.1;omega))).mono (fun b hb=>⟨hb.1.1,fun e=>(hfresh b e).elim hb.1.2 (fun h=>by have:=hb.2;omega)⟩))
    exact hold.snoc ((HCP.out.lt.upd hu2 (fun b hb h=>h.elim (fun h=>by have:=HWZ.out _ h;omega) (fun h=>by omega))).mono (fun b hb=>⟨by omega,fun e=>(hfresh b e).elim (fun h=>by have:=HWZ.out _ h;omega) (fun h=>by omega)⟩))
  · intro g hg
    rcases hfresh g hg with h|h
    · exact H4.out g h
    · omega
  · refine(H5.out.then (HU0.out) (fun b hb h=>h.elim id (fun h=>by have:=H5.out.size;omega))).then hu2 (fun b hb h=>h.elim (fun h=>by have:=H4.out _ h;omega) (fun h=>by omega))
 case done=>
  rintro Z V hZ1 hZ2 ⟨v,cells,g1,g2,g3,g4,g5,g6⟩ hd hkV
  have vc:=zaa g1 0 v rfl
  obtain⟨N,hN⟩:∃N,N=(prefixed pk ps.flatten).length:=⟨_,rfl⟩
  rw[<-hN]at g2
  obtain⟨A',c',rfl⟩:=ownsRow_form g2
  have HG:=zqH (And.intro g2 (And.intro g3 (And.intro g4 (And.intro g5 hN))));have HKV:=zqH hkV
  clear g1 g2 g3 g4 g5 hN hkV
  gi_wp2
  refine⟨by simp,.inl ⟨_,_,rfl,run_takeDeferred hd,?_⟩⟩
  obtain⟨g2,g3,g4,g5,hN⟩:=HG.out
  have hq:Upd (fun b=>b=w2.heap.size) V (V.putObj w2.heap.size (.deferred none)):=Upd.putObj V _ rfl
  have hge:∀b,Z<=b->¬b=w2.heap.size:=fun b hb e=>by omega
  have hkq:=HKU.out _ _ _ HKV.out hq (fun b hb _ e=>by omega)
  have hp:Upd (fun b=>b=bs) w (V.putObj w2.heap.size (.deferred none)):=g5.then hq (fun b hb e=>by have:=HNW2.out.size;have e:b=w2.heap.size:=e;omega)
  obtain⟨h2,h3,h4,h5⟩:=HSF.out
  refine⟨_,results_tmp rfl _ _ _,A',N,c',cells,rfl,hN,Sl.of_own (zae g2 (fun b hb hl=>hq.block b hl (hge b (g4 b hb)))),g3.imp (fun _ _ hb=>(hb.upd hq (fun b hb=>hge b hb.1)).mono (fun b hb=>by have:=hb.1;omega)),⟨base,D,A,n,c,vs,ps,hkq.wlk.sto,⟨hkq.wlk.map.map.toMapRaw,h2.good,h2.few⟩,h3,fun b hb=>⟨zqL (h4 b hb).1 hp.size,(h4 b hb).2⟩,Nat.le_trans h5 hp.size,rfl⟩,hp,fun a ha=>?_⟩
  subst ha
  have:=g4 a.block rfl
  omega
 case stop=>
  rintro Z cd pre x post V hZ1 hZ2 hx h hd
  exact h.elim
theorem blt_nil (a:Bs):blt a []=false:=by cases a<;>rfl
theorem pfx_h (S:F1.Sta):prefixed (118 :: (be 8 16 ++ [104])) (F1.ents S)=S.h.map F1.entH:=by
 unfold prefixed F1.ents
 have h1:∀e ∈ S.h.map F1.entH ++ S.c.map F1.entC,(!blt e.1 (118 :: (be 8 16 ++ [104])))=true:=fun e he=>by
  rcases List.mem_append.1 he with he|he<;>obtain⟨x,_,rfl⟩:=List.mem_map.1 he
  · show(!blt (F1.hk x.1) _)=true
    unfold F1.hk;rw[F1.blt_self_cons,F1.blt_pre,F1.blt_self_cons,blt_nil];rfl
  · show(!blt (F1.ck x.1) _)=true
    unfold F1.ck;rw[F1.blt_self_cons,F1.blt_pre];simp[blt]
 rw[List.filter_eq_self.2 h1]
 have h2:∀e ∈ S.h.map F1.entH,decide ((118 :: (be 8 16 ++ [104])) <+: e.1)=true:=fun e he=>by
  obtain⟨x,_,rfl⟩:=List.mem_map.1 he
  exact decide_eq_true ⟨be 8 x.1,by show _=F1.hk x.1;unfold F1.hk;simp⟩
 cases hc:S.c.map F1.entC with
 | nil=>rw[List.append_nil];exact twp_all h2
 | cons y l=>
   refine twp_cut h2 (decide_eq_false fun hp=>?_)
   obtain⟨x,_,rfl⟩:=List.mem_map.1 (show y ∈ S.c.map F1.entC by rw[hc];exact List.mem_cons_self)
   obtain⟨t,ht⟩:=hp
   have ht:_=F1.ck x.1:=ht
   unfold F1.ck at ht
   simp at ht
theorem pfx_c (S:F1.Sta):prefixed (118 :: (be 8 16 ++ [115])) (F1.ents S)=S.c.map F1.entC:=by
 unfold prefixed F1.ents
 have h1:∀e ∈ S.h.map F1.entH,¬(!blt e.1 (118 :: (be 8 16 ++ [115])))=true:=fun e he=>by
  obtain⟨x,_,rfl⟩:=List.mem_map.1 he
  show ¬(!blt (F1.hk x.1) _)=true
  unfold F1.hk;rw[F1.blt_self_cons,F1.blt_pre];simp[blt]
 have h3:∀e ∈ S.c.map F1.entC,(!blt e.1 (118 :: (be 8 16 ++ [115])))=true:=fun e he=>by
  obtain⟨x,_,rfl⟩:=List.mem_map.1 he
  show(!blt (F1.ck x.1) _)=true
  unfold F1.ck;rw[F1.blt_self_cons,F1.blt_pre,F1.blt_self_cons,blt_nil];rfl
 rw[List.filter_append,List.filter_eq_nil_iff.2 h1,List.filter_eq_self.2 h3,List.nil_append]
 refine twp_all fun e he=>?_
 obtain⟨x,_,rfl⟩:=List.mem_map.1 he
 exact decide_eq_true ⟨be 8 x.1,by show _=F1.ck x.1;unfold F1.ck;simp⟩
theorem Okay.sz {S:F1.Sta} (h:Okay S):∀e ∈ F1.ents S,e.1.length<=1073741824/\e.2.length<=1073741824:=fun e he=>⟨by
 unfold F1.ents at he
 rcases List.mem_append.1 he with he|he<;>obtain⟨x,_,rfl⟩:=List.mem_map.1 he
 · show(F1.hk x.1).length<=_;simp[F1.hk,zah]
 · show(F1.ck x.1).length<=_;simp[F1.ck,zah],h.val e he⟩
theorem all_h {F:Nat->Prop} {bs bm:Nat} {w:World} {S:F1.Sta} (hS:Okay S) (h:SFm F bs bm w (F1.ents S)):Calls Tryz.prog 71 #[.pointer (some ⟨bs,0,none⟩),.int .i64 7,.int .u64 16] w (AllR F bs bm w (F1.ents S) (118 :: (be 8 16 ++ [104]))):=
 all_c 7 118 104 16 form7 (by decide) (by decide) (by decide) (by decide) h hS.len hS.sz
theorem all_k {F:Nat->Prop} {bs bm:Nat} {w:World} {S:F1.Sta} (hS:Okay S) (h:SFm F bs bm w (F1.ents S)):Calls Tryz.prog 71 #[.pointer (some ⟨bs,0,none⟩),.int .i64 8,.int .u64 16] w (AllR F bs bm w (F1.ents S) (118 :: (be 8 16 ++ [115]))):=
 all_c 8 118 115 16 form8 (by decide) (by decide) (by decide) (by decide) h hS.len hS.sz
theorem count_c {F:Nat->Prop} {bs bm:Nat} {w:World} {S:F1.Sta} (hS:Okay S) (h:SFm F bs bm w (F1.ents S)):
 Calls Tryz.prog 21 #[.pointer (some ⟨bs,0,none⟩),.int .u64 16] w fun e w'=>e=.returned (.tuple #[.int .i64 (S.h.length:Int),.int .i64 (S.c.length:Int)])/\SFm F bs bm w' (F1.ents S)/\Upd (fun b=>b=bs) w w':=by
 have H1:=zqH (all_h hS h);have HS:=zqH hS
 clear h hS
 go_enter Tryz.func21,Tryz.ntmps21
 go_wp2_with (first
  | (go_at_call_of 71 (Value.int IntKind.i64 7);refine H1.out.mono ?_;rintro e w1 ⟨A,n,c,cells,rfl,hn,_,_,hs1,hu1,_⟩;rw[pfx_h,List.length_map]at hn;subst hn;have K1:=zqH (And.intro hs1 hu1);clear hs1 hu1)
  | (go_at_call_of 71 (Value.int IntKind.i64 8);refine(all_k HS.out K1.out.1).mono ?_;rintro e w2 ⟨A2,n2,c2,cells2,rfl,hn2,_,_,hs2,hu2,_⟩;rw[pfx_c,List.length_map]at hn2;subst hn2;have K2:=zqH (And.intro hs2 hu2);clear hs2 hu2))
 go_ret2
 exact⟨rfl,K2.out.1,K1.out.2.trans K2.out.2⟩
theorem del_head {e:Ent} {l:List Ent} (h:Sorted (e :: l)):del (e :: l) e.1=l:=by
 have h:=List.pairwise_cons.1 h
 unfold del
 rw[List.filter_cons_of_neg (by simp),List.filter_eq_self.2 fun x hx=>?_]
 have:=h.1 x hx
 have hne:x.1≠e.1:=fun e2=>by rw[e2,zat]at this;cases this
 simpa using hne
theorem gone_loop {P R:List Ent} {j:Nat} {e:Ent} (hj:P[j]?=some e) (hs:Sorted (P.drop j ++ R)):del (P.drop j ++ R) e.1=P.drop (j+1) ++ R:=by
 have hlt:=(List.getElem?_eq_some_iff.1 hj).1
 have he:=(List.getElem?_eq_some_iff.1 hj).2
 rw[List.drop_eq_getElem_cons hlt,he,List.cons_append]at hs ⊢
 exact del_head hs
theorem gone_c {F:Nat->Prop} {bs:Nat} {w:World} {S:F1.Sta} (hS:Okay S) (h:SF F bs w (F1.ents S)):
 Calls Tryz.prog 35 #[.pointer (some ⟨bs,0,none⟩),.int .u64 16] w fun e w'=>e=.returned (.tuple #[])/\∃F',SF F' bs w' []/\Step F F' bs w w':=by
 obtain⟨W1,hW1⟩:∃W,W=w.alloc (.cells #[.int .i64 7,.int .i64 8] 3):=⟨_,rfl⟩
 have n1:New w W1:=by rw[hW1];exact Upd.alloc _ _ _
 have s1:W1.heap.size=w.heap.size+1:=by rw[hW1];exact World.size_alloc _ _
 have k1:W1.heap[w.heap.size]?=some (.cells #[.int .i64 7,.int .i64 8] 3 (0,0)):=by rw[hW1];exact Ex.alloc_new w _
 have hof:=h.off_new (Nat.le_refl w.heap.size)
 obtain⟨Ls,hLs⟩:∃Ls:Nat->F1.Sta,Ls=fun i=>if i=0 then S else if i=1 then⟨[],S.c⟩ else⟨[],[]⟩:=⟨_,rfl⟩
 have hok:∀i,Okay (Ls i):=fun i=>by
  rw[hLs];simp only
  split
  · exact hS
  · split
    · exact⟨⟨fun x hx=>(by cases hx),hS.fine.c⟩,fun x hx=>(by cases hx),Nat.le_trans (Nat.add_le_add_right (Nat.zero_le _) _) hS.few⟩
    · exact⟨⟨fun x hx=>(by cases hx),fun x hx=>(by cases hx)⟩,fun x hx=>(by cases hx),by simp⟩
 have HOK:=zqH hok;have H1:=zqH (h.new n1);have N1:=zqH n1;have K1:=zqH k1;have HOF:=zqH hof
 have HL0:Hid (Ls 0=S/\Ls 1=⟨[],S.c⟩/\Ls 2=⟨[],[]⟩):=zqH (by rw[hLs];exact⟨rfl,rfl,rfl⟩)
 clear hok h n1 k1 hof hLs hS
 go_enter Tryz.func35,Tryz.ntmps35
 go_upto_region 1 with fail
 rw[<-hW1]
 clear hW1
 go_loopw [10] (fun v10 wr=>∃i:Nat,i<=2/\v10=.int .i64 (i:Int)/\Hid (∃F',SF F' bs wr (F1.ents (Ls i))/\Step F F' bs W1 wr)) (fun v10 _=>2-(intOf v10).toNat)
 case atStart=>exact⟨0,by omega,rfl,zqH ⟨F,by rw[HL0.out.1];exact H1.out,Step.refl _ _ _⟩⟩
 case round=>
  obtain⟨i,hi,rfl,hI⟩:=hrel
  by_cases h2:i<2
  · obtain⟨F',hsf,hst⟩:=hI.out
    obtain⟨bm,hm⟩:=hsf.m
    have kk:=(hst.block (show w.heap.size<W1.heap.size by omega) HOF.out.1 HOF.out.2).trans K1.out
    obtain⟨kd,hkd,P,R,pk,hall,hPR,hPR2⟩:∃kd:Int,wr.cell? ⟨w.heap.size,i,none⟩=some (.int .i64 kd)/\∃(P R:List Ent) (pk:Bs),Calls Tryz.prog 71 #[.pointer (some ⟨bs,0,none⟩),.int .i64 kd,.int .u64 16] wr (AllR F' bs bm wr (F1.ents (Ls i)) pk)/\prefixed pk (F1.ents (Ls i))=P/\F1.ents (Ls i)=P ++ R/\F1.ents (Ls (i+1))=R:=by
     rcases Nat.lt_or_ge i 1 with hi1|hi1
     · obtain rfl:i=0:=by omega
       exact⟨7,zaa kk 0 _ rfl,_,(Ls 0).c.map F1.entC,_,all_h (HOK.out 0) hm,pfx_h _,rfl,by rw[HL0.out.1,HL0.out.2.1];rfl⟩
     · obtain rfl:i=1:=by omega
       exact⟨8,zaa kk 1 _ rfl,_,[],_,all_k (HOK.out 1) hm,pfx_c _,by rw[HL0.out.2.1];unfold F1.ents;simp,by rw[HL0.out.2.2];rfl⟩
    have HALL:=zqH hall;have HPR:=zqH (And.intro hPR hPR2);have HST:=zqH (And.intro hsf hst);have hlen:=(HOK.out i).len
    have HLEN:=zqH hlen
    clear hall hPR hPR2 hsf hst hm kk hI hlen
    go_upto_region 4 with(go_at_call 71;refine HALL.out.mono ?_;rintro e wa ⟨A,n,c,cells,rfl,hn,hsl,hks,hsm,hua,hA⟩;have HA:=zqH (And.intro hn (And.intro hsl (And.intro hks (And.intro hsm (And.intro hua hA)))));clear hn hsl hks hsm hua hA HALL)
    have hlt:∀b,F' b->b<wr.heap.size/\b≠bs:=fun b hb=>HST.out.1.lt hb
    have hbsl:=HST.out.1.bs_lt
    have hnb:n<=1000000:=by
     have h1:=HLEN.out
     have h2:=HA.out.1
     rw[HPR.out.1]at h2
     rw[HPR.out.2.1,List.length_append]at h1;omega
    go_loopw [19] (fun v19 wx=>∃j:Nat,j<=n/\v19=.int .i64 (j:Int)/\Hid (∃F2,SF F2 bs wx (P.drop j ++ R)/\Step F' F2 bs wa wx)) (fun v19 _=>n-(intOf v19).toNat)
    case atStart=>exact⟨0,by omega,rfl,zqH ⟨F',by rw[List.drop_zero,<-HPR.out.2.1];exact HA.out.2.2.2.1.sf,Step.refl _ _ _⟩⟩
    case round=>
     obtain⟨j,hj,rfl,hJ⟩:=hrel
     by_cases hjn:j<n
     · obtain⟨hn,hsl,hks,hsm,hua,hAb⟩:=HA.out
       rw[HPR.out.1]at hn hks
       obtain⟨F2,hs2,hst2⟩:=hJ.out
       obtain⟨e,he⟩:∃e,P[j]?=some e:=⟨_,List.getElem?_eq_getElem (by omega)⟩
       obtain⟨v,hv,hbv⟩:=hks.2 j e he
       obtain⟨g,o,rfl,hrow⟩:=hsl.row (by omega)
       obtain⟨Ak,nk,ck,rfl,hby,hat⟩:=hbv
       have hg:=hAb _ rfl
       have cx:=(hst2.upd.cell (a:=⟨g,o+j,none⟩) hrow.1 (fun h=>h.elim (fun h=>by have:=(hlt g h).1;simp only at hg;omega) (fun h=>by simp only at hg h;omega))).trans (hrow.2 j _ hv)
       have hbx:=hby.upd hst2.upd (fun a ha h0 h=>h.elim (fun h=>by have:=(hlt _ h).1;have:=hat a ha h0;omega) (fun h=>by have:=hat a ha h0;omega))
       have hdel:=kdel_f (k:=e.1) hs2 (by
        have h1:=HLEN.out
        rw[HPR.out.2.1,List.length_append]at h1
        rw[List.length_append,List.length_drop];omega) hbx (fun a ha h0 h=>by have:=hat a ha h0;omega)
       rw[gone_loop he hs2.sorted]at hdel
       have HD:=zqH hdel;have HS2:=zqH hst2
       clear hdel hst2 hs2 hbx hby hat hrow hsl hks hsm hua hAb hJ hv he hn
       go_wp2_with (go_at_call 89;refine HD.out.mono ?_;rintro e w3 ⟨⟨rv,rfl⟩,F3,hs3,hst3⟩;have H3:=zqH (And.intro hs3 hst3);clear hs3 hst3)
       have hw1:wrap64 ((j:Int)+1)=((j+1:Nat):Int):=by unfold wrap64;omega
       exact⟨⟨j+1,by omega,by congr 1,zqH ⟨F3,H3.out.1,HS2.out.trans H3.out.2⟩⟩,by simp[intOf,hw1];omega⟩
     · obtain rfl:j=n:=by omega
       obtain⟨F2,hs2,hst2⟩:=hJ.out
       have hn:=HA.out.1
       rw[HPR.out.1]at hn
       rw[hn,List.drop_length,List.nil_append,<-HPR.out.2.2]at hs2
       have HE:=zqH (show SF F2 bs wr (F1.ents (Ls (i+1)))/\Step F F2 bs W1 wr from⟨hs2,(HST.out.2.trans ⟨fun b hb=>.inl hb,HA.out.2.2.2.2.1.mono (fun b _ h=>.inr h)⟩).trans hst2⟩)
       clear hs2 hst2 hJ hn
       go_wp2
       exact⟨⟨i+1,by omega,by congr 1,zqH ⟨F2,HE.out⟩⟩,by simp[intOf];omega⟩
  · obtain rfl:i=2:=by omega
    go_wp2
    go_end0
    obtain⟨F',h1,h2⟩:=hI.out
    rw[HL0.out.2.2]at h1
    exact⟨rfl,F',h1,(Step.of_new N1.out).trans h2⟩
end Go.Proofs.YtbhnjkegkadodaaGreatDoor

/- Part of the proof. -/
import Derived.Test.YtbhnjkegkadodaaGreatDoorG31
import Derived.Test.YtbhnjkegkadodaaGreatDoorG29
set_option linter.all false
set_option maxRecDepth 100000
set_option maxHeartbeats 8000000
namespace Go.Proofs.YtbhnjkegkadodaaGreatDoor
open Go Go.RowKit Go.Proofs Gl Go.Shelf
attribute [local go_sem] Oper.semAt_some
theorem kdel_f {F:Nat->Prop} {bs nk ck:Nat} {Ak:Option Addr} {w:World} {L:List Ent} {k:Bs} (h:SF F bs w L) (hL:L.length<=1000000) (hk:By w Ak nk ck k) (hkb:∀a,Ak=some a → 0<nk->a.block≠bs):
 Calls Tryz.prog 89 #[.pointer (some ⟨bs,0,none⟩),.slice Ak nk ck] w fun e w'=>(∃v,e=.returned v)/\∃F',SF F' bs w' (del L k)/\Step F F' bs w w':=by
 obtain⟨base,bm,D,A,n,c,vs,ps,h1,h2,h3,h4,h5,rfl⟩:=h
 obtain⟨L,hLL⟩:∃L,L=ps.flatten:=⟨_,rfl⟩
 rw[<-hLL]at hL ⊢
 have hcount:=h1.count
 have hup:∀w1,Upd (fun b=>b=bs) w w1->StoB w1 bs bm->MapIn 182 251 base w1 bm D A n c vs ps/\By w1 Ak nk ck k:=fun w1 hu hs=>
  ⟨⟨h2.toMapRaw.upd hu (fun b hb e=>(h4 b (h3 b hb)).2 e),h2.good,h2.few⟩,hk.upd hu (fun a ha h0 e=>hkb a ha h0 e)⟩
 have HC:=zqH hcount;have HU:=zqH hup;have HLL:=zqH hLL;have HL:=zqH hL;have H3:=zqH h3;have HB:=zqH h5;have H4:=zqH h4
 clear hcount hup hLL hL h1 h2 h3 hk hkb h5 h4
 go_enter Tryz.func89,Tryz.ntmps89
 go_wp2_with (first
  | (go_at_call 132;refine HC.out.mono ?_;rintro e w1 ⟨⟨_,rfl⟩,hs1,hu1⟩;have H1:=zqH (And.intro hs1 hu1);clear hs1 hu1)
  | (go_at_call 133;refine(noted_c H1.out.1).mono ?_;rintro e w2 ⟨⟨_,rfl⟩,hn2⟩;have hs2:=H1.out.1.upd hn2 id;have hc2:=(zaa (Classical.choose_spec hs2) 0 (.pointer (some ⟨bm,0,none⟩)) rfl);have H2:=zqH (And.intro hs2 hn2);clear hs2 hn2)
  | (go_at_call 142;refine(pdel_c (F:=fun b=>foot bm D A n c vs b) (base:=base) ⟨((HU.out w1 H1.out.2 H1.out.1).1).toMapRaw.upd H2.out.2 (fun _ _=>id),((HU.out w1 H1.out.2 H1.out.1).1).good,((HU.out w1 H1.out.2 H1.out.1).1).few⟩ (fun b=>id) (((HU.out w1 H1.out.2 H1.out.1).2).new H2.out.2) (by rw[<-HLL.out];exact HL.out)).mono ?_;rintro e w3 ⟨r3,F',ps',rfl,hm3,hf3,hu3,hp3⟩;have H5:=zqH (And.intro hm3 (And.intro hf3 (And.intro hu3 hp3)));clear hm3 hf3 hu3 hp3))
 go_ret
 obtain⟨hm3,hf3,hu3,hp3⟩:=H5.out
 obtain⟨hs1,hu1⟩:=H1.out
 obtain⟨hs2,hn2⟩:=H2.out
 obtain⟨D',A',n',c',vs',hm4,hf4⟩:=hm3
 have hlt:=hs2.lt
 have hsz:=Nat.le_trans hu1.size hn2.size
 have hbs:=hs1.lt
 have hbase:=HB.out
 have hnb:¬foot bm D A n c vs bs:=fun h=>(H4.out bs (H3.out bs h)).2 rfl
 refine⟨⟨_,rfl⟩,fun b=>foot bm D' A' n' c' vs' b,⟨base,bm,D',A',n',c',vs',ps',hs2.upd hu3 hnb,hm4,fun b=>id,fun b hb=>⟨hm4.toMapRaw.foot_lt hb,fun e=>?_⟩,by have:=hu3.size;omega,by rw[hp3,HLL.out]⟩,fun b hb=>?_,((hu1.mono (fun b _ e=>.inr e)).trans (hn2.mono (fun b _ h=>h.elim))).then hu3 (fun b _ h=>.inl (H3.out b h))⟩
 · rcases hf3 b (hf4 b hb) with h|h
   · exact hnb (e▸h)
   · omega
 · rcases hf3 b (hf4 b hb) with h|h
   · exact .inl (H3.out b h)
   · exact .inr (by omega)
end Go.Proofs.YtbhnjkegkadodaaGreatDoor
namespace Go.Proofs.YtbhnjkegkadodaaGreatDoor
open Go Go.RowKit Go.Proofs Gl
theorem del_hist {F:Nat->Prop} {bs p:Nat} {w:World} {S:F1.Sta} (hS:Okay S) (hp:p<18446744073709551616) (h:SF F bs w (F1.ents S)) {A:Option Addr} {ck:Nat} (hk:By w A 18 ck (F1.hk p)) (hkb:∀a,A=some a->a.block≠bs):
 Calls Tryz.prog 89 #[.pointer (some ⟨bs,0,none⟩),.slice A 18 ck] w fun e w'=>(∃v,e=.returned v)/\∃F',SF F' bs w' (F1.ents { S with h:=F1.delR S.h p })/\Step F F' bs w w':=by
 have:=kdel_f h hS.len hk (fun a ha _=>hkb a ha)
 rwa [F1.del_h hS.fine hp]at this
theorem free_c {F:Nat->Prop} {bs p:Nat} {w:World} {S:F1.Sta} (hS:Okay S) (hp:p<18446744073709551616) (h:SF F bs w (F1.ents S)):
 Calls Tryz.prog 80 #[.pointer (some ⟨bs,0,none⟩),.int .u64 16,.int .u64 (p:Int)] w (StoR F bs w (F1.ents (F1.free S p))):=by
 have hh:=history_c hS hp h
 have hfit:=hS.hist p
 have hbs:=h.bs_lt
 have hF:∀b,F b->b<w.heap.size:=fun b hb=>(h.lt hb).1
 unfold F1.free
 obtain⟨r,hr⟩:∃r,r=(F1.hist S p).1:=⟨_,rfl⟩
 obtain⟨c,hc⟩:∃c,c=(F1.hist S p).2:=⟨_,rfl⟩
 rw[<-hr,<-hc]at hh hfit ⊢
 have hset:∀W A ck A2 n2 c2 y,SF F bs W (F1.ents S)->By W A 18 ck (F1.hk p) → (∀a,A=some a->a.block≠bs)->By W A2 n2 c2 (F1.encH r y) → (∀a,A2=some a->a.block≠bs)->_:=fun W A ck A2 n2 c2 y h1 h2 h3 h4 h5=>set_hist hS hp hfit.1 h1 h2 h3 h4 h5
 have hdel:∀W A ck,SF F bs W (F1.ents S)->By W A 18 ck (F1.hk p) → (∀a,A=some a->a.block≠bs)->_:=fun W A ck h1 h2 h3=>del_hist hS hp h1 h2 h3
 obtain⟨L',hL'⟩:∃L',L'=F1.ents (if c=0 then S else if c=1 then { S with h:=F1.delR S.h p } else { S with h:=F1.putR S.h (p,r,c-1) }):=⟨_,rfl⟩
 rw[<-hL']
 have HLL:=zqH hL'
 clear hL'
 have HH:=zqH hh;have HSET:=zqH hset;have HDEL:=zqH hdel;have HFIT:=zqH hfit;have HF:=zqH hF;have HP:=zqH hp
 have hcl:c<18446744073709551616:=hfit.2
 clear hh hset hdel hfit hr hc hS h hF hp
 go_enter Tryz.func80,Tryz.ntmps80
 go_upto_region 1 with(go_at_call 58;refine HH.out.mono ?_;rintro e w1 ⟨R,m,d,rfl,hr1,hsf1,hu1⟩;have H1:=zqH (And.intro hr1 (And.intro hsf1 hu1));clear HH hr1 hsf1 hu1)
 obtain⟨hr1,hsf1,hu1⟩:=H1.out
 obtain⟨W2,hW2⟩:∃W2,W2=w1.alloc (.cells #[.slice R m d,.int .u64 (c:Int)] 120):=⟨_,rfl⟩
 rw[<-hW2]
 have n2:New w1 W2:=by rw[hW2];exact Upd.alloc _ _ _
 have b2:=Ex.alloc_new w1 (.cells #[.slice R m d,.int .u64 (c:Int)] 120)
 rw[<-hW2]at b2
 have l1:W2.cell? ⟨w1.heap.size,1,none⟩=some (.int .u64 (c:Int)):=zaa b2 1 _ rfl
 have z1:=zac b2 1
 have hs1:=hu1.size
 have N2:=zqH n2;have B2:=zqH b2
 have HS2:=zqH (And.intro (hsf1.new n2) ((hu1.trans (n2.mono (fun _ _ h=>h.elim)):Upd (fun b=>b=bs) w W2)))
 clear hW2 n2 b2 hr1 hsf1 hu1
 by_cases h0:c=0
 · subst h0
   go_wp2
   go_end0
   exact⟨rfl,F,by rw[HLL.out];simpa using HS2.out.1,⟨fun b hb=>.inl hb,HS2.out.2.mono (fun b _ e=>.inr e)⟩⟩
 · by_cases h1:c=1
   · subst h1
     have hbsl:bs<W2.heap.size:=zqL hbs HS2.out.2.size
     have HBS:=zqH hbsl
     go_wp2_with (first
      | (go_at_call 78
         refine(keyH p HP.out).mono ?_
         rintro e W4 ⟨A,ck,rfl,hk,hn4,hat⟩
         have H4:=zqH (And.intro hk (And.intro hn4 (fun(a:Addr) (ha:A=some a)=>(by have h1:=hat a ha;have h2:=HBS.out;omega:a.block≠bs))))
         clear hk hn4 hat)
      | (go_at_call 89
         refine(HDEL.out W4 A ck (HS2.out.1.new H4.out.2.1) H4.out.1 H4.out.2.2).mono ?_
         rintro e W6 ⟨⟨_,rfl⟩,F',hsf6,st6⟩
         have H6:=zqH (And.intro hsf6 st6)
         clear hsf6 st6))
     go_end0
     refine⟨rfl,F',by rw[HLL.out];simpa using H6.out.1,?_⟩
     have s1:Step F F bs w W4:=⟨fun b hb=>.inl hb,(HS2.out.2.mono (fun b _ e=>.inr e)).trans (H4.out.2.1.mono (fun _ _ h=>h.elim))⟩
     exact s1.trans H6.out.2
   · have hb0:((c:Int) == 0)=false:=by simp;omega
     have hb1:((c:Int) == 1)=false:=by simp;omega
     have hll:=HLL.out
     rw[if_neg h0,if_neg h1]at hll
     obtain⟨y,hy⟩:∃y,y=c-1:=⟨_,rfl⟩
     have hyi:IntKind.u64.wrap ((c:Int)-1)=(y:Int):=by rw[IntKind.wrap_u64];omega
     have hyl:y<18446744073709551616:=by omega
     rw[<-hy]at hll
     clear HLL
     have HLL:=zqH hll
     clear hll
     have HB01:=zqH (And.intro h0 h1)
     clear h0 h1
     go_upto_region 3 with fail
     first|rw[hyi]|rw[<-hy]
     obtain⟨W3,hW3⟩:∃W3,W3=W2.setCell ⟨w1.heap.size,1,none⟩ (.int .u64 (y:Int)):=⟨_,rfl⟩
     rw[<-hW3]
     obtain⟨hr1,hsf1,hu1⟩:=H1.out
     have hs2:=N2.out.size
     have b3:W3.heap[w1.heap.size]?=some (.cells #[.slice R m d,.int .u64 (y:Int)] 120 (0,0)):=by rw[hW3,zab B2.out];rfl
     have u3:Upd (fun b=>b=w1.heap.size) W2 W3:=by rw[hW3];exact Upd.setCell W2 _ rfl
     have hsf3:SF F bs W3 (F1.ents S):=(hsf1.new N2.out).upd_off u3 (fun b hb e=>by have:=HF.out b hb;have e:b=w1.heap.size:=e;omega) (by omega)
     have hr3:LN (Off F bs) W3 R m d r:=((hr1.mono (Q':=fun b=>w.heap.size<=b/\b<w1.heap.size) (fun b hb hq=>⟨hq,hb⟩)).new N2.out |>.upd u3 (fun b hb e=>by have e:b=w1.heap.size:=e;omega)).mono (fun b _ hb=>⟨fun hf=>by have:=HF.out b hf;omega,fun e=>by omega⟩)
     have u13:Upd (fun b=>b=bs) w W3:=(hu1.trans (N2.out.mono (fun _ _ h=>h.elim))).then u3 (fun b hb e=>by have e:b=w1.heap.size:=e;omega)
     have c0:W3.cell? ⟨w1.heap.size,0,none⟩=some (.slice R m d):=zaa b3 0 _ rfl
     have c1:W3.cell? ⟨w1.heap.size,1,none⟩=some (.int .u64 (y:Int)):=zaa b3 1 _ rfl
     have hbl:=(zqA.1 b3).1
     have hcell:∀W T,Upd T W3 W->¬T w1.heap.size->W.cell? ⟨w1.heap.size,0,none⟩=some (.slice R m d)/\W.cell? ⟨w1.heap.size,1,none⟩=some (.int .u64 (y:Int)):=fun W T hu hT=>
      ⟨(hu.cell (a:=⟨w1.heap.size,0,none⟩) hbl hT).trans c0,(hu.cell (a:=⟨w1.heap.size,1,none⟩) hbl hT).trans c1⟩
     have HCE:=zqH hcell;have H3:=zqH (And.intro hsf3 (And.intro hr3 u13));have HBS:=zqH (show bs<W3.heap.size by have:=u3.size;omega)
     have HFW:=zqH (show ¬F w1.heap.size/\¬w1.heap.size=bs from⟨fun hf=>by have:=HF.out _ hf;omega,by omega⟩)
     have HYL:=zqH hyl
     clear hcell hsf3 hr3 u13 u3 b3 hbl hW3 hy hyi l1 z1 hr1 hsf1 hu1 hb0 hb1 hcl
     go_region_held (fun w'=>w'.cell? ⟨w1.heap.size,0,none⟩=some (.slice R m d)/\w'.cell? ⟨w1.heap.size,1,none⟩=some (.int .u64 (y:Int))) (go_keep) (first
      | (go_at_call 78
         refine(keyH p HP.out).mono ?_
         rintro e W4 ⟨A,ck,rfl,hk,hn4,hat⟩
         have n4:New W3 W4:=(Upd.refl _ W3).drew.trans hn4
         obtain⟨d0,d1⟩:=HCE.out _ _ n4 id
         have H4:=zqH (And.intro hk (And.intro n4 (fun(a:Addr) (ha:A=some a)=>(by have h1:=hat a ha;have h2:=HBS.out;have h3:W3.drew.heap.size=W3.heap.size:=rfl;omega:a.block≠bs))))
         clear hk hn4 hat n4)
      | (go_at_call 79
         refine(puthist_c ((H3.out.2.1.lq).new H4.out.2.1) HFIT.out.1 HYL.out).mono ?_
         rintro e W5 ⟨A2,n2,c2,rfl,hv,hn5,hat5⟩
         have n5:New W3 W5:=H4.out.2.1.trans hn5
         obtain⟨e0,e1⟩:=HCE.out _ _ n5 id
         have H5:=zqH (And.intro hv (And.intro n5 (And.intro (H4.out.1.new hn5) (fun(a:Addr) (ha:A2=some a)=>(by have h1:=hat5 a ha;have h2:=HBS.out;have h3:=H4.out.2.1.size;omega:a.block≠bs)))))
         clear hv hn5 hat5 n5)
      | (go_at_call 77
         have hset:=HSET.out W5 A ck A2 n2 c2 y (H3.out.1.new H5.out.2.1) H5.out.2.2.1 H4.out.2.2 H5.out.1 H5.out.2.2.2
         refine hset.mono ?_
         rintro e W6 ⟨⟨_,rfl⟩,F',hsf6,st6⟩
         have u6:Upd (fun b=>F b\/b=bs) W3 W6:=(H5.out.2.1.mono (fun _ _ h=>h.elim)).trans st6.upd
         obtain⟨f0,f1⟩:=HCE.out _ _ u6 (fun h=>h.elim HFW.out.1 HFW.out.2)
         have H6:=zqH (And.intro hsf6 st6)
         clear hset hsf6 st6 u6))
     all_goals go_wp2
     all_goals go_end0
     obtain⟨hsf6,st6⟩:=H6.out
     refine⟨rfl,F',by rw[HLL.out];exact hsf6,?_⟩
     have s1:Step F F bs w W5:=⟨fun b hb=>.inl hb,(H3.out.2.2.mono (fun b _ e=>.inr e)).trans (H5.out.2.1.mono (fun _ _ h=>h.elim))⟩
     exact s1.trans st6
structure Val where
 r:Nat
 t:Nat
 A2:Option Addr
 n2:Nat
 c2:Nat
 j:Bool
 u:Nat
 b:Bool
 p:Nat
 A7:Option Addr
 n7:Nat
 c7:Nat
 A8:Option Addr
 n8:Nat
 c8:Nat
 A9:Option Addr
 n9:Nat
 c9:Nat
def Val.v (V:Val):Value:=.agg #[.int .u64 (V.r:Int),.int .u64 (V.t:Int),.slice V.A2 V.n2 V.c2,.bool V.j,.int .u64 (V.u:Int),.bool V.b,.int .u64 (V.p:Int),.slice V.A7 V.n7 V.c7,.slice V.A8 V.n8 V.c8,.slice V.A9 V.n9 V.c9]
theorem Step.block {F F':Nat->Prop} {bs:Nat} {w w':World} (s:Step F F' bs w w') {b:Nat} (hb:b<w.heap.size) (h1:¬F b) (h2:b≠bs):w'.heap[b]?=w.heap[b]?:=s.upd.block b hb (fun h=>h.elim h1 h2)
theorem SF.off_new {F:Nat->Prop} {bs:Nat} {w:World} {L:List Ent} (h:SF F bs w L) {b:Nat} (hb:w.heap.size<=b):¬F b/\b≠bs:=⟨fun hf=>by have:=(h.lt hf).1;omega,fun e=>by have:=h.bs_lt;omega⟩
theorem Step.off {F F' T:Nat->Prop} {bs:Nat} {w w1 w2:World} (s:Step F F' bs w w1) (hu:Upd T w1 w2) (hT:∀b,T b->w.heap.size<=b):Step F F' bs w w2:=⟨s.sub,s.upd.then hu (fun b hb h=>by have:=hT b h;omega)⟩
def StartR (F:Nat->Prop) (bs:Nat) (w:World) (L:List Ent) (v:Value) (e:Ending) (w':World):Prop:=e=.returned v/\∃F',SF F' bs w' L/\Step F F' bs w w'
theorem start_c {F:Nat->Prop} {bs:Nat} {w:World} {S:F1.Sta} (V:Val) (hS:Okay S) (h:SF F bs w (F1.ents S)) (hc1:(F1.hist S 0).2+1<18446744073709551616):
 Calls Tryz.prog 13 #[.pointer (some ⟨bs,0,none⟩),.int .u64 16,V.v] w (StartR F bs w (F1.ents (F1.refer S 0)) ({ V with p:=1,A7:=none,n7:=0,c7:=0 }:Val).v):=by
 obtain⟨r,t,A2,n2,c2,j,u,b,p,A7,n7,c7,A8,n8,c8,A9,n9,c9⟩:=V
 unfold Val.v
 simp only
 rw[show((1:Nat):Int)=1 from rfl]
 obtain⟨W1,hW1⟩:∃W1,W1=w.alloc (.cells #[.int .u64 (r:Int),.int .u64 (t:Int),.slice A2 n2 c2,.bool j,.int .u64 (u:Int),.bool b,.int .u64 (p:Int),.slice A7 n7 c7,.slice A8 n8 c8,.slice A9 n9 c9] 28):=⟨_,rfl⟩
 obtain⟨W2,hW2⟩:∃W2,W2=W1.alloc (.cells #[.int .u64 0,.int .u64 0,.slice none 0 0,.bool false,.int .u64 0,.bool false,.int .u64 0,.slice none 0 0,.slice none 0 0,.slice none 0 0] 28):=⟨_,rfl⟩
 have s1:W1.heap.size=w.heap.size+1:=by rw[hW1];exact zad _ _
 have s2:W2.heap.size=w.heap.size+1+1:=by rw[hW2,zad,s1]
 have n1:New w W1:=by rw[hW1];exact Upd.alloc _ _ _
 have n2':New W1 W2:=by rw[hW2];exact Upd.alloc _ _ _
 have b5:=Ex.alloc_new w (.cells #[.int .u64 (r:Int),.int .u64 (t:Int),.slice A2 n2 c2,.bool j,.int .u64 (u:Int),.bool b,.int .u64 (p:Int),.slice A7 n7 c7,.slice A8 n8 c8,.slice A9 n9 c9] 28)
 rw[<-hW1]at b5
 replace b5:=(n2'.block w.heap.size (by omega) id).trans b5
 have b6:=Ex.alloc_new W1 (.cells #[.int .u64 0,.int .u64 0,.slice none 0 0,.bool false,.int .u64 0,.bool false,.int .u64 0,.slice none 0 0,.slice none 0 0,.slice none 0 0] 28)
 rw[<-hW2,s1]at b6
 have hn:=n1.trans n2'
 have hsf:=h.new hn
 have hbs:=h.bs_lt
 have hrf:=refer_c hS (by decide:(0:Nat)<18446744073709551616) hsf hc1
 obtain⟨L,hL⟩:∃L,L=F1.ents (F1.refer S 0):=⟨_,rfl⟩
 rw[<-hL]at hrf ⊢
 have HR:=zqH hrf;have HB:=zqH (And.intro b5 b6);have HN:=zqH hn;have S2:=zqH s2
 have HOF:=zqH (And.intro (h.off_new (Nat.le_refl _)) (h.off_new (Nat.le_succ _)))
 clear hrf b5 b6 n1 n2' hn s1 s2 hsf hL hS h hc1
 go_enter Tryz.func13,Tryz.ntmps13
 go_upto_region 1 with fail
 rw[<-hW1,<-hW2]
 clear hW1 hW2
 go_upto_region 2 with(go_at_call 47;refine HR.out.mono ?_;rintro e w3 ⟨rfl,F',hsf3,st3⟩;have H3:=zqH (And.intro hsf3 st3);clear HR hsf3 st3)
 have c5:=(H3.out.2.block (b:=w.heap.size) (by have:=S2.out;omega) HOF.out.1.1 HOF.out.1.2).trans HB.out.1
 have c6:=(H3.out.2.block (b:=w.heap.size+1) (by have:=S2.out;omega) HOF.out.2.1 HOF.out.2.2).trans HB.out.2
 have C6:=zqH c6
 have x6:=zaa c5 6 _ rfl
 have z6:=zac c5 6
 have d5:=zab c5 (.int .u64 1) (i:=6)
 simp only[List.setIfInBounds_toArray,List.set_cons_succ,List.set_cons_zero]at d5
 have x7:=zaa d5 7 _ rfl
 have z7:=zac d5 7
 have f5:=zab d5 (.slice none 0 0) (i:=7)
 simp only[List.setIfInBounds_toArray,List.set_cons_succ,List.set_cons_zero]at f5
 have F5:=zqH f5
 clear c5 c6 d5 f5
 go_upto_region 3 with fail
 obtain⟨W4,hW4⟩:∃W4,W4=(w3.setCell ⟨w.heap.size,6,none⟩ (.int .u64 1)).setCell ⟨w.heap.size,7,none⟩ (.slice none 0 0):=⟨_,rfl⟩
 have f5:=F5.out
 rw[<-hW4]at f5 ⊢
 have hu4:Upd (fun b=>b=w.heap.size) w3 W4:=by rw[hW4];exact(Upd.setCell (S:=fun b=>b=w.heap.size) w3 _ rfl).trans (Upd.setCell _ _ rfl)
 have c6:=(hu4.block (w.heap.size+1) (by have:=H3.out.2.upd.size;have:=S2.out;omega) (by omega)).trans C6.out
 obtain⟨l0,l1,l2,l3,l4,l5,l6,l7,l8,l9⟩:=zqC f5
 obtain⟨g0,y0,g1,y1,g2,y2,g3,y3,g4,y4,g5,y5,g6,y6,g7,y7,g8,y8,g9,y9,hh,hset⟩:=put10 c6 (.int .u64 (r:Int)) (.int .u64 (t:Int)) (.slice A2 n2 c2) (.bool j) (.int .u64 (u:Int)) (.bool b) (.int .u64 1) (.slice none 0 0) (.slice A8 n8 c8) (.slice A9 n9 c9)
 have HH:=zqH (And.intro hh (And.intro hset hu4))
 obtain⟨q0,q1,q2,q3,q4,q5,q6,q7,q8,q9⟩:=zqC hh
 have QQ:=zqH (And.intro q0 (And.intro q1 (And.intro q2 (And.intro q3 (And.intro q4 (And.intro q5 (And.intro q6 (And.intro q7 (And.intro q8 q9)))))))))
 clear q0 q1 q2 q3 q4 q5 q6 q7 q8 q9 hh hset hu4 f5 c6 hW4 x6 z6 x7 z7
 go_wp2
 obtain⟨q0,q1,q2,q3,q4,q5,q6,q7,q8,q9⟩:=QQ.out
 refine bodyPost_ret (by simp[results,Tryz.results13,go_sem,q0,q1,q2,q3,q4,q5,q6,q7,q8,q9];try rfl) rfl ?_
 obtain⟨hh,hset,hu4⟩:=HH.out
 obtain⟨hsf3,st3⟩:=H3.out
 have hw3:=st3.upd.size
 have hs2:=S2.out
 refine⟨rfl,F',?_,?_⟩
 · have hFo:∀x,w.heap.size<=x->x<w.heap.size+2->¬F' x:=fun x h1 h2 hf=>by
    rcases st3.sub x hf with h|h
    · rcases(show x=w.heap.size\/x=w.heap.size+1 by omega) with rfl|rfl
      · exact HOF.out.1.1 h
      · exact HOF.out.2.1 h
    · omega
   exact(hsf3.upd_off hu4 (fun x hx e=>by have e:x=w.heap.size:=e;exact hFo x (by omega) (by omega) hx) (fun e=>by omega)).upd_off hset (fun x hx e=>by have e:x=w.heap.size+1:=e;exact hFo x (by omega) (by omega) hx) (fun e=>by omega)
 · have sA:Step F F' bs w w3:=(Step.of_new HN.out).trans st3
   exact(sA.off hu4 (fun x e=>by have e:x=w.heap.size:=e;omega)).off hset (fun x e=>by have e:x=w.heap.size+1:=e;omega)
abbrev Blk:=Nat × Nat × Array Value
def PO (F:Nat->Prop) (bs:Nat) (own:List Blk):Nat->Prop:=fun b=>(¬F b/\b≠bs)/\∀x ∈ own,b≠x.1
structure LG (w:World) (F0 F:Nat->Prop) (bs:Nat) (L:List Ent) (own:List Blk) (W:World):Prop where
 sf:SF F bs W L
 st:Step F0 F bs w W
 blk:∀x ∈ own,W.heap[x.1]?=some (.cells x.2.2 x.2.1 (0,0))
 off:∀x ∈ own,¬F x.1/\x.1≠bs/\w.heap.size<=x.1
 nd:(own.map (·.1)).Pairwise (· ≠ ·)
end Go.Proofs.YtbhnjkegkadodaaGreatDoor
namespace Go.Proofs.YtbhnjkegkadodaaGreatDoor
open Go Go.RowKit Go.Proofs Gl
section
variable {w W W':World} {F0 F F':Nat->Prop} {bs n c x b t i j:Nat} {L L':List Ent} {own:List Blk} {cs cs':Array Value} {A:Option Addr} {v:Value}
theorem LG.begin (h:SF F bs w L):LG w F F bs L [] w:=⟨h,Step.refl _ _ _,fun x hx=>(by cases hx),fun x hx=>(by cases hx),List.Pairwise.nil⟩
theorem LG.lt (h:LG w F0 F bs L own W) {x:Blk} (hx:x ∈ own):x.1<W.heap.size:=(zqA.1 (h.blk x hx)).1
theorem LG.step (h:LG w F0 F bs L own W) (st:Step F F' bs W W') (hs:SF F' bs W' L'):LG w F0 F' bs L' own W':=
 ⟨hs,h.st.trans st,fun x hx=>(st.block (h.lt hx) (h.off x hx).1 (h.off x hx).2.1).trans (h.blk x hx),fun x hx=>⟨fun hf=>(st.sub _ hf).elim (h.off x hx).1 (fun hh=>by have:=h.lt hx;omega),(h.off x hx).2⟩,h.nd⟩
theorem LG.nw (h:LG w F0 F bs L own W) (hu:New W W'):LG w F0 F bs L own W':=h.step (Step.of_new hu) (h.sf.new hu)
theorem LG.bsd (h:LG w F0 F bs L own W) (hu:Upd (fun b=>b=bs) W W') (hs:SF F bs W' L):LG w F0 F bs L own W':=h.step ⟨fun b hb=>.inl hb,hu.mono (fun _ _ e=>.inr e)⟩ hs
theorem LG.alloc (h:LG w F0 F bs L own W) (cs:Array Value) (t:Nat):LG w F0 F bs L ((W.heap.size,t,cs) :: own) (W.alloc (.cells cs t)):=by
 have hn:New W (W.alloc (.cells cs t)):=Upd.alloc _ _ _
 have h2:=h.nw hn
 refine⟨h2.sf,h2.st,fun x hx=>?_,fun x hx=>?_,?_⟩
 · rcases List.mem_cons.1 hx with rfl|hx
   · exact Ex.alloc_new W _
   · exact h2.blk x hx
 · rcases List.mem_cons.1 hx with rfl|hx
   · have:=h.sf.off_new (Nat.le_refl W.heap.size);exact⟨this.1,this.2,h.st.upd.size⟩
   · exact h2.off x hx
 · rw[List.map_cons,List.pairwise_cons]
   refine⟨fun y hy e=>?_,h.nd⟩
   obtain⟨x,hx,rfl⟩:=List.mem_map.1 hy
   have:=h.lt hx
   have e:W.heap.size=x.1:=e
   omega
theorem pair_ne {own:List Blk} (h:(own.map (·.1)).Pairwise (· ≠ ·)) {i j:Nat} {x y:Blk} (hi:own[i]?=some x) (hj:own[j]?=some y) (hne:i≠j):x.1≠y.1:=by
 have hi':(own.map (·.1))[i]?=some x.1:=by rw[List.getElem?_map,hi];rfl
 have hj':(own.map (·.1))[j]?=some y.1:=by rw[List.getElem?_map,hj];rfl
 obtain⟨h1,e1⟩:=List.getElem?_eq_some_iff.1 hi'
 obtain⟨h2,e2⟩:=List.getElem?_eq_some_iff.1 hj'
 rw[<-e1,<-e2]
 rcases Nat.lt_or_gt_of_ne hne with hh|hh
 · exact List.pairwise_iff_getElem.1 h i j h1 h2 hh
 · exact Ne.symm (List.pairwise_iff_getElem.1 h j i h2 h1 hh)
theorem LG.set (h:LG w F0 F bs L own W) (hi:own[i]?=some (b,t,cs)) (hu:Upd (fun c=>c=b) W W') (hk:W'.heap[b]?=some (.cells cs' t (0,0))):LG w F0 F bs L (own.set i (b,t,cs')) W':=by
 have hm:(b,t,cs) ∈ own:=List.mem_of_getElem? hi
 have ho:=h.off _ hm
 have key:∀x ∈ own.set i (b,t,cs'),x=(b,t,cs')\/(x ∈ own/\x.1≠b):=fun x hx=>by
  obtain⟨j,hj⟩:=List.getElem?_of_mem hx
  by_cases e:i=j
  · subst e
    have hlt:i<own.length:=(List.getElem?_eq_some_iff.1 hi).1
    rw[List.getElem?_set_self hlt]at hj;cases hj;exact .inl rfl
  · rw[List.getElem?_set_ne e]at hj
    exact .inr ⟨List.mem_of_getElem? hj,fun e2=>pair_ne h.nd hi hj e e2.symm⟩
 refine⟨h.sf.upd_off hu (fun c hc e=>ho.1 ((show c=b from e)▸hc)) (fun e=>ho.2.1 e.symm),h.st.off hu (fun c hc=>(show c=b from hc)▸ho.2.2),fun x hx=>?_,fun x hx=>?_,?_⟩
 · rcases key x hx with rfl|⟨hx,hne⟩
   · exact hk
   · exact(hu.block _ (h.lt hx) hne).trans (h.blk x hx)
 · rcases key x hx with rfl|⟨hx,_⟩
   · exact ho
   · exact h.off x hx
 · have e:(own.set i (b,t,cs')).map (·.1)=own.map (·.1):=by
    rw[List.map_set]
    refine List.ext_getElem? fun j=>?_
    by_cases e:i=j
    · subst e
      have hlt:i<(own.map (·.1)).length:=by rw[List.length_map];exact(List.getElem?_eq_some_iff.1 hi).1
      rw[List.getElem?_set_self hlt,List.getElem?_map,hi];rfl
    · rw[List.getElem?_set_ne e]
   rw[e];exact h.nd
theorem LG.k (h:LG w F0 F bs L own W) (hi:own[i]?=some (b,t,cs)):W.heap[b]?=some (.cells cs t (0,0)):=h.blk _ (List.mem_of_getElem? hi)
theorem LG.new (h:LG w F0 F bs L own W) {w0:World} (h0:New w0 w) (hF:∀b,F0 b->w0.heap.size<=b) (hb:w0.heap.size<=bs):New w0 W:=h0.then h.st.upd (fun b hb2 hh=>hh.elim (fun hf=>by have:=hF b hf;omega) (fun e=>by omega))
theorem LG.gF (h:LG w F0 F bs L own W) {w0:World} (h0:New w0 w) (hF:∀b,F0 b->w0.heap.size<=b):∀b,F b->w0.heap.size<=b:=fun b hb=>(h.st.sub b hb).elim (hF b) (fun hh=>Nat.le_trans h0.size hh)
theorem LN.po_step (hl:LN (PO F bs own) W A n c x) (st:Step F F' bs W W'):LN (PO F' bs own) W' A n c x:=
 ((hl.mono (Q':=fun b=>PO F bs own b/\b<W.heap.size) (fun b hb hq=>⟨hq,hb⟩)).upd st.upd (fun b hq h=>h.elim hq.1.1.1 hq.1.1.2)).mono (fun b _ hq=>⟨⟨fun hf=>(st.sub b hf).elim hq.1.1.1 (fun h=>by omega),hq.1.1.2⟩,hq.1.2⟩)
theorem LN.po_new (hl:LN (PO F bs own) W A n c x) (hu:New W W'):LN (PO F bs own) W' A n c x:=hl.po_step (Step.of_new hu)
theorem LN.po_bs (hl:LN (PO F bs own) W A n c x) (hu:Upd (fun b=>b=bs) W W'):LN (PO F bs own) W' A n c x:=hl.upd hu (fun b hq e=>hq.1.2 e)
theorem LN.po_alloc (hl:LN (PO F bs own) W A n c x) (cs:Array Value) (t:Nat):LN (PO F bs ((W.heap.size,t,cs) :: own)) (W.alloc (.cells cs t)) A n c x:=
 ((hl.mono (Q':=fun b=>PO F bs own b/\b<W.heap.size) (fun b hb hq=>⟨hq,hb⟩)).new (Upd.alloc _ _ _)).mono (fun b _ hq=>⟨hq.1.1,fun y hy e=>by
   rcases List.mem_cons.1 hy with rfl|hy
   · have e:b=W.heap.size:=e;omega
   · exact hq.1.2 y hy e⟩)
theorem LN.po_set (hl:LN (PO F bs own) W A n c x) (hi:own[i]?=some (b,t,cs)) (hu:Upd (fun c=>c=b) W W'):LN (PO F bs (own.set i (b,t,cs'))) W' A n c x:=
 (hl.upd hu (fun y hq e=>hq.2 _ (List.mem_of_getElem? hi) e)).mono (fun y _ hq=>⟨hq.1,fun z hz=>by
   obtain⟨j,hj⟩:=List.getElem?_of_mem hz
   by_cases e:i=j
   · subst e
     have hlt:i<own.length:=(List.getElem?_eq_some_iff.1 hi).1
     rw[List.getElem?_set_self hlt]at hj;cases hj;exact(show y≠b from hq.2 (b,t,cs) (List.mem_of_getElem? hi))
   · rw[List.getElem?_set_ne e]at hj
     exact hq.2 _ (List.mem_of_getElem? hj)⟩)
theorem LN.po_of (hl:LN (NB W) W' A n c x) (h:LG w F0 F bs L own W):LN (PO F bs own) W' A n c x:=hl.mono (fun b _ hb=>by
 have hb:W.heap.size<=b:=hb
 exact⟨h.sf.off_new hb,fun y hy e=>by have:=h.lt hy;omega⟩)
theorem LN.po_off (hl:LN (PO F bs own) W A n c x):LN (fun b=>b≠bs) W A n c x:=hl.mono (fun b _ hb=>hb.1.2)
end
end Go.Proofs.YtbhnjkegkadodaaGreatDoor
namespace Go.Proofs.YtbhnjkegkadodaaGreatDoor
open Go Go.RowKit Go.Proofs Gl
def Gs (w:World) (Ag:Option Addr) (gs:List Nat):Prop:=∀j g,gs[j]?=some g->∃b off A n c,Ag=some ⟨b,off,none⟩/\w.cell? ⟨b,off+j,none⟩=some (.slice A n c)/\n<=4/\LQ (fun x=>x<w.heap.size) w A n c g
def delV (A1:Option Addr) (n1 c1 p:Nat) (A2:Option Addr) (n2 c2:Nat):Value:=.agg #[.slice A1 n1 c1,.int .u64 (p:Int),.slice A2 n2 c2]
def HoldR (F:Nat->Prop) (bs:Nat) (w:World) (L:List Ent) (A1:Option Addr) (n1 c1 p x:Nat) (e:Ending) (w':World):Prop:=∃R m d,e=.returned (delV A1 n1 c1 p R m d)/\∃F',SF F' bs w' L/\Step F F' bs w w'/\LN (fun b=>Off F' bs b/\w.heap.size<=b) w' R m d x
theorem hold_puts {W3 w4:World} {b6 b7 p t q r u dp nd cd n2 c2 m d n7 c7 n8 c8 n9 c9 ns cs:Nat} {j b:Bool} {A2 A7 A8 A9 Ad As R:Option Addr} (hn:New W3 w4) (h6:W3.heap[b6]?=some (.cells #[.int .u64 (r:Int),.int .u64 (t:Int),.slice A2 n2 c2,.bool j,.int .u64 (u:Int),.bool b,.int .u64 (p:Int),.slice A7 n7 c7,.slice A8 n8 c8,.slice A9 n9 c9] 28 (0,0))) (h7:W3.heap[b7]?=some (.cells #[.slice Ad nd cd,.int .u64 (dp:Int),.slice As ns cs] 55 (0,0))) (hne:b6≠b7):
 w4.cell? ⟨b7,1,none⟩=some (.int .u64 (dp:Int))/\w4.frozen? ⟨b7,1,none⟩=false/\(w4.setCell ⟨b7,1,none⟩ (.int .u64 (q:Int))).cell? ⟨b7,2,none⟩=some (.slice As ns cs)/\(w4.setCell ⟨b7,1,none⟩ (.int .u64 (q:Int))).frozen? ⟨b7,2,none⟩=false /\
 ((w4.setCell ⟨b7,1,none⟩ (.int .u64 (q:Int))).cell? ⟨b6,6,none⟩=some (.int .u64 (p:Int))/\(w4.setCell ⟨b7,1,none⟩ (.int .u64 (q:Int))).cell? ⟨b6,1,none⟩=some (.int .u64 (t:Int))/\(w4.setCell ⟨b7,1,none⟩ (.int .u64 (q:Int))).cell? ⟨b6,2,none⟩=some (.slice A2 n2 c2)/\(w4.setCell ⟨b7,1,none⟩ (.int .u64 (q:Int))).cell? ⟨b7,0,none⟩=some (.slice Ad nd cd)) /\
 (((w4.setCell ⟨b7,1,none⟩ (.int .u64 (q:Int))).setCell ⟨b7,2,none⟩ (.slice R m d)).cell? ⟨b6,6,none⟩=some (.int .u64 (p:Int))/\((w4.setCell ⟨b7,1,none⟩ (.int .u64 (q:Int))).setCell ⟨b7,2,none⟩ (.slice R m d)).cell? ⟨b6,1,none⟩=some (.int .u64 (t:Int))/\((w4.setCell ⟨b7,1,none⟩ (.int .u64 (q:Int))).setCell ⟨b7,2,none⟩ (.slice R m d)).cell? ⟨b6,2,none⟩=some (.slice A2 n2 c2)/\((w4.setCell ⟨b7,1,none⟩ (.int .u64 (q:Int))).setCell ⟨b7,2,none⟩ (.slice R m d)).cell? ⟨b7,0,none⟩=some (.slice Ad nd cd)) /\
 (((w4.setCell ⟨b7,1,none⟩ (.int .u64 (q:Int))).setCell ⟨b7,2,none⟩ (.slice R m d)).heap[b7]?=some (.cells #[.slice Ad nd cd,.int .u64 (q:Int),.slice R m d] 55 (0,0))/\Upd (fun x=>x=b7) w4 ((w4.setCell ⟨b7,1,none⟩ (.int .u64 (q:Int))).setCell ⟨b7,2,none⟩ (.slice R m d))):=by
 have k6:=(hn.block b6 (zqA.1 h6).1 id).trans h6
 have k7:=(hn.block b7 (zqA.1 h7).1 id).trans h7
 have s7:=zab k7 (.int .u64 (q:Int)) (i:=1)
 simp only[List.setIfInBounds_toArray,List.set_cons_succ,List.set_cons_zero]at s7
 have s8:=zab s7 (.slice R m d) (i:=2)
 simp only[List.setIfInBounds_toArray,List.set_cons_succ,List.set_cons_zero]at s8
 have a6:=(zba (i:=1) (w:=w4) (.int .u64 (q:Int)) hne).trans k6
 have a7:=(zba (i:=2) (w:=w4.setCell ⟨b7,1,none⟩ (.int .u64 (q:Int))) (.slice R m d) hne).trans a6
 exact⟨zaa k7 1 _ rfl,zac k7 1,zaa s7 2 _ rfl,zac s7 2,⟨zaa a6 6 _ rfl,zaa a6 1 _ rfl,zaa a6 2 _ rfl,zaa s7 0 _ rfl⟩,⟨zaa a7 6 _ rfl,zaa a7 1 _ rfl,zaa a7 2 _ rfl,zaa s8 0 _ rfl⟩,s8,(Upd.setCell (S:=fun x=>x=b7) w4 _ rfl).trans (Upd.setCell _ _ rfl)⟩
theorem hold_c {Q Q' F:Nat->Prop} {bs y x dp:Nat} {Ad As:Option Addr} {nd cd ns cs:Nat} {w:World} {S:F1.Sta} (V:Val) (hS:Okay S) (h:SF F bs w (F1.ents S)) (hy:LQ Q w V.A2 V.n2 V.c2 y) (hx:LQ Q' w Ad nd cd x) (hy0:0<y) (ht:V.t<18446744073709551616) (hb:x*(V.t*10 ^ 36)<Gn.B ^ 1000) (hp0:0<V.p) (hp:V.p<18446744073709551616) (hc1:(F1.hist S (V.p-1)).2+1<18446744073709551616):
 Calls Tryz.prog 25 #[.pointer (some ⟨bs,0,none⟩),.int .u64 16,V.v,delV Ad nd cd dp As ns cs] w (HoldR F bs w (F1.ents (F1.refer S (V.p-1))) Ad nd cd (V.p-1) (x*(V.t*10 ^ 36) / y)):=by
 obtain⟨r,t,A2,n2,c2,j,u,b,p,A7,n7,c7,A8,n8,c8,A9,n9,c9⟩:=V
 simp only at hy ht hb hp0 hp hc1
 unfold Val.v delV
 simp only
 obtain⟨W1,hW1⟩:∃W1,W1=w.alloc (.cells #[.int .u64 (r:Int),.int .u64 (t:Int),.slice A2 n2 c2,.bool j,.int .u64 (u:Int),.bool b,.int .u64 (p:Int),.slice A7 n7 c7,.slice A8 n8 c8,.slice A9 n9 c9] 28):=⟨_,rfl⟩
 obtain⟨W2,hW2⟩:∃W2,W2=W1.alloc (.cells #[.slice Ad nd cd,.int .u64 (dp:Int),.slice As ns cs] 55):=⟨_,rfl⟩
 obtain⟨W3,hW3⟩:∃W3,W3=W2.alloc (.cells #[.slice none 0 0,.int .u64 0,.slice none 0 0] 55):=⟨_,rfl⟩
 obtain⟨hn,hs,b6,b7,b8⟩:=alloc3' hW1 hW2 hW3
 have hsf:=h.new hn
 have hwr:=fun W' (hx':New W3 W')=>worth_c (hy.new (hn.trans hx')) (hx.new (hn.trans hx')) hy0 ht hb
 obtain⟨X,hX⟩:∃X,X=x*(t*10 ^ 36) / y:=⟨_,rfl⟩
 rw[<-hX]at hwr ⊢
 obtain⟨q,hq⟩:∃q,q=p-1:=⟨_,rfl⟩
 have hpq:p-1=q:=hq.symm
 simp only[hpq]at hc1 ⊢
 have HQ:=zqH hq
 clear hpq
 have hrf:=fun W' (hsf':SF F bs W' (F1.ents S))=>refer_c hS (by omega:q<18446744073709551616) hsf' hc1
 obtain⟨L,hL⟩:∃L,L=F1.ents (F1.refer S q):=⟨_,rfl⟩
 rw[<-hL]at hrf ⊢
 have hwq:IntKind.u64.wrap ((p:Int)-1)=(q:Int):=by rw[IntKind.wrap_u64];omega
 clear hq
 have HR:=zqH hrf;have HW:=zqH hwr;have HB:=zqH (And.intro b6 (And.intro b7 b8));have HN:=zqH hn;have S3:=zqH hs;have HSF:=zqH hsf
 have HOF:=zqH (fun b (hb:w.heap.size<=b)=>h.off_new hb)
 have l6:=zaa b6 6 _ rfl;have l1:=zaa b6 1 _ rfl;have l2:=zaa b6 2 _ rfl;have m0:=zaa b7 0 _ rfl
 have m1:=zaa b7 1 _ rfl
 have z1:=zac b7 1
 have hbl:w.heap.size<W3.heap.size/\w.heap.size+1<W3.heap.size:=⟨by omega,by omega⟩
 have HK:=zqH (fun W' (hx':New W3 W')=>(⟨(hx'.cell (a:=⟨w.heap.size,6,none⟩) hbl.1 id).trans l6,(hx'.cell (a:=⟨w.heap.size,1,none⟩) hbl.1 id).trans l1,(hx'.cell (a:=⟨w.heap.size,2,none⟩) hbl.1 id).trans l2,(hx'.cell (a:=⟨w.heap.size+1,0,none⟩) hbl.2 id).trans m0⟩:W'.cell? ⟨w.heap.size,6,none⟩=some (.int .u64 (p:Int))/\W'.cell? ⟨w.heap.size,1,none⟩=some (.int .u64 (t:Int))/\W'.cell? ⟨w.heap.size,2,none⟩=some (.slice A2 n2 c2)/\W'.cell? ⟨w.heap.size+1,0,none⟩=some (.slice Ad nd cd)))
 clear hrf hwr b6 b7 b8 hn hs hsf hX hL hS h hc1 hy hx hb hbl
 go_enter Tryz.func25,Tryz.ntmps25
 go_upto_region 1 with fail
 rw[<-hW1,<-hW2,<-hW3]
 clear hW1 hW2 hW3
 go_region_held (fun w'=>w'.cell? ⟨w.heap.size,6,none⟩=some (.int .u64 (p:Int))/\w'.cell? ⟨w.heap.size,1,none⟩=some (.int .u64 (t:Int))/\w'.cell? ⟨w.heap.size,2,none⟩=some (.slice A2 n2 c2)/\w'.cell? ⟨w.heap.size+1,0,none⟩=some (.slice Ad nd cd)) (go_keep) (first
  | (go_at_call 75
     refine(HW.out _ ((Upd.refl _ W3).drewN _)).mono ?_
     rintro e w4 ⟨R,m,d,rfl,hr4,hn4⟩
     have n4:New W3 w4:=((Upd.refl _ W3).drewN _).trans hn4
     obtain⟨e1,e2,e3,e4⟩:=HK.out _ n4
     obtain⟨x1,y1,x2,y2,⟨f1,f2,f3,f4⟩,⟨g1,g2,g3,g4⟩,hh7⟩:=hold_puts (q:=q) (R:=R) (m:=m) (d:=d) n4 HB.out.1 HB.out.2.1 (by omega)
     have E4:=zqH (And.intro hr4 (And.intro n4 hh7))
     clear hr4 hn4 n4 hh7))
 obtain⟨hr4,n4,hh7,hu5⟩:=E4.out
 obtain⟨W5,hW5⟩:∃W5,W5=(w4.setCell ⟨w.heap.size+1,1,none⟩ (.int .u64 (q:Int))).setCell ⟨w.heap.size+1,2,none⟩ (.slice R m d):=⟨_,rfl⟩
 rw[<-hW5]at hh7 hu5 ⊢
 clear hW5 e1 e2 e3 e4 x1 y1 x2 y2 f1 f2 f3 f4 g1 g2 g3 g4 l6 l1 l2 m0 m1 z1
 have hs3:=S3.out
 have hs4:=n4.size
 have hs5:=hu5.size
 have o7:=HOF.out (w.heap.size+1) (by omega)
 have o8:=HOF.out (w.heap.size+1+1) (by omega)
 have hsf5:SF F bs W5 (F1.ents S):=(HSF.out.new n4).upd_off hu5 (fun x hx e=>by have e:x=w.heap.size+1:=e;exact o7.1 (e▸hx)) (fun e=>o7.2 e.symm)
 have u5:New w W5:=(HN.out.trans n4).then hu5 (fun x hx e=>by have e:x=w.heap.size+1:=e;omega)
 have hr5:LN (fun x=>W3.heap.size<=x) W5 R m d X:=hr4.upd hu5 (fun x hx e=>by have e:x=w.heap.size+1:=e;have hx:W3.heap.size<=x:=hx;omega)
 have k8:=(hu5.block (w.heap.size+1+1) (by omega) (by omega)).trans ((n4.block _ (by omega) id).trans HB.out.2.2)
 have hrf:=HR.out W5 hsf5
 have c1:=zaa hh7 1 _ rfl
 have H7:=zqH (And.intro hh7 k8);have H5:=zqH (And.intro u5 (And.intro hr5 hsf5))
 clear hh7 k8 u5 hr5 hsf5 hu5 hr4 n4
 go_upto_region 3 with(go_at_call 47;refine hrf.mono ?_;rintro e w6 ⟨rfl,F',hsf6,st6⟩;have H6:=zqH (And.intro hsf6 st6);clear hrf hsf6 st6)
 have k7:=(H6.out.2.block (b:=w.heap.size+1) (by omega) o7.1 o7.2).trans H7.out.1
 have k8:=(H6.out.2.block (b:=w.heap.size+1+1) (by omega) o8.1 o8.2).trans H7.out.2
 have l0:=zaa k7 0 _ rfl;have l1:=zaa k7 1 _ rfl;have l2:=zaa k7 2 _ rfl
 obtain⟨g0,y0,g1,y1,g2,y2,hh,hset⟩:=put3 k8 (.slice Ad nd cd) (.int .u64 (q:Int)) (.slice R m d)
 have HH:=zqH (And.intro hh hset)
 have q0:=zaa hh 0 _ rfl;have q1:=zaa hh 1 _ rfl;have q2:=zaa hh 2 _ rfl
 have QQ:=zqH (And.intro q0 (And.intro q1 q2))
 clear q0 q1 q2 hh hset k7 k8
 go_wp2
 obtain⟨q0,q1,q2⟩:=QQ.out
 refine bodyPost_ret (by simp[results,Tryz.results25,go_sem,q0,q1,q2];try rfl) rfl ?_
 obtain⟨hh,hset⟩:=HH.out
 obtain⟨hsf6,st6⟩:=H6.out
 obtain⟨u5,hr5,hsf5⟩:=H5.out
 have hw6:=st6.upd.size
 have o8':¬F' (w.heap.size+1+1):=fun hf=>(st6.sub _ hf).elim o8.1 (fun h=>by omega)
 refine⟨R,m,d,rfl,F',hsf6.upd_off hset (fun x hx e=>by have e:x=w.heap.size+1+1:=e;exact o8' (e▸hx)) (fun e=>o8.2 e.symm),((Step.of_new u5).trans st6).off hset (fun x e=>by have e:x=w.heap.size+1+1:=e;omega),?_⟩
 have hq6:LN (fun x=>(Off F' bs x)/\W3.heap.size<=x) w6 R m d X:=by
  have h1:LN (Off F bs) W5 R m d X:=hr5.mono (fun x _ hx=>HOF.out x (by have hx:W3.heap.size<=x:=hx;omega))
  have h2:LN (fun x=>Off F bs x/\W3.heap.size<=x/\x<W5.heap.size) W5 R m d X:=hr5.mono (fun x hxl hx=>⟨HOF.out x (by have hx:W3.heap.size<=x:=hx;omega),hx,hxl⟩)
  exact(h2.upd st6.upd (fun x hx h=>h.elim hx.1.1 hx.1.2)).mono (fun x _ hx=>⟨⟨fun hf=>(st6.sub x hf).elim hx.1.1 (fun h=>by have:=hx.2.2;omega),hx.1.2⟩,hx.2.1⟩)
 exact(hq6.upd hset (fun x hx e=>by have e:x=w.heap.size+1+1:=e;have:=hx.2;omega)).mono (fun x _ hx=>⟨hx.1,by have:=hx.2;omega⟩)
def cutAt (S:F1.Sta) (p b a:Nat):F1.Sta:={ S with c:=F1.putR S.c (p,b,a) }
theorem set_cut {F:Nat->Prop} {bs p y z:Nat} {w:World} {S:F1.Sta} (hS:Okay S) (hp:p<18446744073709551616) (h:SF F bs w (F1.ents S)) {A A2:Option Addr} {ck n2 c2:Nat} (hk:By w A 18 ck (F1.ck p)) (hkb:∀a,A=some a->a.block≠bs) (hv:By w A2 n2 c2 (F1.encC y z)) (hvb:∀a,A2=some a->a.block≠bs):
 Calls Tryz.prog 77 #[.pointer (some ⟨bs,0,none⟩),.slice A 18 ck,.slice A2 n2 c2] w fun e w'=>(∃v,e=.returned v)/\∃F',SF F' bs w' (F1.ents (cutAt S p y z))/\Step F F' bs w w':=by
 have hn:n2=16:=by have:=hv.len;simp[F1.encC,zah]at this;omega
 refine(kset_f h hS.len hk (fun a ha _=>hkb a ha) hv (fun a ha _=>hvb a ha) (by decide) (by decide) (by omega)).mono ?_
 rintro e w' ⟨he,F',h1,h2⟩
 rw[F1.put_c hS.fine hp]at h1
 exact⟨he,F',h1,h2⟩
theorem cut_c {F:Nat->Prop} {bs a:Nat} {w:World} {S:F1.Sta} (V:Val) (hS:Okay S) (h:SF F bs w (F1.ents S)) (hp0:0<V.p) (hp:V.p<18446744073709551616) (ht:V.t<18446744073709551616) (ha:a<18446744073709551616) (hS2:Okay (cutAt S (V.p-1) V.t a)) (hc1:(F1.hist S (V.p-1)).2+1<18446744073709551616):
 Calls Tryz.prog 43 #[.pointer (some ⟨bs,0,none⟩),.int .u64 16,V.v,.int .u64 (a:Int)] w (StartR F bs w (F1.ents (F1.refer (cutAt S (V.p-1) V.t a) (V.p-1))) ({ V with t:=a }:Val).v):=by
 obtain⟨r,t,A2,n2,c2,j,u,b,p,A7,n7,c7,A8,n8,c8,A9,n9,c9⟩:=V
 simp only at hp0 hp ht hS2 hc1
 unfold Val.v
 simp only
 obtain⟨q,hq⟩:∃q,q=p-1:=⟨_,rfl⟩
 have hpq:p-1=q:=hq.symm
 simp only[hpq]at hS2 hc1 ⊢
 have hql:q<18446744073709551616:=by omega
 have hwq:IntKind.u64.wrap ((p:Int)-1)=(q:Int):=by rw[IntKind.wrap_u64];omega
 obtain⟨W1,hW1⟩:∃W1,W1=w.alloc (.cells #[.int .u64 (r:Int),.int .u64 (t:Int),.slice A2 n2 c2,.bool j,.int .u64 (u:Int),.bool b,.int .u64 (p:Int),.slice A7 n7 c7,.slice A8 n8 c8,.slice A9 n9 c9] 28):=⟨_,rfl⟩
 obtain⟨W2,hW2⟩:∃W2,W2=W1.alloc (.cells #[.int .u64 0,.int .u64 0,.slice none 0 0,.bool false,.int .u64 0,.bool false,.int .u64 0,.slice none 0 0,.slice none 0 0,.slice none 0 0] 28):=⟨_,rfl⟩
 have s1:W1.heap.size=w.heap.size+1:=by rw[hW1];exact zad _ _
 have s2:W2.heap.size=w.heap.size+1+1:=by rw[hW2,zad,s1]
 have n1:New w W1:=by rw[hW1];exact Upd.alloc _ _ _
 have n2':New W1 W2:=by rw[hW2];exact Upd.alloc _ _ _
 have b5:=Ex.alloc_new w (.cells #[.int .u64 (r:Int),.int .u64 (t:Int),.slice A2 n2 c2,.bool j,.int .u64 (u:Int),.bool b,.int .u64 (p:Int),.slice A7 n7 c7,.slice A8 n8 c8,.slice A9 n9 c9] 28)
 rw[<-hW1]at b5
 replace b5:=(n2'.block w.heap.size (by omega) id).trans b5
 have b6:=Ex.alloc_new W1 (.cells #[.int .u64 0,.int .u64 0,.slice none 0 0,.bool false,.int .u64 0,.bool false,.int .u64 0,.slice none 0 0,.slice none 0 0,.slice none 0 0] 28)
 rw[<-hW2,s1]at b6
 have hn:=n1.trans n2'
 have hsf:=h.new hn
 have hbs:=h.bs_lt
 have hset:=fun W A ck A2 n2 c2 h1 h2 h3 h4 h5=>set_cut (F:=F) (bs:=bs) (p:=q) (y:=t) (z:=a) (w:=W) (A:=A) (A2:=A2) (ck:=ck) (n2:=n2) (c2:=c2) hS hql h1 h2 h3 h4 h5
 have hrf:=fun F' W' (h':SF F' bs W' (F1.ents (cutAt S q t a)))=>refer_c hS2 hql h' hc1
 obtain⟨L,hL⟩:∃L,L=F1.ents (F1.refer (cutAt S q t a) q):=⟨_,rfl⟩
 rw[<-hL]at hrf ⊢
 have HR:=zqH hrf;have HSE:=zqH hset;have HB:=zqH (And.intro b5 b6);have HN:=zqH hn;have S2:=zqH s2;have HSF:=zqH hsf;have HQL:=zqH (And.intro hql (And.intro ht ha))
 have HBS:=zqH (show bs<W2.heap.size by omega)
 have HOF:=zqH (And.intro (h.off_new (Nat.le_refl _)) (h.off_new (Nat.le_succ _)))
 have l6:=zaa b5 6 _ rfl;have l1:=zaa b5 1 _ rfl
 have hbl:w.heap.size<W2.heap.size:=by omega
 have HK:=zqH (fun W' (T:Nat->Prop) (hx':Upd T W2 W') (hT:¬T w.heap.size)=>(⟨(hx'.cell (a:=⟨w.heap.size,6,none⟩) hbl hT).trans l6,(hx'.cell (a:=⟨w.heap.size,1,none⟩) hbl hT).trans l1⟩:W'.cell? ⟨w.heap.size,6,none⟩=some (.int .u64 (p:Int))/\W'.cell? ⟨w.heap.size,1,none⟩=some (.int .u64 (t:Int))))
 clear hrf hset b5 b6 n1 n2' hn s1 s2 hsf hL hS h hc1 hS2 hq hpq hql ht ha hbl hbs
 go_enter Tryz.func43,Tryz.ntmps43
 go_upto_region 1 with fail
 rw[<-hW1,<-hW2]
 clear hW1 hW2
 go_region_held (fun w'=>w'.cell? ⟨w.heap.size,6,none⟩=some (.int .u64 (p:Int))/\w'.cell? ⟨w.heap.size,1,none⟩=some (.int .u64 (t:Int))) (go_keep) (first
  | (go_at_call 78
     refine(keyC q HQL.out.1).mono ?_
     rintro e w3 ⟨A,ck,rfl,hk,hn3,hat⟩
     have n3:New W2 w3:=(Upd.refl _ W2).drew.trans hn3
     obtain⟨d0,d1⟩:=HK.out _ _ n3 id
     have H3:=zqH (And.intro hk (And.intro n3 (fun(a:Addr) (ha:A=some a)=>(by have h1:=hat a ha;have h2:=HBS.out;have h3:W2.drew.heap.size=W2.heap.size:=rfl;omega:a.block≠bs))))
     clear hk hn3 hat n3)
  | (go_at_call 91
     refine(putcut_c HQL.out.2.1 HQL.out.2.2).mono ?_
     rintro e w4 ⟨A',n',c',rfl,hv,hn4,hat4⟩
     have n4:New W2 w4:=H3.out.2.1.trans hn4
     obtain⟨e0,e1⟩:=HK.out _ _ n4 id
     have H4:=zqH (And.intro hv (And.intro n4 (And.intro (H3.out.1.new hn4) (fun(a:Addr) (ha:A'=some a)=>(by have h1:=hat4 a ha;have h2:=HBS.out;have h3:=H3.out.2.1.size;omega:a.block≠bs)))))
     clear hv hn4 hat4 n4)
  | (go_at_call 77
     refine(HSE.out w4 A ck A' n' c' (HSF.out.new H4.out.2.1) H4.out.2.2.1 H3.out.2.2 H4.out.1 H4.out.2.2.2).mono ?_
     rintro e w5 ⟨⟨_,rfl⟩,F5,hsf5,st5⟩
     have u5:Upd (fun b=>F b\/b=bs) W2 w5:=(H4.out.2.1.mono (fun _ _ h=>h.elim)).trans st5.upd
     obtain⟨f0,f1⟩:=HK.out _ _ u5 (fun h=>h.elim HOF.out.1.1 HOF.out.1.2)
     have H5:=zqH (And.intro hsf5 (And.intro st5 ((Step.of_new (F:=F) (bs:=bs) H4.out.2.1).trans st5)))
     clear hsf5 st5 u5))
 go_upto_region 3 with(go_at_call 47;refine(HR.out F5 w5 H5.out.1).mono ?_;rintro e w6 ⟨rfl,F',hsf6,st6⟩;have H6:=zqH (And.intro hsf6 (H5.out.2.2.trans st6));clear HR hsf6 st6)
 clear d0 d1 e0 e1 f0 f1 l6 l1 hwq
 have c5:=(H6.out.2.block (b:=w.heap.size) (by have:=S2.out;omega) HOF.out.1.1 HOF.out.1.2).trans HB.out.1
 have c6:=(H6.out.2.block (b:=w.heap.size+1) (by have:=S2.out;omega) HOF.out.2.1 HOF.out.2.2).trans HB.out.2
 have C6:=zqH c6
 have x1:=zaa c5 1 _ rfl
 have z1:=zac c5 1
 have f5:=zab c5 (.int .u64 (a:Int)) (i:=1)
 simp only[List.setIfInBounds_toArray,List.set_cons_succ,List.set_cons_zero]at f5
 have FF5:=zqH f5
 clear c5 c6 f5
 go_upto_region 4 with fail
 obtain⟨W4,hW4⟩:∃W4,W4=w6.setCell ⟨w.heap.size,1,none⟩ (.int .u64 (a:Int)):=⟨_,rfl⟩
 have f5:=FF5.out
 rw[<-hW4]at f5 ⊢
 have hu4:Upd (fun b=>b=w.heap.size) w6 W4:=by rw[hW4];exact Upd.setCell (S:=fun b=>b=w.heap.size) w6 _ rfl
 have c6:=(hu4.block (w.heap.size+1) (by have:=H6.out.2.upd.size;have:=S2.out;omega) (by omega)).trans C6.out
 obtain⟨l0,l1,l2,l3,l4,l5,l6,l7,l8,l9⟩:=zqC f5
 obtain⟨g0,y0,g1,y1,g2,y2,g3,y3,g4,y4,g5,y5,g6,y6,g7,y7,g8,y8,g9,y9,hh,hset⟩:=put10 c6 (.int .u64 (r:Int)) (.int .u64 (a:Int)) (.slice A2 n2 c2) (.bool j) (.int .u64 (u:Int)) (.bool b) (.int .u64 (p:Int)) (.slice A7 n7 c7) (.slice A8 n8 c8) (.slice A9 n9 c9)
 have HH:=zqH (And.intro hh (And.intro hset hu4))
 obtain⟨q0,q1,q2,q3,q4,q5,q6,q7,q8,q9⟩:=zqC hh
 have QQ:=zqH (And.intro q0 (And.intro q1 (And.intro q2 (And.intro q3 (And.intro q4 (And.intro q5 (And.intro q6 (And.intro q7 (And.intro q8 q9)))))))))
 clear q0 q1 q2 q3 q4 q5 q6 q7 q8 q9 hh hset hu4 f5 c6 hW4 x1 z1
 go_wp2
 obtain⟨q0,q1,q2,q3,q4,q5,q6,q7,q8,q9⟩:=QQ.out
 refine bodyPost_ret (by simp[results,Tryz.results43,go_sem,q0,q1,q2,q3,q4,q5,q6,q7,q8,q9];try rfl) rfl ?_
 obtain⟨hh,hset,hu4⟩:=HH.out
 obtain⟨hsf3,sA0⟩:=H6.out
 have sA:Step F F' bs w w6:=(Step.of_new HN.out).trans sA0
 have hw6:=sA0.upd.size
 have hs2:=S2.out
 refine⟨rfl,F',?_,?_⟩
 · have hFo:∀x,w.heap.size<=x->x<w.heap.size+2->¬F' x:=fun x h1 h2 hf=>by
    rcases sA0.sub x hf with h|h
    · rcases(show x=w.heap.size\/x=w.heap.size+1 by omega) with rfl|rfl
      · exact HOF.out.1.1 h
      · exact HOF.out.2.1 h
    · omega
   exact(hsf3.upd_off hu4 (fun x hx e=>by have e:x=w.heap.size:=e;exact hFo x (by omega) (by omega) hx) (fun e=>HOF.out.1.2 (show bs=_ from e).symm)).upd_off hset (fun x hx e=>by have e:x=w.heap.size+1:=e;exact hFo x (by omega) (by omega) hx) (fun e=>HOF.out.2.2 (show bs=_ from e).symm)
 · exact(sA.off hu4 (fun x e=>by have e:x=w.heap.size:=e;omega)).off hset (fun x e=>by have e:x=w.heap.size+1:=e;omega)
end Go.Proofs.YtbhnjkegkadodaaGreatDoor

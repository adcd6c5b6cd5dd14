/- A part of the proof of the statement of this seat: no condition. -/
import Derived.Test.YtbhnjkegkadodaaGreatDoorQ07
import Derived.Test.YtbhnjkegkadodaaGreatDoorQ14
import Derived.Test.YtbhnjkegkadodaaGreatDoorQ12
import Derived.Test.YtbhnjkegkadodaaGreatDoorQ11
set_option linter.unusedVariables false
set_option linter.unusedSimpArgs false
set_option maxRecDepth 100000
set_option maxHeartbeats 8000000
namespace Go.Proofs.YtbhnjkegkadodaaGreatDoor
open Go Go.RowKit Go.Proofs Gl Go.Shelf
attribute [local go_sem] Oper.semAt_some
theorem kdel_f {F:Nat->Prop} {bs nk ck:Nat} {Ak:Option Addr} {w:World} {L:List Ent} {k:Bs} (h:SF F bs w L) (hL:L.length<=1000000) (hk:By w Ak nk ck k) (hkb:∀a,Ak=some a → 0<nk->a.block≠bs):
 Calls Tryz.prog 89 #[.pointer (some ⟨bs,0,none⟩),.slice Ak nk ck] w fun e w'=>(∃v,e=.returned v)/\∃F',SF F' bs w' (del L k)/\Step F F' bs w w':=by
 obtain⟨base,bm,D,A,n,c,vs,ps,h1,h2,h3,h4,h5,rfl⟩:=h
 obtain⟨L,hLL⟩:∃L,L=ps.flatten:=⟨_,rfl⟩
 rw[<-hLL]at hL ⊢
 have hcount:=h1.count
 have hup:∀w1,Upd (fun b=>b=bs) w w1->StoB w1 bs bm->MapIn 182 251 base w1 bm D A n c vs ps/\By w1 Ak nk ck k:=fun w1 hu hs=>
  ⟨⟨h2.toMapRaw.upd hu (fun b hb e=>(h4 b (h3 b hb)).2 e),h2.good,h2.few⟩,hk.upd hu (fun a ha h0 e=>hkb a ha h0 e)⟩
 have HC:=Lib.hid hcount;have HU:=Lib.hid hup;have HLL:=Lib.hid hLL;have HL:=Lib.hid hL;have H3:=Lib.hid h3;have HB:=Lib.hid h5;have H4:=Lib.hid h4
 clear hcount hup hLL hL h1 h2 h3 hk hkb h5 h4
 go_enter Tryz.func89,Tryz.ntmps89
 go_wp2_with (first
  | (go_at_call 132;refine HC.out.mono ?_;rintro e w1 ⟨⟨_,rfl⟩,hs1,hu1⟩;have H1:=Lib.hid (And.intro hs1 hu1);clear hs1 hu1)
  | (go_at_call 133;refine(noted_c H1.out.1).mono ?_;rintro e w2 ⟨⟨_,rfl⟩,hn2⟩;have hs2:=H1.out.1.upd hn2 id;have hc2:=(cell_of (Classical.choose_spec hs2) 0 (.pointer (some ⟨bm,0,none⟩)) rfl);have H2:=Lib.hid (And.intro hs2 hn2);clear hs2 hn2)
  | (go_at_call 142;refine(pdel_c (F:=fun b=>foot bm D A n c vs b) (base:=base) ⟨((HU.out w1 H1.out.2 H1.out.1).1).toMapRaw.upd H2.out.2 (fun _ _=>id),((HU.out w1 H1.out.2 H1.out.1).1).good,((HU.out w1 H1.out.2 H1.out.1).1).few⟩ (fun b=>id) (((HU.out w1 H1.out.2 H1.out.1).2).new H2.out.2) (by rw[<-HLL.out];exact HL.out)).mono ?_;rintro e w3 ⟨r3,F',ps',rfl,hm3,hf3,hu3,hp3⟩;have H5:=Lib.hid (And.intro hm3 (And.intro hf3 (And.intro hu3 hp3)));clear hm3 hf3 hu3 hp3))
 go_ret
 obtain⟨hm3,hf3,hu3,hp3⟩:=H5.out
 obtain⟨hs1,hu1⟩:=H1.out
 obtain⟨hs2,hn2⟩:=H2.out
 obtain⟨D',A',n',c',vs',hm4,hf4⟩:=hm3
 have hlt:=hs2.lt
 have hsz:=Nat.le_trans hu1.size hn2.size
 have hbs:=hs1.lt
 have hbase:=HB.out
 have hnb:¬foot bm D A n c vs bs:=fun h=>(H4.out bs (H3.out bs h)).2 rfl
 refine⟨⟨_,rfl⟩,fun b=>foot bm D' A' n' c' vs' b,⟨base,bm,D',A',n',c',vs',ps',hs2.upd hu3 hnb,hm4,fun b=>id,fun b hb=>⟨hm4.toMapRaw.foot_lt hb,fun e=>?_⟩,by have:=hu3.size;omega,by rw[hp3,HLL.out]⟩,fun b hb=>?_,((hu1.mono (fun b _ e=>.inr e)).trans (hn2.mono (fun b _ h=>h.elim))).then hu3 (fun b _ h=>.inl (H3.out b h))⟩
 · rcases hf3 b (hf4 b hb) with h|h
   · exact hnb (e▸h)
   · omega
 · rcases hf3 b (hf4 b hb) with h|h
   · exact .inl (H3.out b h)
   · exact .inr (by omega)
end Go.Proofs.YtbhnjkegkadodaaGreatDoor
namespace Go.Proofs.YtbhnjkegkadodaaGreatDoor
open Go Go.RowKit Go.Proofs Gl
theorem del_hist {F:Nat->Prop} {bs p:Nat} {w:World} {S:F1.Sta} (hS:Okay S) (hp:p<18446744073709551616) (h:SF F bs w (F1.ents S)) {A:Option Addr} {ck:Nat} (hk:By w A 18 ck (F1.hk p)) (hkb:∀a,A=some a->a.block≠bs):
 Calls Tryz.prog 89 #[.pointer (some ⟨bs,0,none⟩),.slice A 18 ck] w fun e w'=>(∃v,e=.returned v)/\∃F',SF F' bs w' (F1.ents { S with h:=F1.delR S.h p })/\Step F F' bs w w':=by
 have:=kdel_f h hS.len hk (fun a ha _=>hkb a ha)
 rwa [F1.del_h hS.fine hp]at this
theorem free_c {F:Nat->Prop} {bs p:Nat} {w:World} {S:F1.Sta} (hS:Okay S) (hp:p<18446744073709551616) (h:SF F bs w (F1.ents S)):
 Calls Tryz.prog 80 #[.pointer (some ⟨bs,0,none⟩),.int .u64 16,.int .u64 (p:Int)] w (StoR F bs w (F1.ents (F1.free S p))):=by
 have hh:=history_c hS hp h
 have hfit:=hS.hist p
 have hbs:=h.bs_lt
 have hF:∀b,F b->b<w.heap.size:=fun b hb=>(h.lt hb).1
 unfold F1.free
 obtain⟨r,hr⟩:∃r,r=(F1.hist S p).1:=⟨_,rfl⟩
 obtain⟨c,hc⟩:∃c,c=(F1.hist S p).2:=⟨_,rfl⟩
 rw[<-hr,<-hc]at hh hfit ⊢
 have hset:∀W A ck A2 n2 c2 y,SF F bs W (F1.ents S)->By W A 18 ck (F1.hk p) → (∀a,A=some a->a.block≠bs)->By W A2 n2 c2 (F1.encH r y) → (∀a,A2=some a->a.block≠bs)->_:=fun W A ck A2 n2 c2 y h1 h2 h3 h4 h5=>set_hist hS hp hfit.1 h1 h2 h3 h4 h5
 have hdel:∀W A ck,SF F bs W (F1.ents S)->By W A 18 ck (F1.hk p) → (∀a,A=some a->a.block≠bs)->_:=fun W A ck h1 h2 h3=>del_hist hS hp h1 h2 h3
 obtain⟨L',hL'⟩:∃L',L'=F1.ents (if c=0 then S else if c=1 then { S with h:=F1.delR S.h p } else { S with h:=F1.putR S.h (p,r,c-1) }):=⟨_,rfl⟩
 rw[<-hL']
 have HLL:=Lib.hid hL'
 clear hL'
 have HH:=Lib.hid hh;have HSET:=Lib.hid hset;have HDEL:=Lib.hid hdel;have HFIT:=Lib.hid hfit;have HF:=Lib.hid hF;have HP:=Lib.hid hp
 have hcl:c<18446744073709551616:=hfit.2
 clear hh hset hdel hfit hr hc hS h hF hp
 go_enter Tryz.func80,Tryz.ntmps80
 go_upto_region 1 with(go_at_call 58;refine HH.out.mono ?_;rintro e w1 ⟨R,m,d,rfl,hr1,hsf1,hu1⟩;have H1:=Lib.hid (And.intro hr1 (And.intro hsf1 hu1));clear HH hr1 hsf1 hu1)
 obtain⟨hr1,hsf1,hu1⟩:=H1.out
 obtain⟨W2,hW2⟩:∃W2,W2=w1.alloc (.cells #[.slice R m d,.int .u64 (c:Int)] 120):=⟨_,rfl⟩
 rw[<-hW2]
 have n2:New w1 W2:=by rw[hW2];exact Upd.alloc _ _ _
 have b2:=Ex.alloc_new w1 (.cells #[.slice R m d,.int .u64 (c:Int)] 120)
 rw[<-hW2]at b2
 have l1:W2.cell? ⟨w1.heap.size,1,none⟩=some (.int .u64 (c:Int)):=cell_of b2 1 _ rfl
 have z1:=frozen_of b2 1
 have hs1:=hu1.size
 have N2:=Lib.hid n2;have B2:=Lib.hid b2
 have HS2:=Lib.hid (And.intro (hsf1.new n2) ((hu1.trans (n2.mono (fun _ _ h=>h.elim)):Upd (fun b=>b=bs) w W2)))
 clear hW2 n2 b2 hr1 hsf1 hu1
 by_cases h0:c=0
 · subst h0
   go_wp2
   go_end0
   exact⟨rfl,F,by rw[HLL.out];simpa using HS2.out.1,⟨fun b hb=>.inl hb,HS2.out.2.mono (fun b _ e=>.inr e)⟩⟩
 · by_cases h1:c=1
   · subst h1
     have hbsl:bs<W2.heap.size:=Nat.lt_of_lt_of_le hbs HS2.out.2.size
     have HBS:=Lib.hid hbsl
     go_wp2_with (first
      | (go_at_call 78
         refine(keyH p HP.out).mono ?_
         rintro e W4 ⟨A,ck,rfl,hk,hn4,hat⟩
         have H4:=Lib.hid (And.intro hk (And.intro hn4 (fun(a:Addr) (ha:A=some a)=>(by have h1:=hat a ha;have h2:=HBS.out;omega:a.block≠bs))))
         clear hk hn4 hat)
      | (go_at_call 89
         refine(HDEL.out W4 A ck (HS2.out.1.new H4.out.2.1) H4.out.1 H4.out.2.2).mono ?_
         rintro e W6 ⟨⟨_,rfl⟩,F',hsf6,st6⟩
         have H6:=Lib.hid (And.intro hsf6 st6)
         clear hsf6 st6))
     go_end0
     refine⟨rfl,F',by rw[HLL.out];simpa using H6.out.1,?_⟩
     have s1:Step F F bs w W4:=⟨fun b hb=>.inl hb,(HS2.out.2.mono (fun b _ e=>.inr e)).trans (H4.out.2.1.mono (fun _ _ h=>h.elim))⟩
     exact s1.trans H6.out.2
   · have hb0:((c:Int) == 0)=false:=by simp;omega
     have hb1:((c:Int) == 1)=false:=by simp;omega
     have hll:=HLL.out
     rw[if_neg h0,if_neg h1]at hll
     obtain⟨y,hy⟩:∃y,y=c-1:=⟨_,rfl⟩
     have hyi:IntKind.u64.wrap ((c:Int)-1)=(y:Int):=by rw[IntKind.wrap_u64];omega
     have hyl:y<18446744073709551616:=by omega
     rw[<-hy]at hll
     clear HLL
     have HLL:=Lib.hid hll
     clear hll
     have HB01:=Lib.hid (And.intro h0 h1)
     clear h0 h1
     go_upto_region 3 with fail
     first|rw[hyi]|rw[<-hy]
     obtain⟨W3,hW3⟩:∃W3,W3=W2.setCell ⟨w1.heap.size,1,none⟩ (.int .u64 (y:Int)):=⟨_,rfl⟩
     rw[<-hW3]
     obtain⟨hr1,hsf1,hu1⟩:=H1.out
     have hs2:=N2.out.size
     have b3:W3.heap[w1.heap.size]?=some (.cells #[.slice R m d,.int .u64 (y:Int)] 120 (0,0)):=by rw[hW3,setCell_at B2.out];rfl
     have u3:Upd (fun b=>b=w1.heap.size) W2 W3:=by rw[hW3];exact Upd.setCell W2 _ rfl
     have hsf3:SF F bs W3 (F1.ents S):=(hsf1.new N2.out).upd_off u3 (fun b hb e=>by have:=HF.out b hb;have e:b=w1.heap.size:=e;omega) (by omega)
     have hr3:LN (Off F bs) W3 R m d r:=((hr1.mono (Q':=fun b=>w.heap.size<=b/\b<w1.heap.size) (fun b hb hq=>⟨hq,hb⟩)).new N2.out |>.upd u3 (fun b hb e=>by have e:b=w1.heap.size:=e;omega)).mono (fun b _ hb=>⟨fun hf=>by have:=HF.out b hf;omega,fun e=>by omega⟩)
     have u13:Upd (fun b=>b=bs) w W3:=(hu1.trans (N2.out.mono (fun _ _ h=>h.elim))).then u3 (fun b hb e=>by have e:b=w1.heap.size:=e;omega)
     have c0:W3.cell? ⟨w1.heap.size,0,none⟩=some (.slice R m d):=cell_of b3 0 _ rfl
     have c1:W3.cell? ⟨w1.heap.size,1,none⟩=some (.int .u64 (y:Int)):=cell_of b3 1 _ rfl
     have hbl:=(Array.getElem?_eq_some_iff.1 b3).1
     have hcell:∀W T,Upd T W3 W->¬T w1.heap.size->W.cell? ⟨w1.heap.size,0,none⟩=some (.slice R m d)/\W.cell? ⟨w1.heap.size,1,none⟩=some (.int .u64 (y:Int)):=fun W T hu hT=>
      ⟨(hu.cell (a:=⟨w1.heap.size,0,none⟩) hbl hT).trans c0,(hu.cell (a:=⟨w1.heap.size,1,none⟩) hbl hT).trans c1⟩
     have HCE:=Lib.hid hcell;have H3:=Lib.hid (And.intro hsf3 (And.intro hr3 u13));have HBS:=Lib.hid (show bs<W3.heap.size by have:=u3.size;omega)
     have HFW:=Lib.hid (show ¬F w1.heap.size/\¬w1.heap.size=bs from⟨fun hf=>by have:=HF.out _ hf;omega,by omega⟩)
     have HYL:=Lib.hid hyl
     clear hcell hsf3 hr3 u13 u3 b3 hbl hW3 hy hyi l1 z1 hr1 hsf1 hu1 hb0 hb1 hcl
     go_region_held (fun w'=>w'.cell? ⟨w1.heap.size,0,none⟩=some (.slice R m d)/\w'.cell? ⟨w1.heap.size,1,none⟩=some (.int .u64 (y:Int))) (go_keep) (first
      | (go_at_call 78
         refine(keyH p HP.out).mono ?_
         rintro e W4 ⟨A,ck,rfl,hk,hn4,hat⟩
         have n4:New W3 W4:=(Upd.refl _ W3).drew.trans hn4
         obtain⟨d0,d1⟩:=HCE.out _ _ n4 id
         have H4:=Lib.hid (And.intro hk (And.intro n4 (fun(a:Addr) (ha:A=some a)=>(by have h1:=hat a ha;have h2:=HBS.out;have h3:W3.drew.heap.size=W3.heap.size:=rfl;omega:a.block≠bs))))
         clear hk hn4 hat n4)
      | (go_at_call 79
         refine(puthist_c ((H3.out.2.1.lq).new H4.out.2.1) HFIT.out.1 HYL.out).mono ?_
         rintro e W5 ⟨A2,n2,c2,rfl,hv,hn5,hat5⟩
         have n5:New W3 W5:=H4.out.2.1.trans hn5
         obtain⟨e0,e1⟩:=HCE.out _ _ n5 id
         have H5:=Lib.hid (And.intro hv (And.intro n5 (And.intro (H4.out.1.new hn5) (fun(a:Addr) (ha:A2=some a)=>(by have h1:=hat5 a ha;have h2:=HBS.out;have h3:=H4.out.2.1.size;omega:a.block≠bs)))))
         clear hv hn5 hat5 n5)
      | (go_at_call 77
         have hset:=HSET.out W5 A ck A2 n2 c2 y (H3.out.1.new H5.out.2.1) H5.out.2.2.1 H4.out.2.2 H5.out.1 H5.out.2.2.2
         refine hset.mono ?_
         rintro e W6 ⟨⟨_,rfl⟩,F',hsf6,st6⟩
         have u6:Upd (fun b=>F b\/b=bs) W3 W6:=(H5.out.2.1.mono (fun _ _ h=>h.elim)).trans st6.upd
         obtain⟨f0,f1⟩:=HCE.out _ _ u6 (fun h=>h.elim HFW.out.1 HFW.out.2)
         have H6:=Lib.hid (And.intro hsf6 st6)
         clear hset hsf6 st6 u6))
     all_goals go_wp2
     all_goals go_end0
     obtain⟨hsf6,st6⟩:=H6.out
     refine⟨rfl,F',by rw[HLL.out];exact hsf6,?_⟩
     have s1:Step F F bs w W5:=⟨fun b hb=>.inl hb,(H3.out.2.2.mono (fun b _ e=>.inr e)).trans (H5.out.2.1.mono (fun _ _ h=>h.elim))⟩
     exact s1.trans st6
structure Val where
 r:Nat
 t:Nat
 A2:Option Addr
 n2:Nat
 c2:Nat
 j:Bool
 u:Nat
 b:Bool
 p:Nat
 A7:Option Addr
 n7:Nat
 c7:Nat
 A8:Option Addr
 n8:Nat
 c8:Nat
 A9:Option Addr
 n9:Nat
 c9:Nat
def Val.v (V:Val):Value:=.agg #[.int .u64 (V.r:Int),.int .u64 (V.t:Int),.slice V.A2 V.n2 V.c2,.bool V.j,.int .u64 (V.u:Int),.bool V.b,.int .u64 (V.p:Int),.slice V.A7 V.n7 V.c7,.slice V.A8 V.n8 V.c8,.slice V.A9 V.n9 V.c9]
theorem Step.block {F F':Nat->Prop} {bs:Nat} {w w':World} (s:Step F F' bs w w') {b:Nat} (hb:b<w.heap.size) (h1:¬F b) (h2:b≠bs):w'.heap[b]?=w.heap[b]?:=s.upd.block b hb (fun h=>h.elim h1 h2)
theorem SF.off_new {F:Nat->Prop} {bs:Nat} {w:World} {L:List Ent} (h:SF F bs w L) {b:Nat} (hb:w.heap.size<=b):¬F b/\b≠bs:=⟨fun hf=>by have:=(h.lt hf).1;omega,fun e=>by have:=h.bs_lt;omega⟩
theorem Step.off {F F' T:Nat->Prop} {bs:Nat} {w w1 w2:World} (s:Step F F' bs w w1) (hu:Upd T w1 w2) (hT:∀b,T b->w.heap.size<=b):Step F F' bs w w2:=⟨s.sub,s.upd.then hu (fun b hb h=>by have:=hT b h;omega)⟩
def StartR (F:Nat->Prop) (bs:Nat) (w:World) (L:List Ent) (v:Value) (e:Ending) (w':World):Prop:=e=.returned v/\∃F',SF F' bs w' L/\Step F F' bs w w'
theorem start_c {F:Nat->Prop} {bs:Nat} {w:World} {S:F1.Sta} (V:Val) (hS:Okay S) (h:SF F bs w (F1.ents S)) (hc1:(F1.hist S 0).2+1<18446744073709551616):
 Calls Tryz.prog 13 #[.pointer (some ⟨bs,0,none⟩),.int .u64 16,V.v] w (StartR F bs w (F1.ents (F1.refer S 0)) ({ V with p:=1,A7:=none,n7:=0,c7:=0 }:Val).v):=by
 obtain⟨r,t,A2,n2,c2,j,u,b,p,A7,n7,c7,A8,n8,c8,A9,n9,c9⟩:=V
 unfold Val.v
 simp only
 rw[show((1:Nat):Int)=1 from rfl]
 obtain⟨W1,hW1⟩:∃W1,W1=w.alloc (.cells #[.int .u64 (r:Int),.int .u64 (t:Int),.slice A2 n2 c2,.bool j,.int .u64 (u:Int),.bool b,.int .u64 (p:Int),.slice A7 n7 c7,.slice A8 n8 c8,.slice A9 n9 c9] 28):=⟨_,rfl⟩
 obtain⟨W2,hW2⟩:∃W2,W2=W1.alloc (.cells #[.int .u64 0,.int .u64 0,.slice none 0 0,.bool false,.int .u64 0,.bool false,.int .u64 0,.slice none 0 0,.slice none 0 0,.slice none 0 0] 28):=⟨_,rfl⟩
 have s1:W1.heap.size=w.heap.size+1:=by rw[hW1];exact alloc_size _ _
 have s2:W2.heap.size=w.heap.size+1+1:=by rw[hW2,alloc_size,s1]
 have n1:New w W1:=by rw[hW1];exact Upd.alloc _ _ _
 have n2':New W1 W2:=by rw[hW2];exact Upd.alloc _ _ _
 have b5:=Ex.alloc_new w (.cells #[.int .u64 (r:Int),.int .u64 (t:Int),.slice A2 n2 c2,.bool j,.int .u64 (u:Int),.bool b,.int .u64 (p:Int),.slice A7 n7 c7,.slice A8 n8 c8,.slice A9 n9 c9] 28)
 rw[<-hW1]at b5
 replace b5:=(n2'.block w.heap.size (by omega) id).trans b5
 have b6:=Ex.alloc_new W1 (.cells #[.int .u64 0,.int .u64 0,.slice none 0 0,.bool false,.int .u64 0,.bool false,.int .u64 0,.slice none 0 0,.slice none 0 0,.slice none 0 0] 28)
 rw[<-hW2,s1]at b6
 have hn:=n1.trans n2'
 have hsf:=h.new hn
 have hbs:=h.bs_lt
 have hrf:=refer_c hS (by decide:(0:Nat)<18446744073709551616) hsf hc1
 obtain⟨L,hL⟩:∃L,L=F1.ents (F1.refer S 0):=⟨_,rfl⟩
 rw[<-hL]at hrf ⊢
 have HR:=Lib.hid hrf;have HB:=Lib.hid (And.intro b5 b6);have HN:=Lib.hid hn;have S2:=Lib.hid s2
 have HOF:=Lib.hid (And.intro (h.off_new (Nat.le_refl _)) (h.off_new (Nat.le_succ _)))
 clear hrf b5 b6 n1 n2' hn s1 s2 hsf hL hS h hc1
 go_enter Tryz.func13,Tryz.ntmps13
 go_upto_region 1 with fail
 rw[<-hW1,<-hW2]
 clear hW1 hW2
 go_upto_region 2 with(go_at_call 47;refine HR.out.mono ?_;rintro e w3 ⟨rfl,F',hsf3,st3⟩;have H3:=Lib.hid (And.intro hsf3 st3);clear HR hsf3 st3)
 have c5:=(H3.out.2.block (b:=w.heap.size) (by have:=S2.out;omega) HOF.out.1.1 HOF.out.1.2).trans HB.out.1
 have c6:=(H3.out.2.block (b:=w.heap.size+1) (by have:=S2.out;omega) HOF.out.2.1 HOF.out.2.2).trans HB.out.2
 have C6:=Lib.hid c6
 have x6:=cell_of c5 6 _ rfl
 have z6:=frozen_of c5 6
 have d5:=setCell_at c5 (.int .u64 1) (i:=6)
 simp only[List.setIfInBounds_toArray,List.set_cons_succ,List.set_cons_zero]at d5
 have x7:=cell_of d5 7 _ rfl
 have z7:=frozen_of d5 7
 have f5:=setCell_at d5 (.slice none 0 0) (i:=7)
 simp only[List.setIfInBounds_toArray,List.set_cons_succ,List.set_cons_zero]at f5
 have F5:=Lib.hid f5
 clear c5 c6 d5 f5
 go_upto_region 3 with fail
 obtain⟨W4,hW4⟩:∃W4,W4=(w3.setCell ⟨w.heap.size,6,none⟩ (.int .u64 1)).setCell ⟨w.heap.size,7,none⟩ (.slice none 0 0):=⟨_,rfl⟩
 have f5:=F5.out
 rw[<-hW4]at f5 ⊢
 have hu4:Upd (fun b=>b=w.heap.size) w3 W4:=by rw[hW4];exact(Upd.setCell (S:=fun b=>b=w.heap.size) w3 _ rfl).trans (Upd.setCell _ _ rfl)
 have c6:=(hu4.block (w.heap.size+1) (by have:=H3.out.2.upd.size;have:=S2.out;omega) (by omega)).trans C6.out
 have l0:=cell_of f5 0 _ rfl;have l1:=cell_of f5 1 _ rfl;have l2:=cell_of f5 2 _ rfl;have l3:=cell_of f5 3 _ rfl;have l4:=cell_of f5 4 _ rfl;have l5:=cell_of f5 5 _ rfl;have l6:=cell_of f5 6 _ rfl;have l7:=cell_of f5 7 _ rfl;have l8:=cell_of f5 8 _ rfl;have l9:=cell_of f5 9 _ rfl
 obtain⟨g0,y0,g1,y1,g2,y2,g3,y3,g4,y4,g5,y5,g6,y6,g7,y7,g8,y8,g9,y9,hh,hset⟩:=put10 c6 (.int .u64 (r:Int)) (.int .u64 (t:Int)) (.slice A2 n2 c2) (.bool j) (.int .u64 (u:Int)) (.bool b) (.int .u64 1) (.slice none 0 0) (.slice A8 n8 c8) (.slice A9 n9 c9)
 have HH:=Lib.hid (And.intro hh (And.intro hset hu4))
 have q0:=cell_of hh 0 _ rfl;have q1:=cell_of hh 1 _ rfl;have q2:=cell_of hh 2 _ rfl;have q3:=cell_of hh 3 _ rfl;have q4:=cell_of hh 4 _ rfl;have q5:=cell_of hh 5 _ rfl;have q6:=cell_of hh 6 _ rfl;have q7:=cell_of hh 7 _ rfl;have q8:=cell_of hh 8 _ rfl;have q9:=cell_of hh 9 _ rfl
 have QQ:=Lib.hid (And.intro q0 (And.intro q1 (And.intro q2 (And.intro q3 (And.intro q4 (And.intro q5 (And.intro q6 (And.intro q7 (And.intro q8 q9)))))))))
 clear q0 q1 q2 q3 q4 q5 q6 q7 q8 q9 hh hset hu4 f5 c6 hW4 x6 z6 x7 z7
 go_wp2
 obtain⟨q0,q1,q2,q3,q4,q5,q6,q7,q8,q9⟩:=QQ.out
 refine bodyPost_ret (by simp[results,Tryz.results13,go_sem,q0,q1,q2,q3,q4,q5,q6,q7,q8,q9];try rfl) rfl ?_
 obtain⟨hh,hset,hu4⟩:=HH.out
 obtain⟨hsf3,st3⟩:=H3.out
 have hw3:=st3.upd.size
 have hs2:=S2.out
 refine⟨rfl,F',?_,?_⟩
 · have hFo:∀x,w.heap.size<=x->x<w.heap.size+2->¬F' x:=fun x h1 h2 hf=>by
    rcases st3.sub x hf with h|h
    · rcases(show x=w.heap.size\/x=w.heap.size+1 by omega) with rfl|rfl
      · exact HOF.out.1.1 h
      · exact HOF.out.2.1 h
    · omega
   exact(hsf3.upd_off hu4 (fun x hx e=>by have e:x=w.heap.size:=e;exact hFo x (by omega) (by omega) hx) (fun e=>by omega)).upd_off hset (fun x hx e=>by have e:x=w.heap.size+1:=e;exact hFo x (by omega) (by omega) hx) (fun e=>by omega)
 · have sA:Step F F' bs w w3:=(Step.of_new HN.out).trans st3
   exact(sA.off hu4 (fun x e=>by have e:x=w.heap.size:=e;omega)).off hset (fun x e=>by have e:x=w.heap.size+1:=e;omega)
def delV (A1:Option Addr) (n1 c1 p:Nat) (A2:Option Addr) (n2 c2:Nat):Value:=.agg #[.slice A1 n1 c1,.int .u64 (p:Int),.slice A2 n2 c2]
def HoldR (F:Nat->Prop) (bs:Nat) (w:World) (L:List Ent) (A1:Option Addr) (n1 c1 p x:Nat) (e:Ending) (w':World):Prop:=∃R m d,e=.returned (delV A1 n1 c1 p R m d)/\∃F',SF F' bs w' L/\Step F F' bs w w'/\LN (fun b=>Off F' bs b/\w.heap.size<=b) w' R m d x
theorem hold_puts {W3 w4:World} {b6 b7 p t q r u dp nd cd n2 c2 m d n7 c7 n8 c8 n9 c9 ns cs:Nat} {j b:Bool} {A2 A7 A8 A9 Ad As R:Option Addr} (hn:New W3 w4) (h6:W3.heap[b6]?=some (.cells #[.int .u64 (r:Int),.int .u64 (t:Int),.slice A2 n2 c2,.bool j,.int .u64 (u:Int),.bool b,.int .u64 (p:Int),.slice A7 n7 c7,.slice A8 n8 c8,.slice A9 n9 c9] 28 (0,0))) (h7:W3.heap[b7]?=some (.cells #[.slice Ad nd cd,.int .u64 (dp:Int),.slice As ns cs] 55 (0,0))) (hne:b6≠b7):
 w4.cell? ⟨b7,1,none⟩=some (.int .u64 (dp:Int))/\w4.frozen? ⟨b7,1,none⟩=false/\(w4.setCell ⟨b7,1,none⟩ (.int .u64 (q:Int))).cell? ⟨b7,2,none⟩=some (.slice As ns cs)/\(w4.setCell ⟨b7,1,none⟩ (.int .u64 (q:Int))).frozen? ⟨b7,2,none⟩=false /\
 ((w4.setCell ⟨b7,1,none⟩ (.int .u64 (q:Int))).cell? ⟨b6,6,none⟩=some (.int .u64 (p:Int))/\(w4.setCell ⟨b7,1,none⟩ (.int .u64 (q:Int))).cell? ⟨b6,1,none⟩=some (.int .u64 (t:Int))/\(w4.setCell ⟨b7,1,none⟩ (.int .u64 (q:Int))).cell? ⟨b6,2,none⟩=some (.slice A2 n2 c2)/\(w4.setCell ⟨b7,1,none⟩ (.int .u64 (q:Int))).cell? ⟨b7,0,none⟩=some (.slice Ad nd cd)) /\
 (((w4.setCell ⟨b7,1,none⟩ (.int .u64 (q:Int))).setCell ⟨b7,2,none⟩ (.slice R m d)).cell? ⟨b6,6,none⟩=some (.int .u64 (p:Int))/\((w4.setCell ⟨b7,1,none⟩ (.int .u64 (q:Int))).setCell ⟨b7,2,none⟩ (.slice R m d)).cell? ⟨b6,1,none⟩=some (.int .u64 (t:Int))/\((w4.setCell ⟨b7,1,none⟩ (.int .u64 (q:Int))).setCell ⟨b7,2,none⟩ (.slice R m d)).cell? ⟨b6,2,none⟩=some (.slice A2 n2 c2)/\((w4.setCell ⟨b7,1,none⟩ (.int .u64 (q:Int))).setCell ⟨b7,2,none⟩ (.slice R m d)).cell? ⟨b7,0,none⟩=some (.slice Ad nd cd)) /\
 (((w4.setCell ⟨b7,1,none⟩ (.int .u64 (q:Int))).setCell ⟨b7,2,none⟩ (.slice R m d)).heap[b7]?=some (.cells #[.slice Ad nd cd,.int .u64 (q:Int),.slice R m d] 55 (0,0))/\Upd (fun x=>x=b7) w4 ((w4.setCell ⟨b7,1,none⟩ (.int .u64 (q:Int))).setCell ⟨b7,2,none⟩ (.slice R m d))):=by
 have k6:=(hn.block b6 (Array.getElem?_eq_some_iff.1 h6).1 id).trans h6
 have k7:=(hn.block b7 (Array.getElem?_eq_some_iff.1 h7).1 id).trans h7
 have s7:=setCell_at k7 (.int .u64 (q:Int)) (i:=1)
 simp only[List.setIfInBounds_toArray,List.set_cons_succ,List.set_cons_zero]at s7
 have s8:=setCell_at s7 (.slice R m d) (i:=2)
 simp only[List.setIfInBounds_toArray,List.set_cons_succ,List.set_cons_zero]at s8
 have a6:=(setCell_not (i:=1) (w:=w4) (.int .u64 (q:Int)) hne).trans k6
 have a7:=(setCell_not (i:=2) (w:=w4.setCell ⟨b7,1,none⟩ (.int .u64 (q:Int))) (.slice R m d) hne).trans a6
 exact⟨cell_of k7 1 _ rfl,frozen_of k7 1,cell_of s7 2 _ rfl,frozen_of s7 2,⟨cell_of a6 6 _ rfl,cell_of a6 1 _ rfl,cell_of a6 2 _ rfl,cell_of s7 0 _ rfl⟩,⟨cell_of a7 6 _ rfl,cell_of a7 1 _ rfl,cell_of a7 2 _ rfl,cell_of s8 0 _ rfl⟩,s8,(Upd.setCell (S:=fun x=>x=b7) w4 _ rfl).trans (Upd.setCell _ _ rfl)⟩
theorem hold_c {Q Q' F:Nat->Prop} {bs y x dp:Nat} {Ad As:Option Addr} {nd cd ns cs:Nat} {w:World} {S:F1.Sta} (V:Val) (hS:Okay S) (h:SF F bs w (F1.ents S)) (hy:LQ Q w V.A2 V.n2 V.c2 y) (hx:LQ Q' w Ad nd cd x) (hy0:0<y) (ht:V.t<18446744073709551616) (hb:x*(V.t*10 ^ 36)<Gn.B ^ 1000) (hp0:0<V.p) (hp:V.p<18446744073709551616) (hc1:(F1.hist S (V.p-1)).2+1<18446744073709551616):
 Calls Tryz.prog 25 #[.pointer (some ⟨bs,0,none⟩),.int .u64 16,V.v,delV Ad nd cd dp As ns cs] w (HoldR F bs w (F1.ents (F1.refer S (V.p-1))) Ad nd cd (V.p-1) (x*(V.t*10 ^ 36) / y)):=by
 obtain⟨r,t,A2,n2,c2,j,u,b,p,A7,n7,c7,A8,n8,c8,A9,n9,c9⟩:=V
 simp only at hy ht hb hp0 hp hc1
 unfold Val.v delV
 simp only
 obtain⟨W1,hW1⟩:∃W1,W1=w.alloc (.cells #[.int .u64 (r:Int),.int .u64 (t:Int),.slice A2 n2 c2,.bool j,.int .u64 (u:Int),.bool b,.int .u64 (p:Int),.slice A7 n7 c7,.slice A8 n8 c8,.slice A9 n9 c9] 28):=⟨_,rfl⟩
 obtain⟨W2,hW2⟩:∃W2,W2=W1.alloc (.cells #[.slice Ad nd cd,.int .u64 (dp:Int),.slice As ns cs] 55):=⟨_,rfl⟩
 obtain⟨W3,hW3⟩:∃W3,W3=W2.alloc (.cells #[.slice none 0 0,.int .u64 0,.slice none 0 0] 55):=⟨_,rfl⟩
 obtain⟨hn,hs,b6,b7,b8⟩:=alloc3' hW1 hW2 hW3
 have hsf:=h.new hn
 have hwr:=fun W' (hx':New W3 W')=>worth_c (hy.new (hn.trans hx')) (hx.new (hn.trans hx')) hy0 ht hb
 obtain⟨X,hX⟩:∃X,X=x*(t*10 ^ 36) / y:=⟨_,rfl⟩
 rw[<-hX]at hwr ⊢
 obtain⟨q,hq⟩:∃q,q=p-1:=⟨_,rfl⟩
 have hpq:p-1=q:=hq.symm
 simp only[hpq]at hc1 ⊢
 have HQ:=Lib.hid hq
 clear hpq
 have hrf:=fun W' (hsf':SF F bs W' (F1.ents S))=>refer_c hS (by omega:q<18446744073709551616) hsf' hc1
 obtain⟨L,hL⟩:∃L,L=F1.ents (F1.refer S q):=⟨_,rfl⟩
 rw[<-hL]at hrf ⊢
 have hwq:IntKind.u64.wrap ((p:Int)-1)=(q:Int):=by rw[IntKind.wrap_u64];omega
 clear hq
 have HR:=Lib.hid hrf;have HW:=Lib.hid hwr;have HB:=Lib.hid (And.intro b6 (And.intro b7 b8));have HN:=Lib.hid hn;have S3:=Lib.hid hs;have HSF:=Lib.hid hsf
 have HOF:=Lib.hid (fun b (hb:w.heap.size<=b)=>h.off_new hb)
 have l6:=cell_of b6 6 _ rfl;have l1:=cell_of b6 1 _ rfl;have l2:=cell_of b6 2 _ rfl;have m0:=cell_of b7 0 _ rfl
 have m1:=cell_of b7 1 _ rfl
 have z1:=frozen_of b7 1
 have hbl:w.heap.size<W3.heap.size/\w.heap.size+1<W3.heap.size:=⟨by omega,by omega⟩
 have HK:=Lib.hid (fun W' (hx':New W3 W')=>(⟨(hx'.cell (a:=⟨w.heap.size,6,none⟩) hbl.1 id).trans l6,(hx'.cell (a:=⟨w.heap.size,1,none⟩) hbl.1 id).trans l1,(hx'.cell (a:=⟨w.heap.size,2,none⟩) hbl.1 id).trans l2,(hx'.cell (a:=⟨w.heap.size+1,0,none⟩) hbl.2 id).trans m0⟩:W'.cell? ⟨w.heap.size,6,none⟩=some (.int .u64 (p:Int))/\W'.cell? ⟨w.heap.size,1,none⟩=some (.int .u64 (t:Int))/\W'.cell? ⟨w.heap.size,2,none⟩=some (.slice A2 n2 c2)/\W'.cell? ⟨w.heap.size+1,0,none⟩=some (.slice Ad nd cd)))
 clear hrf hwr b6 b7 b8 hn hs hsf hX hL hS h hc1 hy hx hb hbl
 go_enter Tryz.func25,Tryz.ntmps25
 go_upto_region 1 with fail
 rw[<-hW1,<-hW2,<-hW3]
 clear hW1 hW2 hW3
 go_region_held (fun w'=>w'.cell? ⟨w.heap.size,6,none⟩=some (.int .u64 (p:Int))/\w'.cell? ⟨w.heap.size,1,none⟩=some (.int .u64 (t:Int))/\w'.cell? ⟨w.heap.size,2,none⟩=some (.slice A2 n2 c2)/\w'.cell? ⟨w.heap.size+1,0,none⟩=some (.slice Ad nd cd)) (go_keep) (first
  | (go_at_call 75
     refine(HW.out _ ((Upd.refl _ W3).drewN _)).mono ?_
     rintro e w4 ⟨R,m,d,rfl,hr4,hn4⟩
     have n4:New W3 w4:=((Upd.refl _ W3).drewN _).trans hn4
     obtain⟨e1,e2,e3,e4⟩:=HK.out _ n4
     obtain⟨x1,y1,x2,y2,⟨f1,f2,f3,f4⟩,⟨g1,g2,g3,g4⟩,hh7⟩:=hold_puts (q:=q) (R:=R) (m:=m) (d:=d) n4 HB.out.1 HB.out.2.1 (by omega)
     have E4:=Lib.hid (And.intro hr4 (And.intro n4 hh7))
     clear hr4 hn4 n4 hh7))
 obtain⟨hr4,n4,hh7,hu5⟩:=E4.out
 obtain⟨W5,hW5⟩:∃W5,W5=(w4.setCell ⟨w.heap.size+1,1,none⟩ (.int .u64 (q:Int))).setCell ⟨w.heap.size+1,2,none⟩ (.slice R m d):=⟨_,rfl⟩
 rw[<-hW5]at hh7 hu5 ⊢
 clear hW5 e1 e2 e3 e4 x1 y1 x2 y2 f1 f2 f3 f4 g1 g2 g3 g4 l6 l1 l2 m0 m1 z1
 have hs3:=S3.out
 have hs4:=n4.size
 have hs5:=hu5.size
 have o7:=HOF.out (w.heap.size+1) (by omega)
 have o8:=HOF.out (w.heap.size+1+1) (by omega)
 have hsf5:SF F bs W5 (F1.ents S):=(HSF.out.new n4).upd_off hu5 (fun x hx e=>by have e:x=w.heap.size+1:=e;exact o7.1 (e▸hx)) (fun e=>o7.2 e.symm)
 have u5:New w W5:=(HN.out.trans n4).then hu5 (fun x hx e=>by have e:x=w.heap.size+1:=e;omega)
 have hr5:LN (fun x=>W3.heap.size<=x) W5 R m d X:=hr4.upd hu5 (fun x hx e=>by have e:x=w.heap.size+1:=e;have hx:W3.heap.size<=x:=hx;omega)
 have k8:=(hu5.block (w.heap.size+1+1) (by omega) (by omega)).trans ((n4.block _ (by omega) id).trans HB.out.2.2)
 have hrf:=HR.out W5 hsf5
 have c1:=cell_of hh7 1 _ rfl
 have H7:=Lib.hid (And.intro hh7 k8);have H5:=Lib.hid (And.intro u5 (And.intro hr5 hsf5))
 clear hh7 k8 u5 hr5 hsf5 hu5 hr4 n4
 go_upto_region 3 with(go_at_call 47;refine hrf.mono ?_;rintro e w6 ⟨rfl,F',hsf6,st6⟩;have H6:=Lib.hid (And.intro hsf6 st6);clear hrf hsf6 st6)
 have k7:=(H6.out.2.block (b:=w.heap.size+1) (by omega) o7.1 o7.2).trans H7.out.1
 have k8:=(H6.out.2.block (b:=w.heap.size+1+1) (by omega) o8.1 o8.2).trans H7.out.2
 have l0:=cell_of k7 0 _ rfl;have l1:=cell_of k7 1 _ rfl;have l2:=cell_of k7 2 _ rfl
 obtain⟨g0,y0,g1,y1,g2,y2,hh,hset⟩:=put3 k8 (.slice Ad nd cd) (.int .u64 (q:Int)) (.slice R m d)
 have HH:=Lib.hid (And.intro hh hset)
 have q0:=cell_of hh 0 _ rfl;have q1:=cell_of hh 1 _ rfl;have q2:=cell_of hh 2 _ rfl
 have QQ:=Lib.hid (And.intro q0 (And.intro q1 q2))
 clear q0 q1 q2 hh hset k7 k8
 go_wp2
 obtain⟨q0,q1,q2⟩:=QQ.out
 refine bodyPost_ret (by simp[results,Tryz.results25,go_sem,q0,q1,q2];try rfl) rfl ?_
 obtain⟨hh,hset⟩:=HH.out
 obtain⟨hsf6,st6⟩:=H6.out
 obtain⟨u5,hr5,hsf5⟩:=H5.out
 have hw6:=st6.upd.size
 have o8':¬F' (w.heap.size+1+1):=fun hf=>(st6.sub _ hf).elim o8.1 (fun h=>by omega)
 refine⟨R,m,d,rfl,F',hsf6.upd_off hset (fun x hx e=>by have e:x=w.heap.size+1+1:=e;exact o8' (e▸hx)) (fun e=>o8.2 e.symm),((Step.of_new u5).trans st6).off hset (fun x e=>by have e:x=w.heap.size+1+1:=e;omega),?_⟩
 have hq6:LN (fun x=>(Off F' bs x)/\W3.heap.size<=x) w6 R m d X:=by
  have h1:LN (Off F bs) W5 R m d X:=hr5.mono (fun x _ hx=>HOF.out x (by have hx:W3.heap.size<=x:=hx;omega))
  have h2:LN (fun x=>Off F bs x/\W3.heap.size<=x/\x<W5.heap.size) W5 R m d X:=hr5.mono (fun x hxl hx=>⟨HOF.out x (by have hx:W3.heap.size<=x:=hx;omega),hx,hxl⟩)
  exact(h2.upd st6.upd (fun x hx h=>h.elim hx.1.1 hx.1.2)).mono (fun x _ hx=>⟨⟨fun hf=>(st6.sub x hf).elim hx.1.1 (fun h=>by have:=hx.2.2;omega),hx.1.2⟩,hx.2.1⟩)
 exact(hq6.upd hset (fun x hx e=>by have e:x=w.heap.size+1+1:=e;have:=hx.2;omega)).mono (fun x _ hx=>⟨hx.1,by have:=hx.2;omega⟩)
def AL6 (W:World) (b:Nat) (w:World):Prop:=w.heap[b]?=some (.cells #[.slice none 0 0,.int .u64 0] 120 (0,0))/\W.heap.size<=b
theorem AL6.next {W w w':World} {b bs:Nat} (h:AL6 W b w) (hn:Upd (fun b=>b=bs) w w') (hb:b≠bs):AL6 W b w':=⟨(hn.block b (Array.getElem?_eq_some_iff.1 h.1).1 hb).trans h.1,h.2⟩
theorem AL6.lt {W w:World} {b:Nat} (h:AL6 W b w):b<w.heap.size:=(Array.getElem?_eq_some_iff.1 h.1).1
theorem AL6.make {W w w':World} (h:w'=w.alloc (.cells #[.slice none 0 0,.int .u64 0] 120)) (hs:W.heap.size<=w.heap.size):AL6 W w.heap.size w'/\New w w':=⟨⟨by rw[h];exact Ex.alloc_new w _,hs⟩,by rw[h];exact Upd.alloc _ _ _⟩
theorem AL6.facts {W w:World} {b b5 b8:Nat} (h:AL6 W b w) {u5 u8:Value} (e1:w.cell? ⟨b5,6,none⟩=some u5) (e2:w.cell? ⟨b8,0,none⟩=some u8) (h1:b5<W.heap.size) (h2:b8<W.heap.size) (v0 v1:Value):
 w.cell? ⟨b,0,none⟩=some (.slice none 0 0)/\w.frozen? ⟨b,0,none⟩=false/\(w.setCell ⟨b,0,none⟩ v0).cell? ⟨b,1,none⟩=some (.int .u64 0)/\(w.setCell ⟨b,0,none⟩ v0).frozen? ⟨b,1,none⟩=false /\
 (w.setCell ⟨b,0,none⟩ v0).cell? ⟨b5,6,none⟩=some u5/\(w.setCell ⟨b,0,none⟩ v0).cell? ⟨b8,0,none⟩=some u8/\((w.setCell ⟨b,0,none⟩ v0).setCell ⟨b,1,none⟩ v1).cell? ⟨b5,6,none⟩=some u5/\((w.setCell ⟨b,0,none⟩ v0).setCell ⟨b,1,none⟩ v1).cell? ⟨b8,0,none⟩=some u8 /\
 ((w.setCell ⟨b,0,none⟩ v0).setCell ⟨b,1,none⟩ v1).heap[b]?=some (.cells #[v0,v1] 120 (0,0))/\Upd (fun x=>x=b) w ((w.setCell ⟨b,0,none⟩ v0).setCell ⟨b,1,none⟩ v1):=by
 obtain⟨c0,z0,c1,z1,hh,hu⟩:=put2 h.1 v0 v1
 have hst:Upd (fun x=>x=b) w (w.setCell ⟨b,0,none⟩ v0):=Upd.setCell w _ rfl
 have:=h.2
 exact⟨c0,z0,c1,z1,(hst.cell (a:=⟨b5,6,none⟩) (World.block_lt_of_cell? w _ e1) (by show ¬b5=b;omega)).trans e1,(hst.cell (a:=⟨b8,0,none⟩) (World.block_lt_of_cell? w _ e2) (by show ¬b8=b;omega)).trans e2,
  (hu.cell (a:=⟨b5,6,none⟩) (World.block_lt_of_cell? w _ e1) (by show ¬b5=b;omega)).trans e1,(hu.cell (a:=⟨b8,0,none⟩) (World.block_lt_of_cell? w _ e2) (by show ¬b8=b;omega)).trans e2,hh,hu⟩
structure ClA (F:Nat->Prop) (bs:Nat) (W w:World) (L:List Ent) (g:Nat) (R:Option Addr) (m d x:Nat):Prop where
 sf:SF F bs w L
 upd:Upd (fun b=>b=bs) W w
 blk:w.heap[g]?=some (.cells #[.slice R m d,.int .u64 1] 120 (0,0))
 ge:W.heap.size<=g
 num:LN (fun b=>W.heap.size<=b/\b≠g) w R m d x
theorem clA_set {F:Nat->Prop} {bs b m d x:Nat} {W w0 w8 WF:World} {L:List Ent} {R:Option Addr} (al:AL6 W b w8/\b<w0.heap.size) (h:LN (NB w0) w8 R m d x/\SF F bs w8 L/\Upd (fun b=>b=bs) W w8/\W.heap.size<=w0.heap.size) (hx:WF.heap[b]?=some (.cells #[.slice R m d,.int .u64 1] 120 (0,0))/\Upd (fun x=>x=b) w8 WF) (hF:∀y,F y->y<W.heap.size) (hbs:bs<W.heap.size):ClA F bs W WF L b R m d x:=by
 obtain⟨⟨a1,a2⟩,a3⟩:=al
 obtain⟨h1,h2,h3,h4⟩:=h
 exact⟨h2.upd_off hx.2 (fun y hy e=>by have:=hF y hy;have e:y=b:=e;omega) (by omega),h3.then hx.2 (fun y hy e=>by have e:y=b:=e;omega),hx.1,a2,
  (h1.upd hx.2 (fun y hy e=>by have e:y=b:=e;have hy:w0.heap.size<=y:=hy;omega)).mono (fun y _ hy=>by have hy:w0.heap.size<=y:=hy;exact⟨by omega,by omega⟩)⟩
theorem clA_new {F:Nat->Prop} {bs m d x:Nat} {W w0 w8:World} {L:List Ent} {R:Option Addr} (h:LN (NB w0) w8 R m d x/\SF F bs w8 L/\Upd (fun b=>b=bs) W w8/\W.heap.size<=w0.heap.size):ClA F bs W (w8.alloc (.cells #[.slice R m d,.int .u64 1] 120)) L w8.heap.size R m d x:=by
 obtain⟨h1,h2,h3,h4⟩:=h
 have hn:New w8 (w8.alloc (.cells #[.slice R m d,.int .u64 1] 120)):=Upd.alloc _ _ _
 exact⟨h2.new hn,h3.trans (hn.mono (fun _ _ h=>h.elim)),Ex.alloc_new w8 _,h3.size,((h1.mono (Q':=fun y=>w0.heap.size<=y/\y<w8.heap.size) (fun y hy hq=>⟨hq,hy⟩)).new hn).mono (fun y _ hy=>⟨by omega,by omega⟩)⟩
theorem field120 (W:World) (R:Option Addr) (m d:Nat) (c:Int):(Instr.field 120 (.agg #[.slice R m d,.int .u64 c]) 0).run Tryz.prog W=.ok (.agg #[.slice R m d]) W:=by
 simp[Instr.field,asAgg,go_sem]
theorem close_c {Q F:Nat->Prop} {bs cur:Nat} {w:World} {S:F1.Sta} (V:Val) (hS:Okay S) (h:SF F bs w (F1.ents S)) (hcur:LQ Q w V.A7 V.n7 V.c7 cur) (ht0:0<V.t) (ht:V.t<18446744073709551616) (hp0:0<V.p) (hp:V.p+1<18446744073709551616) (hb:(F1.hist S (V.p-1)).1+cur / V.t<Gn.B ^ 30) (hS2:Okay { S with h:=F1.putR S.h (V.p,(F1.hist S (V.p-1)).1+cur / V.t,1) }):
 Calls Tryz.prog 27 #[.pointer (some ⟨bs,0,none⟩),.int .u64 16,V.v] w (StartR F bs w (F1.ents (F1.close S V.p V.t cur)) (.tuple #[({ V with p:=V.p+1,A7:=none,n7:=0,c7:=0 }:Val).v,.agg #[.slice none 0 0]])):=by
 obtain⟨r,t,A2,n2,c2,j,u,b,p,A7,n7,c7,A8,n8,c8,A9,n9,c9⟩:=V
 simp only at hcur ht0 ht hp0 hp hb hS2
 unfold Val.v
 simp only
 obtain⟨W1,hW1⟩:∃W1,W1=w.alloc (.cells #[.int .u64 (r:Int),.int .u64 (t:Int),.slice A2 n2 c2,.bool j,.int .u64 (u:Int),.bool b,.int .u64 (p:Int),.slice A7 n7 c7,.slice A8 n8 c8,.slice A9 n9 c9] 28):=⟨_,rfl⟩
 obtain⟨W2,hW2⟩:∃W2,W2=W1.alloc (.cells #[.int .u64 0,.int .u64 0,.slice none 0 0,.bool false,.int .u64 0,.bool false,.int .u64 0,.slice none 0 0,.slice none 0 0,.slice none 0 0] 28):=⟨_,rfl⟩
 obtain⟨W3,hW3⟩:∃W3,W3=W2.alloc (.cells #[.slice none 0 0] 26):=⟨_,rfl⟩
 obtain⟨hn,hs,b5,b6,b7⟩:=alloc3' hW1 hW2 hW3
 have hov:=over_c (hcur.new hn) ht0 ht
 obtain⟨X,hX⟩:∃X,X=cur / t:=⟨_,rfl⟩
 rw[<-hX]at hov hb hS2
 obtain⟨q,hq⟩:∃q,q=p-1:=⟨_,rfl⟩
 have hpq:p-1=q:=hq.symm
 rw[hpq]at hb hS2
 obtain⟨L',hL'⟩:∃L',L'=F1.ents (F1.close S p t cur):=⟨_,rfl⟩
 rw[<-hL']
 rw[show((p+1:Nat):Int)=(p:Int)+1 by omega]
 obtain⟨S2,hS2e⟩:∃S2,S2=({ S with h:=F1.putR S.h (p,(F1.hist S q).1+X,1) }:F1.Sta):=⟨_,rfl⟩
 rw[<-hS2e]at hS2
 have hL2:L'=F1.ents (F1.free S2 q):=by
  rw[hL',hS2e];unfold F1.close;rw[if_neg (by omega),hpq,hX]
 have hwq:IntKind.u64.wrap ((p:Int)-1)=(q:Int):=by rw[IntKind.wrap_u64];omega
 have hwp:IntKind.u64.wrap ((p:Int)+1)=(p:Int)+1:=by rw[IntKind.wrap_u64];omega
 have hql:q<18446744073709551616:=by omega
 have hpl:p<18446744073709551616:=by omega
 have hhist:=fun W' (hsf':SF F bs W' (F1.ents S))=>history_c hS hql hsf'
 obtain⟨hr,hhr⟩:∃hr,hr=(F1.hist S q).1:=⟨_,rfl⟩
 rw[<-hhr]at hhist hb hS2e
 have hset:=fun W' A ck A2 n2 c2 (h1:SF F bs W' (F1.ents S)) h2 h3 h4 h5=>set_hist (bs:=bs) (F:=F) (w:=W') (r:=hr+X) (c:=1) (A:=A) (ck:=ck) (A2:=A2) (n2:=n2) (c2:=c2) hS hpl (F1.nb_le (k:=255) (Nat.lt_of_lt_of_le hb (by decide))) h1 h2 h3 h4 h5
 have hHV:=Lib.hid hov;have HH:=Lib.hid hhist;have HSET:=Lib.hid hset;have HB:=Lib.hid (And.intro b5 (And.intro b6 b7));have HN:=Lib.hid hn;have S3:=Lib.hid hs;have HSF:=Lib.hid (h.new hn)
 have HFREE:=Lib.hid (fun F' W' (hsf':SF F' bs W' (F1.ents S2))=>free_c hS2 hql hsf')
 have HOF:=Lib.hid (fun b (hb:w.heap.size<=b)=>h.off_new hb);have HL2:=Lib.hid hL2;have HS2E:=Lib.hid hS2e;have HXB:=Lib.hid (Nat.lt_of_lt_of_le hb (@pow_le 30 1000 (by omega)));have HXF:=Lib.hid hb
 have HBS:=Lib.hid h.bs_lt
 have l7:=cell_of b5 7 _ rfl;have l1:=cell_of b5 1 _ rfl
 clear hov hhist hset b5 b6 b7 hn hs h hL2 hS2e hb hL' hcur ht0 hX hq hpq hhr hS hS2 ht hp0
 go_enter Tryz.func27,Tryz.ntmps27
 go_upto_region 1 with fail
 rw[<-hW1,<-hW2,<-hW3]
 clear hW1 hW2 hW3
 go_upto_region 6 with(go_at_call 39;refine hHV.out.mono ?_;rintro e w4 ⟨R,m,d,rfl,hr4,hn4⟩;have H4:=Lib.hid (And.intro hr4 hn4);clear hHV hr4 hn4)
 obtain⟨W5,hW5⟩:∃W5,W5=w4.alloc (.cells #[.slice R m d] 26):=⟨_,rfl⟩
 obtain⟨W6,hW6⟩:∃W6,W6=W5.alloc (.cells #[.slice none 0 0] 26):=⟨_,rfl⟩
 have s5:W5.heap.size=w4.heap.size+1:=by rw[hW5];exact alloc_size _ _
 rw[<-hW5,<-s5,<-hW6]
 have s6:W6.heap.size=W5.heap.size+1:=by rw[hW6];exact alloc_size _ _
 have n5:New w4 W5:=by rw[hW5];exact Upd.alloc _ _ _
 have n6:New W5 W6:=by rw[hW6];exact Upd.alloc _ _ _
 have b8:=Ex.alloc_new w4 (.cells #[.slice R m d] 26)
 rw[<-hW5]at b8
 replace b8:=(n6.block _ (by omega) id).trans b8
 have b10:=Ex.alloc_new W5 (.cells #[.slice none 0 0] 26)
 rw[<-hW6]at b10
 obtain⟨hr4,hn4⟩:=H4.out
 have n36:New W3 W6:=hn4.trans (n5.trans n6)
 have hr6:LN (NB W3) W6 R m d X:=hr4.new (n5.trans n6)
 have hs3:=S3.out
 have hs4:=hn4.size
 have k5:=(n36.block w.heap.size (by omega) id).trans HB.out.1
 have k6:=(n36.block (w.heap.size+1) (by omega) id).trans HB.out.2.1
 have k7:=(n36.block (w.heap.size+1+1) (by omega) id).trans HB.out.2.2
 have e6:=cell_of k5 6 _ rfl
 have e8:=cell_of b8 0 _ rfl
 have H6:=Lib.hid (And.intro (HN.out.trans n36) (And.intro hr6 (And.intro k5 (And.intro k6 (And.intro k7 (And.intro b8 b10))))))
 have HSF6:=Lib.hid (HSF.out.new n36)
 have hk:∀W',Upd (fun b=>b=bs) W6 W'->W'.cell? ⟨w.heap.size,6,none⟩=some (.int .u64 (p:Int))/\W'.cell? ⟨w4.heap.size,0,none⟩=some (.slice R m d):=fun W' hu=>
  ⟨(hu.cell (a:=⟨w.heap.size,6,none⟩) (by show w.heap.size<_;omega) (by show ¬w.heap.size=bs;have:=HBS.out;omega)).trans e6,(hu.cell (a:=⟨w4.heap.size,0,none⟩) (by show w4.heap.size<_;omega) (by show ¬w4.heap.size=bs;have:=HBS.out;omega)).trans e8⟩
 have HK:=Lib.hid hk
 have SZ:=Lib.hid (show W3.heap.size=w.heap.size+1+1+1/\W3.heap.size<=w4.heap.size/\W6.heap.size=w4.heap.size+1+1/\W5.heap.size=w4.heap.size+1 from⟨hs3,hs4,by omega,s5⟩)
 clear s5 s6 hs3 hs4 hW5 hW6 n5 n6 b8 b10 hr4 hn4 hr6 k5 k6 k7 n36 hk H4 HSF HB l7 l1
 go_cut [11] (fun s11 wx=>∃g:Nat,s11=.pointer (some ⟨g,0,none⟩)/\Hid (∃Rs ms ds,ClA F bs W6 wx (F1.ents S) g Rs ms ds (hr+X)))
 case first=>
  go_region_held (fun w'=>w'.cell? ⟨w.heap.size,6,none⟩=some (.int .u64 (p:Int))/\w'.cell? ⟨w4.heap.size,0,none⟩=some (.slice R m d)) (go_keep) (first
   | (go_at_call 58
      obtain⟨w0,hw0⟩:∃w0,w0=W6.alloc (.cells #[.slice none 0 0,.int .u64 0] 120):=⟨_,rfl⟩
      rw[<-hw0]
      obtain⟨al,n0⟩:=AL6.make (W:=W6) hw0 (Nat.le_refl _)
      refine(HH.out _ (HSF6.out.new (n0.trans (Upd.refl _ w0).drew))).mono ?_
      rintro e w7 ⟨R1,m1,d1,rfl,hr7,hsf7,hu7⟩
      have u7:Upd (fun b=>b=bs) W6 w7:=((n0.trans (Upd.refl _ w0).drew).mono (fun _ _ h=>h.elim)).trans hu7
      obtain⟨f6,f8⟩:=HK.out _ u7
      have hfl:=fun W'=>field120 W' R1 m1 d1 ((F1.hist S q).2:Int)
      have E7:=Lib.hid (And.intro (hr7.lq.mono (Q':=NB W6) (fun b _ hb=>Nat.le_trans n0.size hb)) (And.intro hsf7 u7))
      have AL:=Lib.hid (al.next (((Upd.refl (fun b=>b=bs) w0).drew).trans hu7) (by have:=HBS.out;have:=al.2;have:=SZ.out;omega))
      clear hr7 hsf7 hu7 u7 al n0 hw0)
   | (go_at_call 58
      refine(HH.out _ (HSF6.out.new (Upd.refl _ W6).drew)).mono ?_
      rintro e w7 ⟨R1,m1,d1,rfl,hr7,hsf7,hu7⟩
      have u7:Upd (fun b=>b=bs) W6 w7:=((Upd.refl _ W6).drew).trans hu7
      obtain⟨f6,f8⟩:=HK.out _ u7
      have hfl:=fun W'=>field120 W' R1 m1 d1 ((F1.hist S q).2:Int)
      have E7:=Lib.hid (And.intro (hr7.lq.mono (Q':=NB W6) (fun b _ hb=>hb)) (And.intro hsf7 u7))
      clear hr7 hsf7 hu7 u7)
   | (go_at_call 36
      obtain⟨w0,hw0⟩:∃w0,w0=w7.alloc (.cells #[.slice none 0 0,.int .u64 0] 120):=⟨_,rfl⟩
      rw[<-hw0]
      obtain⟨al,n0⟩:=AL6.make (W:=W6) hw0 E7.out.2.2.size
      have hrr:LQ (NB W3) w7 R m d X:=(H6.out.2.1.lq).upd E7.out.2.2 (fun b hb e=>by have hb:W3.heap.size<=b:=hb;have e:b=bs:=e;have:=HBS.out;have:=SZ.out;omega)
      refine(dadd_c (E7.out.1.new n0) (hrr.new n0) HXB.out).mono ?_
      rintro e w8 ⟨Rs,ms,ds,rfl,hr8,hn8⟩
      have u8':Upd (fun b=>b=bs) W6 w8:=E7.out.2.2.trans ((n0.trans hn8).mono (fun _ _ h=>h.elim))
      obtain⟨i6,i8⟩:=HK.out _ u8'
      have ALE:=Lib.hid (And.intro (al.next (bs:=bs) (hn8.mono (fun _ _ h=>h.elim)) (by have:=HBS.out;have:=al.2;have:=SZ.out;omega)) al.lt)
      have E8:=Lib.hid (And.intro (hr8.mono (Q':=NB w0) (fun b _ hb=>hb)) (And.intro (E7.out.2.1.new (n0.trans hn8)) (And.intro u8' (Nat.le_trans E7.out.2.2.size n0.size))))
      obtain⟨c0,z0,c1,z1,g6,g8,x6,x8,hx⟩:=ALE.out.1.facts i6 i8 (by have:=SZ.out;omega) (by have:=SZ.out;omega) (.slice Rs ms ds) (.int .u64 1)
      have HX:=Lib.hid hx
      clear hr8 hn8 u8' al n0 hw0 hrr hx)
   | (go_at_call 36
      have AL0:=AL
      clear AL
      have hrr:LQ (NB W3) w7 R m d X:=(H6.out.2.1.lq).upd E7.out.2.2 (fun b hb e=>by have hb:W3.heap.size<=b:=hb;have e:b=bs:=e;have:=HBS.out;have:=SZ.out;omega)
      refine(dadd_c E7.out.1 hrr HXB.out).mono ?_
      rintro e w8 ⟨Rs,ms,ds,rfl,hr8,hn8⟩
      have u8':Upd (fun b=>b=bs) W6 w8:=E7.out.2.2.trans (hn8.mono (fun _ _ h=>h.elim))
      obtain⟨i6,i8⟩:=HK.out _ u8'
      have ALE:=Lib.hid (And.intro (AL0.out.next (bs:=bs) (hn8.mono (fun _ _ h=>h.elim)) (by have:=HBS.out;have:=AL0.out.2;have:=SZ.out;omega)) AL0.out.lt)
      have E8:=Lib.hid (And.intro (hr8.mono (Q':=NB w7) (fun b _ hb=>hb)) (And.intro (E7.out.2.1.new hn8) (And.intro u8' E7.out.2.2.size)))
      obtain⟨c0,z0,c1,z1,g6,g8,x6,x8,hx⟩:=ALE.out.1.facts i6 i8 (by have:=SZ.out;omega) (by have:=SZ.out;omega) (.slice Rs ms ds) (.int .u64 1)
      have HX:=Lib.hid hx
      clear hr8 hn8 u8' AL0 hrr hx)
   | (go_at_call 36
      have hrr:LQ (NB W3) w7 R m d X:=(H6.out.2.1.lq).upd E7.out.2.2 (fun b hb e=>by have hb:W3.heap.size<=b:=hb;have e:b=bs:=e;have:=HBS.out;have:=SZ.out;omega)
      refine(dadd_c E7.out.1 hrr HXB.out).mono ?_
      rintro e w8 ⟨Rs,ms,ds,rfl,hr8,hn8⟩
      have u8':Upd (fun b=>b=bs) W6 w8:=E7.out.2.2.trans (hn8.mono (fun _ _ h=>h.elim))
      obtain⟨i6,i8⟩:=HK.out _ u8'
      have E8:=Lib.hid (And.intro (hr8.mono (Q':=NB w7) (fun b _ hb=>hb)) (And.intro (E7.out.2.1.new hn8) (And.intro u8' E7.out.2.2.size)))
      obtain⟨al,n9⟩:=AL6.make (W:=W6) (w:=w8) rfl u8'.size
      obtain⟨p6,p8⟩:=HK.out _ (u8'.trans (n9.mono (fun _ _ h=>h.elim)))
      obtain⟨c0,z0,c1,z1,g6,g8,x6,x8,hx⟩:=al.facts p6 p8 (by have:=SZ.out;omega) (by have:=SZ.out;omega) (.slice Rs ms ds) (.int .u64 1)
      have HX:=Lib.hid (And.intro hx (And.intro al n9))
      clear hr8 hn8 u8' hrr hx al n9))
  all_goals go_wp2
  all_goals go_meet
  · exact⟨_,rfl,Lib.hid ⟨Rs,ms,ds,clA_new E8.out⟩⟩
  all_goals exact⟨_,rfl,Lib.hid ⟨Rs,ms,ds,clA_set ALE.out E8.out HX.out (fun y hy=>(HSF6.out.lt hy).1) HSF6.out.bs_lt⟩⟩
 case rest=>
  obtain⟨g,rfl,hC⟩:=hcut
  obtain⟨Rs,ms,ds,hc⟩:=hC.out
  clear hC
  obtain⟨a6,a8⟩:=HK.out _ hc.upd
  have v0:=cell_of hc.blk 0 _ rfl
  have v1:=cell_of hc.blk 1 _ rfl
  have hgl:=(Array.getElem?_eq_some_iff.1 hc.blk).1
  have hkk:∀W' T,Upd T wc W'->¬T w.heap.size->¬T g->W'.cell? ⟨w.heap.size,6,none⟩=some (.int .u64 (p:Int))/\W'.cell? ⟨g,0,none⟩=some (.slice Rs ms ds)/\W'.cell? ⟨g,1,none⟩=some (.int .u64 1):=fun W' T hu h1 h2=>
   ⟨(hu.cell (a:=⟨w.heap.size,6,none⟩) (World.block_lt_of_cell? wc _ a6) h1).trans a6,(hu.cell (a:=⟨g,0,none⟩) hgl h2).trans v0,(hu.cell (a:=⟨g,1,none⟩) hgl h2).trans v1⟩
  have HKK:=Lib.hid hkk
  have hoff:(¬F w.heap.size/\w.heap.size≠bs)/\(¬F g/\g≠bs):=⟨HOF.out _ (Nat.le_refl _),HOF.out _ (by have:=hc.ge;have:=SZ.out;omega)⟩
  have HOG:=Lib.hid hoff
  have h79:∀W',New wc W'->Calls Tryz.prog 79 #[.agg #[.slice Rs ms ds,.int .u64 1]] W' _:=fun W' hn=>puthist_c (y:=1) (hc.num.lq.new hn) (F1.nb_le (k:=255) (Nat.lt_of_lt_of_le HXF.out (by decide))) (by decide)
  have H79:=Lib.hid h79
  have HC:=Lib.hid hc
  have HBW:=Lib.hid (show bs<wc.heap.size from hc.sf.bs_lt)
  clear hkk hoff h79 hc hgl a8 e6 e8
  go_upto_region 7 with fail
  go_region_held (fun w'=>w'.cell? ⟨w.heap.size,6,none⟩=some (.int .u64 (p:Int))/\w'.cell? ⟨g,0,none⟩=some (.slice Rs ms ds)/\w'.cell? ⟨g,1,none⟩=some (.int .u64 1)) (go_keep) (first
   | (go_at_call 78
      refine(keyH p hpl).mono ?_
      rintro e Wa ⟨Ak,ck,rfl,hk,hna,hat⟩
      have na:New wc Wa:=(Upd.refl _ wc).drew.trans hna
      obtain⟨d0,d1,d2⟩:=HKK.out _ _ na id id
      have HA:=Lib.hid (And.intro hk (And.intro na (fun(a:Addr) (ha:Ak=some a)=>(by have h1:=hat a ha;have h2:=HBW.out;have h3:wc.drew.heap.size=wc.heap.size:=rfl;omega:a.block≠bs))))
      clear hk hna hat na)
   | (go_at_call 79
      refine(H79.out Wa HA.out.2.1).mono ?_
      rintro e Wb ⟨Av,nv,cv,rfl,hv,hnb,hatb⟩
      have nb:New wc Wb:=HA.out.2.1.trans hnb
      obtain⟨i0,i1,i2⟩:=HKK.out _ _ nb id id
      have HBB:=Lib.hid (And.intro hv (And.intro nb (And.intro (HA.out.1.new hnb) (fun(a:Addr) (ha:Av=some a)=>(by have h1:=hatb a ha;have h2:=HBW.out;have h3:=HA.out.2.1.size;omega:a.block≠bs)))))
      clear hv hnb hatb nb)
   | (go_at_call 77
      refine(HSET.out Wb Ak ck Av nv cv (HC.out.sf.new HBB.out.2.1) HBB.out.2.2.1 HA.out.2.2 HBB.out.1 HBB.out.2.2.2).mono ?_
      rintro e Wd ⟨⟨_,rfl⟩,F',hsfd,std⟩
      have ud:Upd (fun b=>F b\/b=bs) wc Wd:=(HBB.out.2.1.mono (fun _ _ h=>h.elim)).trans std.upd
      obtain⟨k0,k1,k2⟩:=HKK.out _ _ ud (fun h=>h.elim HOG.out.1.1 HOG.out.1.2) (fun h=>h.elim HOG.out.2.1 HOG.out.2.2)
      rw[<-HS2E.out]at hsfd
      have hfree:=HFREE.out F' Wd hsfd
      have HD:=Lib.hid (And.intro hsfd (And.intro ((Step.of_new HBB.out.2.1).trans std) ud))
      clear hsfd std ud))
  clear a6 v0 v1 d0 d1 d2 i0 i1 i2 k1 k2
  go_upto_region 9 with(go_at_call 80;refine hfree.mono ?_;rintro e We ⟨rfl,F'',hsfe,ste⟩;have HE:=Lib.hid (And.intro hsfe ste);clear hfree hsfe ste)
  obtain⟨hwn,hr6,b5,b6,b7,b8,b10⟩:=H6.out
  have hkeep:∀x o,W6.heap[x]?=some o->w.heap.size<=x->We.heap[x]?=some o:=fun x o hx hge=>by
   have hlt:=(Array.getElem?_eq_some_iff.1 hx).1
   have o1:=HOF.out x hge
   have z1:=HC.out.upd.size
   have z2:=HD.out.2.2.size
   have e1:=(HC.out.upd.block x hlt o1.2).trans hx
   have e2:=(HD.out.2.2.block x (by omega) (fun h=>h.elim o1.1 o1.2)).trans e1
   have o2:¬F' x:=fun hf=>(HD.out.2.1.sub x hf).elim o1.1 (fun h=>by omega)
   exact(HE.out.2.block (by omega) o2 o1.2).trans e2
  have hsz:=SZ.out
  have c5:=hkeep _ _ b5 (Nat.le_refl _)
  have HCC:=Lib.hid (And.intro (hkeep _ _ b6 (by omega)) (And.intro (hkeep _ _ b7 (by omega)) (hkeep _ _ b10 (by omega))))
  have x6:=cell_of c5 6 _ rfl
  have z6:=frozen_of c5 6
  have d5:=setCell_at c5 (.int .u64 ((p:Int)+1)) (i:=6)
  simp only[List.setIfInBounds_toArray,List.set_cons_succ,List.set_cons_zero]at d5
  have x7:=cell_of d5 7 _ rfl
  have z7:=frozen_of d5 7
  have f5:=setCell_at d5 (.slice none 0 0) (i:=7)
  simp only[List.setIfInBounds_toArray,List.set_cons_succ,List.set_cons_zero]at f5
  have F5:=Lib.hid f5
  clear c5 d5 f5 hkeep hsz hwn hr6 b5 b6 b7 b8 b10 k0
  go_upto_region 11 with fail
  obtain⟨Wf,hWf⟩:∃Wf,Wf=(We.setCell ⟨w.heap.size,6,none⟩ (.int .u64 ((p:Int)+1))).setCell ⟨w.heap.size,7,none⟩ (.slice none 0 0):=⟨_,rfl⟩
  have f5:=F5.out
  rw[<-hWf]at f5 ⊢
  have huf:Upd (fun b=>b=w.heap.size) We Wf:=by rw[hWf];exact(Upd.setCell (S:=fun b=>b=w.heap.size) We _ rfl).trans (Upd.setCell _ _ rfl)
  obtain⟨c6,c7,c10⟩:=HCC.out
  have hsz:=SZ.out
  replace c6:=(huf.block _ (Array.getElem?_eq_some_iff.1 c6).1 (by omega)).trans c6
  replace c7:=(huf.block _ (Array.getElem?_eq_some_iff.1 c7).1 (by omega)).trans c7
  replace c10:=(huf.block _ (Array.getElem?_eq_some_iff.1 c10).1 (by omega)).trans c10
  have l0:=cell_of f5 0 _ rfl;have l1:=cell_of f5 1 _ rfl;have l2:=cell_of f5 2 _ rfl;have l3:=cell_of f5 3 _ rfl;have l4:=cell_of f5 4 _ rfl;have l5:=cell_of f5 5 _ rfl;have l6:=cell_of f5 6 _ rfl;have l7:=cell_of f5 7 _ rfl;have l8:=cell_of f5 8 _ rfl;have l9:=cell_of f5 9 _ rfl
  have m10:=cell_of c10 0 _ rfl
  obtain⟨g0,y0,g1,y1,g2,y2,g3,y3,g4,y4,g5,y5,g6,y6,g7,y7,g8,y8,g9,y9,hh,hset⟩:=put10 c6 (.int .u64 (r:Int)) (.int .u64 (t:Int)) (.slice A2 n2 c2) (.bool j) (.int .u64 (u:Int)) (.bool b) (.int .u64 ((p:Int)+1)) (.slice none 0 0) (.slice A8 n8 c8) (.slice A9 n9 c9)
  have j7:=(hset.block _ (Array.getElem?_eq_some_iff.1 c7).1 (by omega)).trans c7
  have j10:=(hset.block _ (Array.getElem?_eq_some_iff.1 c10).1 (by omega)).trans c10
  have i7:=cell_of j7 0 _ rfl
  have o7:=frozen_of j7 0
  have i10:=cell_of j10 0 _ rfl
  have hst7:=setCell_at j7 (.slice none 0 0) (i:=0)
  have hu7:=Upd.setCell (S:=fun x=>x=w.heap.size+1+1) (a:=⟨w.heap.size+1+1,0,none⟩) (((((((((((Wf.setCell ⟨w.heap.size+1,0,none⟩ (.int .u64 (r:Int))).setCell ⟨w.heap.size+1,1,none⟩ (.int .u64 (t:Int))).setCell ⟨w.heap.size+1,2,none⟩ (.slice A2 n2 c2)).setCell ⟨w.heap.size+1,3,none⟩ (.bool j)).setCell ⟨w.heap.size+1,4,none⟩ (.int .u64 (u:Int))).setCell ⟨w.heap.size+1,5,none⟩ (.bool b)).setCell ⟨w.heap.size+1,6,none⟩ (.int .u64 ((p:Int)+1))).setCell ⟨w.heap.size+1,7,none⟩ (.slice none 0 0)).setCell ⟨w.heap.size+1,8,none⟩ (.slice A8 n8 c8)).setCell ⟨w.heap.size+1,9,none⟩ (.slice A9 n9 c9))) (.slice none 0 0) rfl
  have hh2:=(hu7.block _ (Array.getElem?_eq_some_iff.1 hh).1 (by omega)).trans hh
  obtain⟨WW,hWW⟩:∃WW,WW=((((((((((Wf.setCell ⟨w.heap.size+1,0,none⟩ (.int .u64 (r:Int))).setCell ⟨w.heap.size+1,1,none⟩ (.int .u64 (t:Int))).setCell ⟨w.heap.size+1,2,none⟩ (.slice A2 n2 c2)).setCell ⟨w.heap.size+1,3,none⟩ (.bool j)).setCell ⟨w.heap.size+1,4,none⟩ (.int .u64 (u:Int))).setCell ⟨w.heap.size+1,5,none⟩ (.bool b)).setCell ⟨w.heap.size+1,6,none⟩ (.int .u64 ((p:Int)+1))).setCell ⟨w.heap.size+1,7,none⟩ (.slice none 0 0)).setCell ⟨w.heap.size+1,8,none⟩ (.slice A8 n8 c8)).setCell ⟨w.heap.size+1,9,none⟩ (.slice A9 n9 c9)).setCell ⟨w.heap.size+1+1,0,none⟩ (.slice none 0 0):=⟨_,rfl⟩
  have huw:=(huf.mono (S':=fun x=>x=w.heap.size\/x=w.heap.size+1\/x=w.heap.size+1+1) (fun _ _ e=>.inl e)).trans ((hset.mono (fun _ _ e=>.inr (.inl e))).trans (hu7.mono (fun _ _ e=>.inr (.inr e))))
  rw[<-hWW]at hh2 hst7 huw
  have q0:WW.drew.cell? _=_:=cell_of hh2 0 _ rfl;have q1:WW.drew.cell? _=_:=cell_of hh2 1 _ rfl;have q2:WW.drew.cell? _=_:=cell_of hh2 2 _ rfl;have q3:WW.drew.cell? _=_:=cell_of hh2 3 _ rfl;have q4:WW.drew.cell? _=_:=cell_of hh2 4 _ rfl;have q5:WW.drew.cell? _=_:=cell_of hh2 5 _ rfl;have q6:WW.drew.cell? _=_:=cell_of hh2 6 _ rfl;have q7:WW.drew.cell? _=_:=cell_of hh2 7 _ rfl;have q8:WW.drew.cell? _=_:=cell_of hh2 8 _ rfl;have q9:WW.drew.cell? _=_:=cell_of hh2 9 _ rfl
  have qq:WW.drew.cell? _=_:=cell_of hst7 0 _ rfl
  have QQ:=Lib.hid (And.intro q0 (And.intro q1 (And.intro q2 (And.intro q3 (And.intro q4 (And.intro q5 (And.intro q6 (And.intro q7 (And.intro q8 (And.intro q9 qq))))))))))
  have HH2:=Lib.hid (And.intro huw hWW)
  clear q0 q1 q2 q3 q4 q5 q6 q7 q8 q9 qq hh hh2 hset hu7 huw hWW hst7 j7 j10 c6 c7 c10 hsz huf f5 hWf x6 z6 x7 z7
  go_region
  all_goals go_wp2
  all_goals
   obtain⟨huw,hWW⟩:=HH2.out
   rw[<-hWW]
   obtain⟨q0,q1,q2,q3,q4,q5,q6,q7,q8,q9,qq⟩:=QQ.out
   clear g0 y0 g1 y1 g2 y2 g3 y3 g4 y4 g5 y5 g6 y6 g7 y7 g8 y8 g9 y9 i7 o7 i10 l0 l1 l2 l3 l4 l5 l6 l7 l8 l9 m10 hWW
   refine bodyPost_ret (by simp[results,Tryz.results27,go_sem,q0,q1,q2,q3,q4,q5,q6,q7,q8,q9,qq];try rfl) rfl ?_
   obtain⟨hsfe,ste⟩:=HE.out
   have z0:=H6.out.1.size
   have z1:=HC.out.upd.size
   have z2:=HD.out.2.2.size
   have z3:=ste.upd.size
   have hsz:=SZ.out
   have hof3:∀x,(x=w.heap.size\/x=w.heap.size+1\/x=w.heap.size+1+1)->¬F'' x/\x≠bs:=fun x hx=>by
    have o1:=HOF.out x (by omega)
    have o2:¬F' x:=fun hf=>(HD.out.2.1.sub x hf).elim o1.1 (fun h=>by omega)
    exact⟨fun hf=>(ste.sub x hf).elim o2 (fun h=>by omega),o1.2⟩
   refine⟨rfl,F'',?_,?_⟩
   · rw[HL2.out]
     exact(hsfe.upd_off huw (fun x hx e=>(hof3 x e).1 hx) (fun e=>(hof3 bs e).2 rfl)).new (Upd.refl _ _).drew
   · have sA:Step F F' bs w Wd:=((Step.of_new (H6.out.1)).trans (⟨fun b hb=>.inl hb,HC.out.upd.mono (fun b _ e=>.inr e)⟩:Step F F bs W6 wc)).trans HD.out.2.1
     exact((sA.trans ste).off huw (fun x e=>by omega)).off (T:=fun _=>False) ((Upd.refl _ _).drew) (fun x e=>e.elim)
end Go.Proofs.YtbhnjkegkadodaaGreatDoor

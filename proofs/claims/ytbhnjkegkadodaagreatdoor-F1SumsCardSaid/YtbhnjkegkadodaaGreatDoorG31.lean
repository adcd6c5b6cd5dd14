/- Part of the proof. -/
import Derived.Test.YtbhnjkegkadodaaGreatDoorG30
import Derived.Test.YtbhnjkegkadodaaGreatDoorG28
set_option linter.all false
set_option maxRecDepth 100000
set_option maxHeartbeats 8000000
namespace Gz
open Go Go.RowKit Go.Proofs Gl Go.Shelf
attribute [local go_sem] Oper.semAt_some
theorem kdel_f {F:Nat->Prop} {bs nk ck:Nat} {Ak:Option Addr} {w:World} {L:List Ent} {k:Bs} (h:SF F bs w L) (hL:L.length<=1000000) (hk:By w Ak nk ck k) (hkb:∀a,Ak=some a → 0<nk->a.block≠bs):
 Calls Tryz.prog 89 #[.pointer (some ⟨bs,0,none⟩),.slice Ak nk ck] w fun e w'=>(∃v,e=.returned v)/\∃F',SF F' bs w' (del L k)/\Step F F' bs w w':=by
 obtain⟨base,bm,D,A,n,c,vs,ps,h1,h2,h3,h4,h5,rfl⟩:=h;obtain⟨L,b6⟩:=zE ps.flatten;rw[<-b6]at hL ⊢;have a1:=h1.count;have b7:∀w1,Upd (fun b=>b=bs) w w1->StoB w1 bs bm->MapIn 182 251 base w1 bm D A n c vs ps/\By w1 Ak nk ck k:=fun w1 hu hs=>
  ⟨⟨h2.toMapRaw.upd hu (fun b hb e=>(h4 b (h3 b hb)).2 e),h2.good,h2.few⟩,hk.upd hu (fun a ha h0 e=>hkb a ha h0 e)⟩
 have HC:=zqH a1;have HU:=zqH b7;have b8:=zqH b6;have HL:=zqH hL;have H3:=zqH h3;have HB:=zqH h5;have H4:=zqH h4;clear a1 b7 b6 hL h1 h2 h3 hk hkb h5 h4;go_enter Tryz.func89,Tryz.ntmps89
 go_wp2_with (first
  | (go_at_call 132;refine HC.out.mono ?_;rintro e w1 ⟨⟨_,rfl⟩,b0,a7⟩;have H1:=zqH (zN b0 a7);clear b0 a7)
  | (go_at_call 133;refine(noted_c H1.out.1).mono ?_;rintro e w2 ⟨⟨_,rfl⟩,a4⟩;have a2:=H1.out.1.upd a4 id;have f4:=(zaa (Classical.choose_spec a2) 0 (.pointer (some ⟨bm,0,none⟩)) rfl);have H2:=zqH (zN a2 a4);clear a2 a4)
  | (go_at_call 142;refine(pdel_c (F:=fun b=>foot bm D A n c vs b) (base:=base) ⟨((HU.out w1 H1.out.2 H1.out.1).1).toMapRaw.upd H2.out.2 (fun _ _=>id),((HU.out w1 H1.out.2 H1.out.1).1).good,((HU.out w1 H1.out.2 H1.out.1).1).few⟩ (fun b=>id) (((HU.out w1 H1.out.2 H1.out.1).2).new H2.out.2) (by rw[<-b8.out];exact HL.out)).mono ?_;rintro e w3 ⟨r3,F',e2,rfl,a8,a6,a3,a9⟩;have H5:=zqH (zN a8 (zN a6 (zN a3 a9)));clear a8 a6 a3 a9))
 go_ret
 obtain⟨a8,a6,a3,a9⟩:=H5.out;obtain⟨b0,a7⟩:=H1.out;obtain⟨a2,a4⟩:=H2.out;obtain⟨D',A',n',c',c5,c6,d0⟩:=a8;have f6:=a2.lt;have f7:=zT a7.size a4.size;have f8:=b0.lt;have d9:=HB.out;have b9:¬foot bm D A n c vs bs:=fun h=>(H4.out bs (H3.out bs h)).2 rfl;refine⟨⟨_,rfl⟩,fun b=>foot bm D' A' n' c' c5 b,⟨base,bm,D',A',n',c',c5,e2,a2.upd a3 b9,c6,fun b=>id,fun b hb=>⟨c6.toMapRaw.foot_lt hb,fun e=>?_⟩,by have:=a3.size;omega,by rw[a9,b8.out]⟩,fun b hb=>?_,((a7.mono (fun b _ e=>.inr e)).trans (a4.mono (fun b _ h=>h.elim))).then a3 (fun b _ h=>.inl (H3.out b h))⟩
 · rcases a6 b (d0 b hb) with h|h
   · exact b9 (e▸h)
   · omega
 · rcases a6 b (d0 b hb) with h|h
   · exact .inl (H3.out b h)
   · exact .inr (by omega)
end Gz
namespace Gz
open Go Go.RowKit Go.Proofs Gl
theorem del_hist {F:Nat->Prop} {bs p:Nat} {w:World} {S:F1.Sta} (hS:Okay S) (hp:p<18446744073709551616) (h:SF F bs w (F1.ents S)) {A:Option Addr} {ck:Nat} (hk:By w A 18 ck (F1.hk p)) (hkb:∀a,A=some a->a.block≠bs):
 Calls Tryz.prog 89 #[.pointer (some ⟨bs,0,none⟩),.slice A 18 ck] w fun e w'=>(∃v,e=.returned v)/\∃F',SF F' bs w' (F1.ents { S with h:=F1.delR S.h p })/\Step F F' bs w w':=by
 have:=kdel_f h hS.len hk (fun a ha _=>hkb a ha)
 rwa [F1.del_h hS.fine hp]at this
theorem free_c {F:Nat->Prop} {bs p:Nat} {w:World} {S:F1.Sta} (hS:Okay S) (hp:p<18446744073709551616) (h:SF F bs w (F1.ents S)):
 Calls Tryz.prog 80 #[.pointer (some ⟨bs,0,none⟩),.int .u64 16,.int .u64 (p:Int)] w (StoR F bs w (F1.ents (F1.free S p))):=by
 have hh:=history_c hS hp h;have a4:=hS.hist p;have g4:=h.bs_lt;have hF:∀b,F b->b<w.heap.size:=fun b hb=>(h.lt hb).1;unfold F1.free;obtain⟨r,hr⟩:=zE ((F1.hist S p).1);obtain⟨c,hc⟩:=zE ((F1.hist S p).2);rw[<-hr,<-hc]at hh a4 ⊢;have a5:∀W A ck A2 n2 c2 y,SF F bs W (F1.ents S)->By W A 18 ck (F1.hk p) → (∀a,A=some a->a.block≠bs)->By W A2 n2 c2 (F1.encH r y) → (∀a,A2=some a->a.block≠bs)->_:=fun W A ck A2 n2 c2 y h1 h2 h3 h4 h5=>set_hist hS hp a4.1 h1 h2 h3 h4 h5;have d7:∀W A ck,SF F bs W (F1.ents S)->By W A 18 ck (F1.hk p) → (∀a,A=some a->a.block≠bs)->_:=fun W A ck h1 h2 h3=>del_hist hS hp h1 h2 h3;obtain⟨L',e4⟩:∃L',L'=F1.ents (if c=0 then S else if c=1 then { S with h:=F1.delR S.h p } else { S with h:=F1.putR S.h (p,r,c-1) }):=⟨_,rfl⟩
 rw[<-e4];have a9:=zqH e4;clear e4;have HH:=zqH hh;have e9:=zqH a5;have f2:=zqH d7;have f3:=zqH a4;have HF:=zqH hF;have HP:=zqH hp;have g6:c<18446744073709551616:=a4.2;clear hh a5 d7 a4 hr hc hS h hF hp;go_enter Tryz.func80,Tryz.ntmps80
 go_upto_region 1 with(go_at_call 58;refine HH.out.mono ?_;rintro e w1 ⟨R,m,d,rfl,a7,a1,a3⟩;have H1:=zqH (zN a7 (zN a1 a3));clear HH a7 a1 a3)
 obtain⟨a7,a1,a3⟩:=H1.out;obtain⟨W2,d5⟩:=zE (w1.alloc (.cells #[.slice R m d,.int .u64 (c:Int)] 120));rw[<-d5];have n2:New w1 W2:=by rw[d5];exact zU _ _ _
 have b2:=zX w1 (.cells #[.slice R m d,.int .u64 (c:Int)] 120);rw[<-d5]at b2;have l1:W2.cell? ⟨w1.heap.size,1,none⟩=some (.int .u64 (c:Int)):=zaa b2 1 _ rfl;have z1:=zad b2 1;have j5:=a3.size;have N2:=zqH n2;have B2:=zqH b2;have b0:=zqH (zN (a1.new n2) ((a3.trans (n2.mono (fun _ _ h=>h.elim)):Upd (fun b=>b=bs) w W2)));clear d5 n2 b2 a7 a1 a3;by_cases h0:c=0
 · subst h0;go_wp2
   go_end0
   exact⟨rfl,F,by rw[a9.out];simpa using b0.out.1,⟨fun b hb=>.inl hb,b0.out.2.mono (fun b _ e=>.inr e)⟩⟩
 · by_cases h1:c=1
   · subst h1;have f4:bs<W2.heap.size:=zqL g4 b0.out.2.size;have c5:=zqH f4
     go_wp2_with (first
      | (go_at_call 78
         refine(keyH p HP.out).mono ?_
         rintro e W4 ⟨A,ck,rfl,hk,b7,b8⟩;have H4:=zqH (zN hk (zN b7 (fun(a:Addr) (ha:A=some a)=>(by have h1:=b8 a ha;have h2:=c5.out;omega:a.block≠bs))));clear hk b7 b8)
      | (go_at_call 89
         refine(f2.out W4 A ck (b0.out.1.new H4.out.2.1) H4.out.1 H4.out.2.2).mono ?_
         rintro e W6 ⟨⟨_,rfl⟩,F',a2,a6⟩;have H6:=zqH (zN a2 a6);clear a2 a6))
     go_end0
     refine⟨rfl,F',by rw[a9.out];simpa using H6.out.1,?_⟩;have s1:Step F F bs w W4:=⟨fun b hb=>.inl hb,(b0.out.2.mono (fun b _ e=>.inr e)).trans (H4.out.2.1.mono (fun _ _ h=>h.elim))⟩
     exact s1.trans H6.out.2
   · have g7:((c:Int) == 0)=false:=(by simp;omega);have g8:((c:Int) == 1)=false:=(by simp;omega);have c6:=a9.out;rw[if_neg h0,if_neg h1]at c6;obtain⟨y,hy⟩:=zE (c-1);have f5:IntKind.u64.wrap ((c:Int)-1)=(y:Int):=(by rw[IntKind.wrap_u64];omega);have g9:y<18446744073709551616:=(by omega);rw[<-hy]at c6;clear a9;have a9:=zqH c6;clear c6;have i5:=zqH (zN h0 h1);clear h0 h1
     go_upto_region 3 with fail
     first|rw[f5]|rw[<-hy]
     obtain⟨W3,d6⟩:=zE (W2.setCell ⟨w1.heap.size,1,none⟩ (.int .u64 (y:Int)));rw[<-d6];obtain⟨a7,a1,a3⟩:=H1.out;have j7:=N2.out.size;have b3:W3.heap[w1.heap.size]?=some (.cells #[.slice R m d,.int .u64 (y:Int)] 120 (0,0)):=(by rw[d6,zac B2.out];rfl);have u3:Upd (fun b=>b=w1.heap.size) W2 W3:=(by rw[d6];exact Upd.setCell W2 _ rfl);have d8:SF F bs W3 (F1.ents S):=(a1.new N2.out).upd_off u3 (fun b hb e=>by have:=HF.out b hb;have e:b=w1.heap.size:=e;omega) (by omega);have f7:LN (Off F bs) W3 R m d r:=((a7.mono (Q':=fun b=>w.heap.size<=b/\b<w1.heap.size) (fun b hb hq=>⟨hq,hb⟩)).new N2.out |>.upd u3 (fun b hb e=>by have e:b=w1.heap.size:=e;omega)).mono (fun b _ hb=>⟨fun hf=>by have:=HF.out b hf;omega,fun e=>by omega⟩);have f8:Upd (fun b=>b=bs) w W3:=(a3.trans (N2.out.mono (fun _ _ h=>h.elim))).then u3 (fun b hb e=>by have e:b=w1.heap.size:=e;omega);have c0:W3.cell? ⟨w1.heap.size,0,none⟩=some (.slice R m d):=zaa b3 0 _ rfl;have c1:W3.cell? ⟨w1.heap.size,1,none⟩=some (.int .u64 (y:Int)):=zaa b3 1 _ rfl;have e2:=(zqA.1 b3).1;have b6:∀W T,Upd T W3 W->¬T w1.heap.size->W.cell? ⟨w1.heap.size,0,none⟩=some (.slice R m d)/\W.cell? ⟨w1.heap.size,1,none⟩=some (.int .u64 (y:Int)):=fun W T hu hT=>
      ⟨(hu.cell (a:=⟨w1.heap.size,0,none⟩) e2 hT).trans c0,(hu.cell (a:=⟨w1.heap.size,1,none⟩) e2 hT).trans c1⟩
     have e3:=zqH b6;have H3:=zqH (zN d8 (zN f7 f8));have c5:=zqH (show bs<W3.heap.size by have:=u3.size;omega);have f9:=zqH (show ¬F w1.heap.size/\¬w1.heap.size=bs from⟨fun hf=>by have:=HF.out _ hf;omega,by omega⟩);have h7:=zqH g9;clear b6 d8 f7 f8 u3 b3 e2 d6 hy f5 l1 z1 a7 a1 a3 g7 g8 g6
     go_region_held (fun w'=>w'.cell? ⟨w1.heap.size,0,none⟩=some (.slice R m d)/\w'.cell? ⟨w1.heap.size,1,none⟩=some (.int .u64 (y:Int))) (go_keep) (first
      | (go_at_call 78
         refine(keyH p HP.out).mono ?_
         rintro e W4 ⟨A,ck,rfl,hk,b7,b8⟩;have n4:New W3 W4:=(Upd.refl _ W3).drew.trans b7;obtain⟨d0,d1⟩:=e3.out _ _ n4 id;have H4:=zqH (zN hk (zN n4 (fun(a:Addr) (ha:A=some a)=>(by have h1:=b8 a ha;have h2:=c5.out;have h3:W3.drew.heap.size=W3.heap.size:=rfl;omega:a.block≠bs))));clear hk b7 b8 n4)
      | (go_at_call 79
         refine(puthist_c ((H3.out.2.1.lq).new H4.out.2.1) f3.out.1 h7.out).mono ?_
         rintro e W5 ⟨A2,n2,c2,rfl,hv,e6,d9⟩;have n5:New W3 W5:=H4.out.2.1.trans e6;obtain⟨e0,e1⟩:=e3.out _ _ n5 id;have H5:=zqH (zN hv (zN n5 (zN (H4.out.1.new e6) (fun(a:Addr) (ha:A2=some a)=>(by have h1:=d9 a ha;have h2:=c5.out;have h3:=H4.out.2.1.size;omega:a.block≠bs)))));clear hv e6 d9 n5)
      | (go_at_call 77
         have a5:=e9.out W5 A ck A2 n2 c2 y (H3.out.1.new H5.out.2.1) H5.out.2.2.1 H4.out.2.2 H5.out.1 H5.out.2.2.2;refine a5.mono ?_
         rintro e W6 ⟨⟨_,rfl⟩,F',a2,a6⟩;have u6:Upd (fun b=>F b\/b=bs) W3 W6:=(H5.out.2.1.mono (fun _ _ h=>h.elim)).trans a6.upd;obtain⟨f0,f1⟩:=e3.out _ _ u6 (fun h=>h.elim f9.out.1 f9.out.2);have H6:=zqH (zN a2 a6);clear a5 a2 a6 u6))
     all_goals go_wp2
     all_goals go_end0
     obtain⟨a2,a6⟩:=H6.out;refine⟨rfl,F',by rw[a9.out];exact a2,?_⟩;have s1:Step F F bs w W5:=⟨fun b hb=>.inl hb,(H3.out.2.2.mono (fun b _ e=>.inr e)).trans (H5.out.2.1.mono (fun _ _ h=>h.elim))⟩
     exact s1.trans a6
structure Val where
 r:Nat
 t:Nat
 A2:Option Addr
 n2:Nat
 c2:Nat
 j:Bool
 u:Nat
 b:Bool
 p:Nat
 A7:Option Addr
 n7:Nat
 c7:Nat
 A8:Option Addr
 n8:Nat
 c8:Nat
 A9:Option Addr
 n9:Nat
 c9:Nat
def Val.v (V:Val):Value:=.agg #[.int .u64 (V.r:Int),.int .u64 (V.t:Int),.slice V.A2 V.n2 V.c2,.bool V.j,.int .u64 (V.u:Int),.bool V.b,.int .u64 (V.p:Int),.slice V.A7 V.n7 V.c7,.slice V.A8 V.n8 V.c8,.slice V.A9 V.n9 V.c9]
theorem Step.block {F F':Nat->Prop} {bs:Nat} {w w':World} (s:Step F F' bs w w') {b:Nat} (hb:b<w.heap.size) (h1:¬F b) (h2:b≠bs):w'.heap[b]?=w.heap[b]?:=s.upd.block b hb (fun h=>h.elim h1 h2)
theorem SF.off_new {F:Nat->Prop} {bs:Nat} {w:World} {L:List Ent} (h:SF F bs w L) {b:Nat} (hb:w.heap.size<=b):¬F b/\b≠bs:=⟨fun hf=>by have:=(h.lt hf).1;omega,fun e=>by have:=h.bs_lt;omega⟩
theorem Step.off {F F' T:Nat->Prop} {bs:Nat} {w w1 w2:World} (s:Step F F' bs w w1) (hu:Upd T w1 w2) (hT:∀b,T b->w.heap.size<=b):Step F F' bs w w2:=⟨s.sub,s.upd.then hu (fun b hb h=>by have:=hT b h;omega)⟩
def StartR (F:Nat->Prop) (bs:Nat) (w:World) (L:List Ent) (v:Value) (e:Ending) (w':World):Prop:=e=.returned v/\∃F',SF F' bs w' L/\Step F F' bs w w'
theorem start_c {F:Nat->Prop} {bs:Nat} {w:World} {S:F1.Sta} (V:Val) (hS:Okay S) (h:SF F bs w (F1.ents S)) (hc1:(F1.hist S 0).2+1<18446744073709551616):
 Calls Tryz.prog 13 #[.pointer (some ⟨bs,0,none⟩),.int .u64 16,V.v] w (StartR F bs w (F1.ents (F1.refer S 0)) ({ V with p:=1,A7:=none,n7:=0,c7:=0 }:Val).v):=by
 obtain⟨r,t,A2,n2,c2,j,u,b,p,A7,n7,c7,A8,n8,c8,A9,n9,c9⟩:=V;unfold Val.v;simp only;rw[show((1:Nat):Int)=1 from rfl];obtain⟨W1,a6⟩:=zE (w.alloc (.cells #[.int .u64 (r:Int),.int .u64 (t:Int),.slice A2 n2 c2,.bool j,.int .u64 (u:Int),.bool b,.int .u64 (p:Int),.slice A7 n7 c7,.slice A8 n8 c8,.slice A9 n9 c9] 28));obtain⟨W2,a7⟩:=zE (W1.alloc (.cells #[.int .u64 0,.int .u64 0,.slice none 0 0,.bool false,.int .u64 0,.bool false,.int .u64 0,.slice none 0 0,.slice none 0 0,.slice none 0 0] 28));have s1:W1.heap.size=w.heap.size+1:=by rw[a6];exact zab _ _
 have s2:W2.heap.size=w.heap.size+1+1:=by rw[a7,zab,s1]
 have n1:New w W1:=by rw[a6];exact zU _ _ _
 have a8:New W1 W2:=by rw[a7];exact zU _ _ _
 have b5:=zX w (.cells #[.int .u64 (r:Int),.int .u64 (t:Int),.slice A2 n2 c2,.bool j,.int .u64 (u:Int),.bool b,.int .u64 (p:Int),.slice A7 n7 c7,.slice A8 n8 c8,.slice A9 n9 c9] 28);rw[<-a6]at b5;replace b5:=(a8.block w.heap.size (by omega) id).trans b5;have b6:=zX W1 (.cells #[.int .u64 0,.int .u64 0,.slice none 0 0,.bool false,.int .u64 0,.bool false,.int .u64 0,.slice none 0 0,.slice none 0 0,.slice none 0 0] 28);rw[<-a7,s1]at b6;have hn:=n1.trans a8;have b9:=h.new hn;have h4:=h.bs_lt;have a9:=refer_c hS (by decide:(0:Nat)<18446744073709551616) b9 hc1;obtain⟨L,hL⟩:=zE (F1.ents (F1.refer S 0));rw[<-hL]at a9 ⊢;have HR:=zqH a9;have HB:=zqH (zN b5 b6);have HN:=zqH hn;have S2:=zqH s2;have a3:=zqH (zN (h.off_new (zR _)) (h.off_new (Nat.le_succ _)));clear a9 b5 b6 n1 a8 hn s1 s2 b9 hL hS h hc1;go_enter Tryz.func13,Tryz.ntmps13
 go_upto_region 1 with fail
 rw[<-a6,<-a7];clear a6 a7
 go_upto_region 2 with(go_at_call 47;refine HR.out.mono ?_;rintro e w3 ⟨rfl,F',a2,a5⟩;have H3:=zqH (zN a2 a5);clear HR a2 a5)
 have c5:=(H3.out.2.block (b:=w.heap.size) (by have:=S2.out;omega) a3.out.1.1 a3.out.1.2).trans HB.out.1;have c6:=(H3.out.2.block (b:=w.heap.size+1) (by have:=S2.out;omega) a3.out.2.1 a3.out.2.2).trans HB.out.2;have C6:=zqH c6;have x6:=zaa c5 6 _ rfl;have z6:=zad c5 6;have d5:=zac c5 (.int .u64 1) (i:=6);simp only[List.setIfInBounds_toArray,List.set_cons_succ,List.set_cons_zero]at d5;have x7:=zaa d5 7 _ rfl;have z7:=zad d5 7;have f5:=zac d5 (.slice none 0 0) (i:=7);simp only[List.setIfInBounds_toArray,List.set_cons_succ,List.set_cons_zero]at f5;have F5:=zqH f5;clear c5 c6 d5 f5
 go_upto_region 3 with fail
 obtain⟨W4,b7⟩:=zE ((w3.setCell ⟨w.heap.size,6,none⟩ (.int .u64 1)).setCell ⟨w.heap.size,7,none⟩ (.slice none 0 0));have f5:=F5.out;rw[<-b7]at f5 ⊢;have a4:Upd (fun b=>b=w.heap.size) w3 W4:=by rw[b7];exact(Upd.setCell (S:=fun b=>b=w.heap.size) w3 _ rfl).trans (Upd.setCell _ _ rfl)
 have c6:=(a4.block (w.heap.size+1) (by have:=H3.out.2.upd.size;have:=S2.out;omega) (by omega)).trans C6.out;obtain⟨l0,l1,l2,l3,l4,l5,l6,l7,l8,l9⟩:=zqC f5;obtain⟨g0,y0,g1,y1,g2,y2,g3,y3,g4,y4,g5,y5,g6,y6,g7,y7,g8,y8,g9,y9,hh,a1⟩:=put10 c6 (.int .u64 (r:Int)) (.int .u64 (t:Int)) (.slice A2 n2 c2) (.bool j) (.int .u64 (u:Int)) (.bool b) (.int .u64 1) (.slice none 0 0) (.slice A8 n8 c8) (.slice A9 n9 c9);have HH:=zqH (zN hh (zN a1 a4));obtain⟨q0,q1,q2,q3,q4,q5,q6,q7,q8,q9⟩:=zqC hh;have QQ:=zqH (zN q0 (zN q1 (zN q2 (zN q3 (zN q4 (zN q5 (zN q6 (zN q7 (zN q8 q9)))))))));clear q0 q1 q2 q3 q4 q5 q6 q7 q8 q9 hh a1 a4 f5 c6 b7 x6 z6 x7 z7;go_wp2;obtain⟨q0,q1,q2,q3,q4,q5,q6,q7,q8,q9⟩:=QQ.out;refine bodyPost_ret (by simp[results,Tryz.results13,go_sem,q0,q1,q2,q3,q4,q5,q6,q7,q8,q9];try rfl) rfl ?_
 obtain⟨hh,a1,a4⟩:=HH.out;obtain⟨a2,a5⟩:=H3.out;have i5:=a5.upd.size;have i6:=S2.out;refine⟨rfl,F',?_,?_⟩
 · have d7:∀x,w.heap.size<=x->x<w.heap.size+2->¬F' x:=fun x h1 h2 hf=>by
    rcases a5.sub x hf with h|h
    · rcases(show x=w.heap.size\/x=w.heap.size+1 by omega) with rfl|rfl
      · exact a3.out.1.1 h
      · exact a3.out.2.1 h
    · omega
   exact(a2.upd_off a4 (fun x hx e=>by have e:x=w.heap.size:=e;exact d7 x (by omega) (by omega) hx) (fun e=>by omega)).upd_off a1 (fun x hx e=>by have e:x=w.heap.size+1:=e;exact d7 x (by omega) (by omega) hx) (fun e=>by omega)
 · have sA:Step F F' bs w w3:=(Step.of_new HN.out).trans a5;exact(sA.off a4 (fun x e=>by have e:x=w.heap.size:=e;omega)).off a1 (fun x e=>by have e:x=w.heap.size+1:=e;omega)
def delV (A1:Option Addr) (n1 c1 p:Nat) (A2:Option Addr) (n2 c2:Nat):Value:=.agg #[.slice A1 n1 c1,.int .u64 (p:Int),.slice A2 n2 c2]
def HoldR (F:Nat->Prop) (bs:Nat) (w:World) (L:List Ent) (A1:Option Addr) (n1 c1 p x:Nat) (e:Ending) (w':World):Prop:=∃R m d,e=.returned (delV A1 n1 c1 p R m d)/\∃F',SF F' bs w' L/\Step F F' bs w w'/\LN (fun b=>Off F' bs b/\w.heap.size<=b) w' R m d x
theorem hold_puts {W3 w4:World} {b6 b7 p t q r u dp nd cd n2 c2 m d n7 c7 n8 c8 n9 c9 ns cs:Nat} {j b:Bool} {A2 A7 A8 A9 Ad As R:Option Addr} (hn:New W3 w4) (h6:W3.heap[b6]?=some (.cells #[.int .u64 (r:Int),.int .u64 (t:Int),.slice A2 n2 c2,.bool j,.int .u64 (u:Int),.bool b,.int .u64 (p:Int),.slice A7 n7 c7,.slice A8 n8 c8,.slice A9 n9 c9] 28 (0,0))) (h7:W3.heap[b7]?=some (.cells #[.slice Ad nd cd,.int .u64 (dp:Int),.slice As ns cs] 55 (0,0))) (hne:b6≠b7):
 w4.cell? ⟨b7,1,none⟩=some (.int .u64 (dp:Int))/\w4.frozen? ⟨b7,1,none⟩=false/\(w4.setCell ⟨b7,1,none⟩ (.int .u64 (q:Int))).cell? ⟨b7,2,none⟩=some (.slice As ns cs)/\(w4.setCell ⟨b7,1,none⟩ (.int .u64 (q:Int))).frozen? ⟨b7,2,none⟩=false /\
 ((w4.setCell ⟨b7,1,none⟩ (.int .u64 (q:Int))).cell? ⟨b6,6,none⟩=some (.int .u64 (p:Int))/\(w4.setCell ⟨b7,1,none⟩ (.int .u64 (q:Int))).cell? ⟨b6,1,none⟩=some (.int .u64 (t:Int))/\(w4.setCell ⟨b7,1,none⟩ (.int .u64 (q:Int))).cell? ⟨b6,2,none⟩=some (.slice A2 n2 c2)/\(w4.setCell ⟨b7,1,none⟩ (.int .u64 (q:Int))).cell? ⟨b7,0,none⟩=some (.slice Ad nd cd)) /\
 (((w4.setCell ⟨b7,1,none⟩ (.int .u64 (q:Int))).setCell ⟨b7,2,none⟩ (.slice R m d)).cell? ⟨b6,6,none⟩=some (.int .u64 (p:Int))/\((w4.setCell ⟨b7,1,none⟩ (.int .u64 (q:Int))).setCell ⟨b7,2,none⟩ (.slice R m d)).cell? ⟨b6,1,none⟩=some (.int .u64 (t:Int))/\((w4.setCell ⟨b7,1,none⟩ (.int .u64 (q:Int))).setCell ⟨b7,2,none⟩ (.slice R m d)).cell? ⟨b6,2,none⟩=some (.slice A2 n2 c2)/\((w4.setCell ⟨b7,1,none⟩ (.int .u64 (q:Int))).setCell ⟨b7,2,none⟩ (.slice R m d)).cell? ⟨b7,0,none⟩=some (.slice Ad nd cd)) /\
 (((w4.setCell ⟨b7,1,none⟩ (.int .u64 (q:Int))).setCell ⟨b7,2,none⟩ (.slice R m d)).heap[b7]?=some (.cells #[.slice Ad nd cd,.int .u64 (q:Int),.slice R m d] 55 (0,0))/\Upd (fun x=>x=b7) w4 ((w4.setCell ⟨b7,1,none⟩ (.int .u64 (q:Int))).setCell ⟨b7,2,none⟩ (.slice R m d))):=by
 have k6:=(hn.block b6 (zqA.1 h6).1 id).trans h6;have k7:=(hn.block b7 (zqA.1 h7).1 id).trans h7;have s7:=zac k7 (.int .u64 (q:Int)) (i:=1);simp only[List.setIfInBounds_toArray,List.set_cons_succ,List.set_cons_zero]at s7;have s8:=zac s7 (.slice R m d) (i:=2);simp only[List.setIfInBounds_toArray,List.set_cons_succ,List.set_cons_zero]at s8;have a6:=(zam (i:=1) (w:=w4) (.int .u64 (q:Int)) hne).trans k6;have a7:=(zam (i:=2) (w:=w4.setCell ⟨b7,1,none⟩ (.int .u64 (q:Int))) (.slice R m d) hne).trans a6;exact⟨zaa k7 1 _ rfl,zad k7 1,zaa s7 2 _ rfl,zad s7 2,⟨zaa a6 6 _ rfl,zaa a6 1 _ rfl,zaa a6 2 _ rfl,zaa s7 0 _ rfl⟩,⟨zaa a7 6 _ rfl,zaa a7 1 _ rfl,zaa a7 2 _ rfl,zaa s8 0 _ rfl⟩,s8,(Upd.setCell (S:=fun x=>x=b7) w4 _ rfl).trans (Upd.setCell _ _ rfl)⟩
theorem hold_c {Q Q' F:Nat->Prop} {bs y x dp:Nat} {Ad As:Option Addr} {nd cd ns cs:Nat} {w:World} {S:F1.Sta} (V:Val) (hS:Okay S) (h:SF F bs w (F1.ents S)) (hy:LQ Q w V.A2 V.n2 V.c2 y) (hx:LQ Q' w Ad nd cd x) (hy0:0<y) (ht:V.t<18446744073709551616) (hb:x*(V.t*10 ^ 36)<Gn.B ^ 1000) (hp0:0<V.p) (hp:V.p<18446744073709551616) (hc1:(F1.hist S (V.p-1)).2+1<18446744073709551616):
 Calls Tryz.prog 25 #[.pointer (some ⟨bs,0,none⟩),.int .u64 16,V.v,delV Ad nd cd dp As ns cs] w (HoldR F bs w (F1.ents (F1.refer S (V.p-1))) Ad nd cd (V.p-1) (x*(V.t*10 ^ 36) / y)):=by
 obtain⟨r,t,A2,n2,c2,j,u,b,p,A7,n7,c7,A8,n8,c8,A9,n9,c9⟩:=V;simp only at hy ht hb hp0 hp hc1;unfold Val.v delV;simp only;obtain⟨W1,c6⟩:=zE (w.alloc (.cells #[.int .u64 (r:Int),.int .u64 (t:Int),.slice A2 n2 c2,.bool j,.int .u64 (u:Int),.bool b,.int .u64 (p:Int),.slice A7 n7 c7,.slice A8 n8 c8,.slice A9 n9 c9] 28));obtain⟨W2,d0⟩:=zE (W1.alloc (.cells #[.slice Ad nd cd,.int .u64 (dp:Int),.slice As ns cs] 55));obtain⟨W3,d5⟩:=zE (W2.alloc (.cells #[.slice none 0 0,.int .u64 0,.slice none 0 0] 55));obtain⟨hn,hs,b6,b7,b8⟩:=alloc3' c6 d0 d5;have d8:=h.new hn;have c5:=fun W' (hx':New W3 W')=>worth_c (hy.new (hn.trans hx')) (hx.new (hn.trans hx')) hy0 ht hb;obtain⟨X,hX⟩:=zE (x*(t*10 ^ 36) / y);rw[<-hX]at c5 ⊢;obtain⟨q,hq⟩:=zE (p-1);have d9:p-1=q:=hq.symm;simp only[d9]at hc1 ⊢;have HQ:=zqH hq;clear d9;have a7:=fun W' (hsf':SF F bs W' (F1.ents S))=>refer_c hS (by omega:q<18446744073709551616) hsf' hc1;obtain⟨L,hL⟩:=zE (F1.ents (F1.refer S q));rw[<-hL]at a7 ⊢;have j0:IntKind.u64.wrap ((p:Int)-1)=(q:Int):=by rw[IntKind.wrap_u64];omega
 clear hq;have HR:=zqH a7;have HW:=zqH c5;have HB:=zqH (zN b6 (zN b7 b8));have HN:=zqH hn;have S3:=zqH hs;have g7:=zqH d8;have b9:=zqH (fun b (hb:w.heap.size<=b)=>h.off_new hb);have l6:=zaa b6 6 _ rfl;have l1:=zaa b6 1 _ rfl;have l2:=zaa b6 2 _ rfl;have m0:=zaa b7 0 _ rfl;have m1:=zaa b7 1 _ rfl;have z1:=zad b7 1;have a9:w.heap.size<W3.heap.size/\w.heap.size+1<W3.heap.size:=⟨by omega,by omega⟩
 have HK:=zqH (fun W' (hx':New W3 W')=>(⟨(hx'.cell (a:=⟨w.heap.size,6,none⟩) a9.1 id).trans l6,(hx'.cell (a:=⟨w.heap.size,1,none⟩) a9.1 id).trans l1,(hx'.cell (a:=⟨w.heap.size,2,none⟩) a9.1 id).trans l2,(hx'.cell (a:=⟨w.heap.size+1,0,none⟩) a9.2 id).trans m0⟩:W'.cell? ⟨w.heap.size,6,none⟩=some (.int .u64 (p:Int))/\W'.cell? ⟨w.heap.size,1,none⟩=some (.int .u64 (t:Int))/\W'.cell? ⟨w.heap.size,2,none⟩=some (.slice A2 n2 c2)/\W'.cell? ⟨w.heap.size+1,0,none⟩=some (.slice Ad nd cd)));clear a7 c5 b6 b7 b8 hn hs d8 hX hL hS h hc1 hy hx hb a9;go_enter Tryz.func25,Tryz.ntmps25
 go_upto_region 1 with fail
 rw[<-c6,<-d0,<-d5];clear c6 d0 d5
 go_region_held (fun w'=>w'.cell? ⟨w.heap.size,6,none⟩=some (.int .u64 (p:Int))/\w'.cell? ⟨w.heap.size,1,none⟩=some (.int .u64 (t:Int))/\w'.cell? ⟨w.heap.size,2,none⟩=some (.slice A2 n2 c2)/\w'.cell? ⟨w.heap.size+1,0,none⟩=some (.slice Ad nd cd)) (go_keep) (first
  | (go_at_call 75
     refine(HW.out _ ((Upd.refl _ W3).drewN _)).mono ?_
     rintro e w4 ⟨R,m,d,rfl,b5,e9⟩;have n4:New W3 w4:=((Upd.refl _ W3).drewN _).trans e9;obtain⟨e1,e2,e3,e4⟩:=HK.out _ n4;obtain⟨x1,y1,x2,y2,⟨f1,f2,f3,f4⟩,⟨g1,g2,g3,g4⟩,a3⟩:=hold_puts (q:=q) (R:=R) (m:=m) (d:=d) n4 HB.out.1 HB.out.2.1 (by omega);have E4:=zqH (zN b5 (zN n4 a3));clear b5 e9 n4 a3))
 obtain⟨b5,n4,a3,a4⟩:=E4.out;obtain⟨W5,e8⟩:=zE ((w4.setCell ⟨w.heap.size+1,1,none⟩ (.int .u64 (q:Int))).setCell ⟨w.heap.size+1,2,none⟩ (.slice R m d));rw[<-e8]at a3 a4 ⊢;clear e8 e1 e2 e3 e4 x1 y1 x2 y2 f1 f2 f3 f4 g1 g2 g3 g4 l6 l1 l2 m0 m1 z1;have k0:=S3.out;have k2:=n4.size;have k3:=a4.size;have o7:=b9.out (w.heap.size+1) (by omega);have o8:=b9.out (w.heap.size+1+1) (by omega);have a5:SF F bs W5 (F1.ents S):=(g7.out.new n4).upd_off a4 (fun x hx e=>by have e:x=w.heap.size+1:=e;exact o7.1 (e▸hx)) (fun e=>o7.2 e.symm);have u5:New w W5:=(HN.out.trans n4).then a4 (fun x hx e=>by have e:x=w.heap.size+1:=e;omega);have b0:LN (fun x=>W3.heap.size<=x) W5 R m d X:=b5.upd a4 (fun x hx e=>by have e:x=w.heap.size+1:=e;have hx:W3.heap.size<=x:=hx;omega);have k8:=(a4.block (w.heap.size+1+1) (by omega) (by omega)).trans ((n4.block _ (by omega) id).trans HB.out.2.2);have a7:=HR.out W5 a5;have c1:=zaa a3 1 _ rfl;have H7:=zqH (zN a3 k8);have H5:=zqH (zN u5 (zN b0 a5));clear a3 k8 u5 b0 a5 a4 b5 n4
 go_upto_region 3 with(go_at_call 47;refine a7.mono ?_;rintro e w6 ⟨rfl,F',a6,a2⟩;have H6:=zqH (zN a6 a2);clear a7 a6 a2)
 have k7:=(H6.out.2.block (b:=w.heap.size+1) (by omega) o7.1 o7.2).trans H7.out.1;have k8:=(H6.out.2.block (b:=w.heap.size+1+1) (by omega) o8.1 o8.2).trans H7.out.2;have l0:=zaa k7 0 _ rfl;have l1:=zaa k7 1 _ rfl;have l2:=zaa k7 2 _ rfl;obtain⟨g0,y0,g1,y1,g2,y2,hh,a1⟩:=put3 k8 (.slice Ad nd cd) (.int .u64 (q:Int)) (.slice R m d);have HH:=zqH (zN hh a1);have q0:=zaa hh 0 _ rfl;have q1:=zaa hh 1 _ rfl;have q2:=zaa hh 2 _ rfl;have QQ:=zqH (zN q0 (zN q1 q2));clear q0 q1 q2 hh a1 k7 k8;go_wp2;obtain⟨q0,q1,q2⟩:=QQ.out;refine bodyPost_ret (by simp[results,Tryz.results25,go_sem,q0,q1,q2];try rfl) rfl ?_
 obtain⟨hh,a1⟩:=HH.out;obtain⟨a6,a2⟩:=H6.out;obtain⟨u5,b0,a5⟩:=H5.out;have k9:=a2.upd.size;have h3:¬F' (w.heap.size+1+1):=fun hf=>(a2.sub _ hf).elim o8.1 (fun h=>by omega);refine⟨R,m,d,rfl,F',a6.upd_off a1 (fun x hx e=>by have e:x=w.heap.size+1+1:=e;exact h3 (e▸hx)) (fun e=>o8.2 e.symm),((Step.of_new u5).trans a2).off a1 (fun x e=>by have e:x=w.heap.size+1+1:=e;omega),?_⟩;have h4:LN (fun x=>(Off F' bs x)/\W3.heap.size<=x) w6 R m d X:=by
  have h1:LN (Off F bs) W5 R m d X:=b0.mono (fun x _ hx=>b9.out x (by have hx:W3.heap.size<=x:=hx;omega));have h2:LN (fun x=>Off F bs x/\W3.heap.size<=x/\x<W5.heap.size) W5 R m d X:=b0.mono (fun x hxl hx=>⟨b9.out x (by have hx:W3.heap.size<=x:=hx;omega),hx,hxl⟩);exact(h2.upd a2.upd (fun x hx h=>h.elim hx.1.1 hx.1.2)).mono (fun x _ hx=>⟨⟨fun hf=>(a2.sub x hf).elim hx.1.1 (fun h=>by have:=hx.2.2;omega),hx.1.2⟩,hx.2.1⟩)
 exact(h4.upd a1 (fun x hx e=>by have e:x=w.heap.size+1+1:=e;have:=hx.2;omega)).mono (fun x _ hx=>⟨hx.1,by have:=hx.2;omega⟩)
def AL6 (W:World) (b:Nat) (w:World):Prop:=w.heap[b]?=some (.cells #[.slice none 0 0,.int .u64 0] 120 (0,0))/\W.heap.size<=b
theorem AL6.next {W w w':World} {b bs:Nat} (h:AL6 W b w) (hn:Upd (fun b=>b=bs) w w') (hb:b≠bs):AL6 W b w':=⟨(hn.block b (zqA.1 h.1).1 hb).trans h.1,h.2⟩
theorem AL6.lt {W w:World} {b:Nat} (h:AL6 W b w):b<w.heap.size:=(zqA.1 h.1).1
theorem AL6.make {W w w':World} (h:w'=w.alloc (.cells #[.slice none 0 0,.int .u64 0] 120)) (hs:W.heap.size<=w.heap.size):AL6 W w.heap.size w'/\New w w':=⟨⟨by rw[h];exact zX w _,hs⟩,by rw[h];exact zU _ _ _⟩
theorem AL6.facts {W w:World} {b b5 b8:Nat} (h:AL6 W b w) {u5 u8:Value} (e1:w.cell? ⟨b5,6,none⟩=some u5) (e2:w.cell? ⟨b8,0,none⟩=some u8) (h1:b5<W.heap.size) (h2:b8<W.heap.size) (v0 v1:Value):
 w.cell? ⟨b,0,none⟩=some (.slice none 0 0)/\w.frozen? ⟨b,0,none⟩=false/\(w.setCell ⟨b,0,none⟩ v0).cell? ⟨b,1,none⟩=some (.int .u64 0)/\(w.setCell ⟨b,0,none⟩ v0).frozen? ⟨b,1,none⟩=false /\
 (w.setCell ⟨b,0,none⟩ v0).cell? ⟨b5,6,none⟩=some u5/\(w.setCell ⟨b,0,none⟩ v0).cell? ⟨b8,0,none⟩=some u8/\((w.setCell ⟨b,0,none⟩ v0).setCell ⟨b,1,none⟩ v1).cell? ⟨b5,6,none⟩=some u5/\((w.setCell ⟨b,0,none⟩ v0).setCell ⟨b,1,none⟩ v1).cell? ⟨b8,0,none⟩=some u8 /\
 ((w.setCell ⟨b,0,none⟩ v0).setCell ⟨b,1,none⟩ v1).heap[b]?=some (.cells #[v0,v1] 120 (0,0))/\Upd (fun x=>x=b) w ((w.setCell ⟨b,0,none⟩ v0).setCell ⟨b,1,none⟩ v1):=by
 obtain⟨c0,z0,c1,z1,hh,hu⟩:=put2 h.1 v0 v1;have a1:Upd (fun x=>x=b) w (w.setCell ⟨b,0,none⟩ v0):=Upd.setCell w _ rfl;have:=h.2;exact⟨c0,z0,c1,z1,(a1.cell (a:=⟨b5,6,none⟩) (zqB w _ e1) (by show ¬b5=b;omega)).trans e1,(a1.cell (a:=⟨b8,0,none⟩) (zqB w _ e2) (by show ¬b8=b;omega)).trans e2,
  (hu.cell (a:=⟨b5,6,none⟩) (zqB w _ e1) (by show ¬b5=b;omega)).trans e1,(hu.cell (a:=⟨b8,0,none⟩) (zqB w _ e2) (by show ¬b8=b;omega)).trans e2,hh,hu⟩
structure ClA (F:Nat->Prop) (bs:Nat) (W w:World) (L:List Ent) (g:Nat) (R:Option Addr) (m d x:Nat):Prop where
 sf:SF F bs w L
 upd:Upd (fun b=>b=bs) W w
 blk:w.heap[g]?=some (.cells #[.slice R m d,.int .u64 1] 120 (0,0))
 ge:W.heap.size<=g
 num:LN (fun b=>W.heap.size<=b/\b≠g) w R m d x
theorem clA_set {F:Nat->Prop} {bs b m d x:Nat} {W w0 w8 WF:World} {L:List Ent} {R:Option Addr} (al:AL6 W b w8/\b<w0.heap.size) (h:LN (NB w0) w8 R m d x/\SF F bs w8 L/\Upd (fun b=>b=bs) W w8/\W.heap.size<=w0.heap.size) (hx:WF.heap[b]?=some (.cells #[.slice R m d,.int .u64 1] 120 (0,0))/\Upd (fun x=>x=b) w8 WF) (hF:∀y,F y->y<W.heap.size) (hbs:bs<W.heap.size):ClA F bs W WF L b R m d x:=by
 obtain⟨⟨a1,a2⟩,a3⟩:=al;obtain⟨h1,h2,h3,h4⟩:=h;exact⟨h2.upd_off hx.2 (fun y hy e=>by have:=hF y hy;have e:y=b:=e;omega) (by omega),h3.then hx.2 (fun y hy e=>by have e:y=b:=e;omega),hx.1,a2,
  (h1.upd hx.2 (fun y hy e=>by have e:y=b:=e;have hy:w0.heap.size<=y:=hy;omega)).mono (fun y _ hy=>by have hy:w0.heap.size<=y:=hy;exact⟨by omega,by omega⟩)⟩
theorem clA_new {F:Nat->Prop} {bs m d x:Nat} {W w0 w8:World} {L:List Ent} {R:Option Addr} (h:LN (NB w0) w8 R m d x/\SF F bs w8 L/\Upd (fun b=>b=bs) W w8/\W.heap.size<=w0.heap.size):ClA F bs W (w8.alloc (.cells #[.slice R m d,.int .u64 1] 120)) L w8.heap.size R m d x:=by
 obtain⟨h1,h2,h3,h4⟩:=h;have hn:New w8 (w8.alloc (.cells #[.slice R m d,.int .u64 1] 120)):=zU _ _ _;exact⟨h2.new hn,h3.trans (hn.mono (fun _ _ h=>h.elim)),zX w8 _,h3.size,((h1.mono (Q':=fun y=>w0.heap.size<=y/\y<w8.heap.size) (fun y hy hq=>⟨hq,hy⟩)).new hn).mono (fun y _ hy=>⟨by omega,by omega⟩)⟩
theorem field120 (W:World) (R:Option Addr) (m d:Nat) (c:Int):(Instr.field 120 (.agg #[.slice R m d,.int .u64 c]) 0).run Tryz.prog W=.ok (.agg #[.slice R m d]) W:=by
 simp[Instr.field,asAgg,go_sem]
def CloseR (F:Nat->Prop) (bs:Nat) (w:World) (L:List Ent) (V:Val) (out cur:Nat) (e:Ending) (w':World):Prop:=
 ∃A8 n8 c8 Ap np cp,e=.returned (.tuple #[({ V with p:=V.p+1,A7:=none,n7:=0,c7:=0,A8:=A8,n8:=n8,c8:=c8 }:Val).v,.agg #[.slice Ap np cp]])/\(0<V.t->A8=V.A8/\n8=V.n8/\c8=V.c8/\Ap=none/\np=0/\cp=0) /\
  ∃F',SF F' bs w' L/\Step F F' bs w w'/\(V.t=0->Ap=V.A7/\np=V.n7/\cp=V.c7/\LN (fun b=>Off F' bs b/\w.heap.size<=b) w' A8 n8 c8 (out-cur))
theorem close_any {Q Q' F:Nat->Prop} {bs cur out:Nat} {w:World} {S:F1.Sta} (V:Val) (hS:Okay S) (h:SF F bs w (F1.ents S)) (hcur:LQ Q w V.A7 V.n7 V.c7 cur) (hout:V.t=0->LQ Q' w V.A8 V.n8 V.c8 out) (ht:V.t<18446744073709551616) (hp0:0<V.p) (hp:V.p+1<18446744073709551616) (hb:(F1.hist S (V.p-1)).1+cur / V.t<Gn.B ^ 30) (hS2:Okay { S with h:=F1.putR S.h (V.p,(F1.hist S (V.p-1)).1+cur / V.t,1) }):
 Calls Tryz.prog 27 #[.pointer (some ⟨bs,0,none⟩),.int .u64 16,V.v] w (CloseR F bs w (F1.ents (F1.close S V.p V.t cur)) V out cur):=by
 obtain⟨r,t,A2,n2,c2,j,u,b,p,A7,n7,c7,A8,n8,c8,A9,n9,c9⟩:=V;simp only at hcur hout ht hp0 hp hb hS2;unfold CloseR Val.v;simp only;obtain⟨W1,v6⟩:=zE (w.alloc (.cells #[.int .u64 (r:Int),.int .u64 (t:Int),.slice A2 n2 c2,.bool j,.int .u64 (u:Int),.bool b,.int .u64 (p:Int),.slice A7 n7 c7,.slice A8 n8 c8,.slice A9 n9 c9] 28));obtain⟨W2,v7⟩:=zE (W1.alloc (.cells #[.int .u64 0,.int .u64 0,.slice none 0 0,.bool false,.int .u64 0,.bool false,.int .u64 0,.slice none 0 0,.slice none 0 0,.slice none 0 0] 28));obtain⟨W3,v8⟩:=zE (W2.alloc (.cells #[.slice none 0 0] 26));obtain⟨hn,hs,b5,b6,b7⟩:=alloc3' v6 v7 v8;have t4:=over_any (hcur.new hn) ht;obtain⟨ez,w5⟩:=zE (erz t);obtain⟨X,hX⟩:=zE (cur / t);rw[<-hX,<-w5]at t4;rw[<-hX]at hb hS2;obtain⟨q,hq⟩:=zE (p-1);have t5:p-1=q:=hq.symm;rw[t5]at hb hS2;obtain⟨L',w6⟩:∃L',L'=F1.ents (F1.close S p t cur):=⟨_,rfl⟩
 rw[<-w6];have z5:((p+1:Nat):Int)=(p:Int)+1:=by omega
 simp only[z5];obtain⟨S2,e7⟩:∃S2,S2=({ S with h:=F1.putR S.h (p,(F1.hist S q).1+X,1) }:F1.Sta):=⟨_,rfl⟩
 rw[<-e7]at hS2;have z8:L'=F1.ents (F1.free S2 q):=by
  rw[w6,e7];unfold F1.close;rw[t5,hX];congr 5;rcases Nat.eq_zero_or_pos t with h|h
  · subst h;simp
  · rw[if_neg (by omega)]
 have fx:IntKind.u64.wrap ((p:Int)-1)=(q:Int):=by rw[IntKind.wrap_u64];omega
 have fy:IntKind.u64.wrap ((p:Int)+1)=(p:Int)+1:=by rw[IntKind.wrap_u64];omega
 have z9:q<18446744073709551616:=by omega
 have aa:p<18446744073709551616:=by omega
 have f9:=fun W' (hsf':SF F bs W' (F1.ents S))=>history_c hS z9 hsf';obtain⟨hr,bi⟩:=zE ((F1.hist S q).1);rw[<-bi]at f9 hb e7;have a7:=fun W' A ck A2 n2 c2 (h1:SF F bs W' (F1.ents S)) h2 h3 h4 h5=>set_hist (bs:=bs) (F:=F) (w:=W') (r:=hr+X) (c:=1) (A:=A) (ck:=ck) (A2:=A2) (n2:=n2) (c2:=c2) hS aa (F1.nb_le (k:=255) (zqL hb (by decide))) h1 h2 h3 h4 h5;have ac:=zqH t4;have HH:=zqH f9;have ad:=zqH a7;have HB:=zqH (zN b5 (zN b6 b7));have HN:=zqH hn;have S3:=zqH hs;have ae:=zqH h;have t6:=zqH (fun F' W' (hsf':SF F' bs W' (F1.ents S2))=>free_c hS2 z9 hsf');have m2:=zqH (fun b (hb:w.heap.size<=b)=>h.off_new hb);have dj:=zqH z8;have af:=zqH e7;have t7:=zqH (zqL hb (@zbe 30 1000 (by omega)));have dk:=zqH hb;have e3:=zqH h.bs_lt;have l7:=zaa b5 7 _ rfl;have l1:=zaa b5 1 _ rfl;clear t4 f9 a7 b5 b6 b7 hn hs h z8 e7 hb w6 hX hq t5 bi hS hS2 ht hp0 z5;have t8:=zqH w5;have t9:=zqH (zN (hcur.new HN.out) (fun h=>(hout h).new HN.out));clear w5 hcur hout;go_enter Tryz.func27,Tryz.ntmps27
 go_upto_region 1 with fail
 rw[<-v6,<-v7,<-v8];clear v6 v7 v8;obtain⟨tb,j0⟩:∃tb,(ez != 0)=tb:=⟨_,rfl⟩
 have ag:=zqH j0
 go_upto_if 22 with(go_at_call 39;refine ac.out.mono ?_;rintro e w4 ⟨R,m,d,rfl,o0,j8⟩;have H4:=zqH (zN o0 j8);clear ac o0 j8)
 obtain⟨W5,m7⟩:=zE (w4.alloc (.cells #[.slice R m d] 26));obtain⟨U6,m9⟩:=zE (W5.alloc (.cells #[.slice none 0 0] 26));have s5:W5.heap.size=w4.heap.size+1:=by rw[m7];exact zab _ _
 rw[<-m7,<-s5,<-m9];have s6:U6.heap.size=W5.heap.size+1:=by rw[m9];exact zab _ _
 have n5:New w4 W5:=by rw[m7];exact zU _ _ _
 have n6:New W5 U6:=by rw[m9];exact zU _ _ _
 have b8:=zX w4 (.cells #[.slice R m d] 26);rw[<-m7]at b8;replace b8:=(n6.block _ (by omega) id).trans b8;have a2:=zX W5 (.cells #[.slice none 0 0] 26);rw[<-m9]at a2;obtain⟨o0,j8⟩:=H4.out;have n36:New W3 U6:=j8.trans (n5.trans n6);have b9:LN (fun x=>W3.heap.size<=x/\x<w4.heap.size) U6 R m d X:=(o0.mono (fun x hx hq=>⟨hq,hx⟩)).new (n5.trans n6);have ah:=S3.out;have ai:=j8.size;have k5:=(n36.block w.heap.size (by omega) id).trans HB.out.1;have k6:=(n36.block (w.heap.size+1) (by omega) id).trans HB.out.2.1;have k7:=(n36.block (w.heap.size+1+1) (by omega) id).trans HB.out.2.2;have H6:=zqH (zN (HN.out.trans n36) (zN b9 (zN k5 (zN k6 (zN k7 (zN b8 a2))))));have aj:=zqH n36;have SZ:=zqH (show W3.heap.size=w.heap.size+1+1+1/\W3.heap.size<=w4.heap.size/\U6.heap.size=w4.heap.size+1+1/\W5.heap.size=w4.heap.size+1 from⟨ah,ai,by omega,s5⟩);clear s5 s6 ah ai m7 m9 n5 n6 b8 a2 o0 j8 b9 k5 k6 k7 n36 H4 HB l7 l1;clear j0
 go_cut [] (fun wx=>∃(B8:Option Addr) (o8 e8:Nat) (Ap:Option Addr) (np cp:Nat),Hid (New w wx/\LN (NB W3) wx R m d X/\wx.heap[w.heap.size]?=some (.cells #[.int .u64 (r:Int),.int .u64 (t:Int),.slice A2 n2 c2,.bool j,.int .u64 (u:Int),.bool b,.int .u64 (p:Int),.slice A7 n7 c7,.slice B8 o8 e8,.slice A9 n9 c9] 28 (0,0))/\wx.heap[w.heap.size+1]?=some (.cells #[.int .u64 0,.int .u64 0,.slice none 0 0,.bool false,.int .u64 0,.bool false,.int .u64 0,.slice none 0 0,.slice none 0 0,.slice none 0 0] 28 (0,0))/\wx.heap[w.heap.size+1+1]?=some (.cells #[.slice none 0 0] 26 (0,0))/\wx.heap[w4.heap.size]?=some (.cells #[.slice R m d] 26 (0,0))/\wx.heap[W5.heap.size]?=some (.cells #[.slice Ap np cp] 26 (0,0))/\U6.heap.size<=wx.heap.size/\(0<t->B8=A8/\o8=n8/\e8=c8/\Ap=none/\np=0/\cp=0)/\(t=0->Ap=A7/\np=n7/\cp=c7/\LN (NB U6) wx B8 o8 e8 (out-cur))))
 case first=>
  obtain⟨bj,b9,k5,k6,k7,b8,a2⟩:=H6.out;by_cases h0:t=0
  · have j0:tb=true:=(by rw[<-ag.out,t8.out,h0];rfl);subst j0;have ak:=SZ.out;have x7:=zaa k5 7 _ rfl;have ga:=zaa a2 0 _ rfl;have gb:=zad a2 0;obtain⟨V1,j9⟩:=zE (U6.setCell ⟨W5.heap.size,0,none⟩ (.slice A7 n7 c7));have uv:Upd (fun x=>x=W5.heap.size) U6 V1:=(by rw[j9];exact Upd.setCell U6 _ rfl);have kv:V1.heap[W5.heap.size]?=some (.cells #[.slice A7 n7 c7] 26 (0,0)):=(by rw[j9,zac a2];rfl);have o6:=(uv.block w.heap.size (zqA.1 k5).1 (by omega)).trans k5;have x8:(U6.setCell ⟨W5.heap.size,0,none⟩ (.slice A7 n7 c7)).cell? ⟨w.heap.size,8,none⟩=some (.slice A8 n8 c8):=(by rw[<-j9];exact zaa o6 8 _ rfl);have xp:(U6.setCell ⟨W5.heap.size,0,none⟩ (.slice A7 n7 c7)).cell? ⟨W5.heap.size,0,none⟩=some (.slice A7 n7 c7):=(by rw[<-j9];exact zaa kv 0 _ rfl);have an:LQ (fun x=>x<W3.heap.size) V1 A8 n8 c8 out:=(((t9.out.2 h0).mono (fun x hx _=>hx)).new aj.out).upd uv (fun x hx e=>by omega);have ao:LQ (fun x=>x<W3.heap.size) V1 A7 n7 c7 cur:=((t9.out.1.mono (fun x hx _=>hx)).new aj.out).upd uv (fun x hx e=>by omega);have ap:=minus_any an ao;have dr:=zqH ap;have u0:=zqH (zN uv (zN kv o6));have dt:=zqH j9;have H0:=zqH h0;clear ap uv kv o6 j9 an ao ak h0
    go_wp2_with (go_at_call 61;rw[<-dt.out];refine dr.out.mono ?_;rintro e w7 ⟨R8,m8,d8,rfl,d9,e0⟩;have j1:=(e0.block w.heap.size (zqA.1 u0.out.2.2).1 id).trans u0.out.2.2;have y8:=zaa j1 8 _ rfl;have gf:=zad j1 8;have dv:=zqH (zN d9 (zN e0 j1));clear d9 e0 j1)
    go_meet
    have ak:=SZ.out;have h0:=H0.out;obtain⟨d9,e0,j1⟩:=dv.out;obtain⟨uv,kv,o6⟩:=u0.out;have j3:Upd (fun x=>x=w.heap.size) w7 (w7.setCell ⟨w.heap.size,8,none⟩ (.slice R8 m8 d8)):=Upd.setCell w7 _ rfl;have ar:=zac j1 (.slice R8 m8 d8) (i:=8);simp only[List.setIfInBounds_toArray,List.set_cons_succ,List.set_cons_zero]at ar;have gg:=uv.size;have gh:=e0.size;have gi:=j3.size;have j4:∀x o,U6.heap[x]?=some o->x≠W5.heap.size->x≠w.heap.size → (w7.setCell ⟨w.heap.size,8,none⟩ (.slice R8 m8 d8)).heap[x]?=some o:=fun x o ho h1 h2=>
     (j3.block x (by have:=(zqA.1 ho).1;omega) h2).trans ((e0.block x (by have:=(zqA.1 ho).1;omega) id).trans ((uv.block x (zqA.1 ho).1 h1).trans ho))
    have dw:New w (w7.setCell ⟨w.heap.size,8,none⟩ (.slice R8 m8 d8)):=(((bj.then uv (fun x hx e=>by have e:x=W5.heap.size:=e;omega)).trans e0)).then j3 (fun x hx e=>by have e:x=w.heap.size:=e;omega);refine⟨R8,m8,d8,A7,n7,c7,zqH ⟨dw,?_,ar,j4 _ _ k6 (by omega) (by omega),j4 _ _ k7 (by omega) (by omega),j4 _ _ b8 (by omega) (by omega),?_,by omega,fun h=>by omega,fun _=>⟨rfl,rfl,rfl,?_⟩⟩⟩
    · exact((b9.upd uv (fun x hx e=>by omega)).new e0 |>.upd j3 (fun x hx e=>by omega)).mono (fun x _ hx=>hx.1)
    · exact(j3.block _ (by omega) (by omega)).trans ((e0.block _ (by omega) id).trans kv)
    · exact(d9.upd j3 (fun x hx e=>by omega)).mono (fun x _ hx=>by show U6.heap.size<=x;omega)
  · have j0:tb=false:=(by rw[<-ag.out,t8.out,erz_pos (by omega)];rfl);subst j0;have H0:=zqH h0;clear h0;go_wp2;go_meet;exact⟨A8,n8,c8,none,0,0,zqH ⟨bj,b9.mono (fun x _ hx=>hx.1),k5,k6,k7,b8,a2,zR _,fun _=>⟨rfl,rfl,rfl,rfl,rfl,rfl⟩,fun h=>absurd h H0.out⟩⟩
 case rest=>
  obtain⟨B8,o8,e8,Ap,np,cp,bl⟩:=hcut;obtain⟨W6,bm⟩:=zE wc;subst bm;obtain⟨w9,b9,k5,k6,k7,b8,a2,x0,r1,r2⟩:=bl.out;have au:=zqH (zN w9 (zN b9 (zN k5 (zN k6 (zN k7 (zN b8 a2))))));clear H6;have H6:=au;clear au;have dx:=zqH (zN x0 (zN r1 r2));have j5:=SZ;clear SZ;have av:=j5.out.2.2.2;have e6:=zaa k5 6 _ rfl;have u5:=zaa b8 0 _ rfl;have i4:=zqH (ae.out.new w9);have hk:∀W',Upd (fun b=>b=bs) W6 W'->W'.cell? ⟨w.heap.size,6,none⟩=some (.int .u64 (p:Int))/\W'.cell? ⟨w4.heap.size,0,none⟩=some (.slice R m d):=fun W' hu=>
   ⟨(hu.cell (a:=⟨w.heap.size,6,none⟩) (zqB W6 _ e6) (by show ¬w.heap.size=bs;have:=e3.out;omega)).trans e6,(hu.cell (a:=⟨w4.heap.size,0,none⟩) (zqB W6 _ u5) (by show ¬w4.heap.size=bs;have:=e3.out;have:=j5.out;omega)).trans u5⟩
  have HK:=zqH hk;have SZ:=zqH (show W3.heap.size=w.heap.size+1+1+1/\W3.heap.size<=w4.heap.size/\w4.heap.size+1+1<=W6.heap.size/\W5.heap.size=w4.heap.size+1 from⟨j5.out.1,j5.out.2.1,by have:=j5.out.2.2.1;omega,av⟩);clear w9 b9 k5 k6 k7 b8 a2 x0 r1 r2 hk bl av ae t9 t8
  go_upto_region 6 with fail
  go_cut [11] (fun s11 wx=>∃g:Nat,s11=.pointer (some ⟨g,0,none⟩)/\Hid (∃Rs ms ds,ClA F bs W6 wx (F1.ents S) g Rs ms ds (hr+X)))
  case first=>
   go_region_held (fun w'=>w'.cell? ⟨w.heap.size,6,none⟩=some (.int .u64 (p:Int))/\w'.cell? ⟨w4.heap.size,0,none⟩=some (.slice R m d)) (go_keep) (first
    | (go_at_call 58
       obtain⟨w0,h9⟩:=zE (W6.alloc (.cells #[.slice none 0 0,.int .u64 0] 120));rw[<-h9];obtain⟨al,n0⟩:=AL6.make (W:=W6) h9 (zR _);refine(HH.out _ (i4.out.new (n0.trans (Upd.refl _ w0).drew))).mono ?_
       rintro e w7 ⟨R1,m1,d1,rfl,d9,f2,d7⟩;have u7:Upd (fun b=>b=bs) W6 w7:=((n0.trans (Upd.refl _ w0).drew).mono (fun _ _ h=>h.elim)).trans d7;obtain⟨f6,f8⟩:=HK.out _ u7;have dz:=fun W'=>field120 W' R1 m1 d1 ((F1.hist S q).2:Int);have E7:=zqH (zN (d9.lq.mono (Q':=NB W6) (fun b _ hb=>zT n0.size hb)) (zN f2 u7));have AL:=zqH (al.next (((Upd.refl (fun b=>b=bs) w0).drew).trans d7) (by have:=e3.out;have:=al.2;have:=SZ.out;omega));clear d9 f2 d7 u7 al n0 h9)
    | (go_at_call 58
       refine(HH.out _ (i4.out.new (Upd.refl _ W6).drew)).mono ?_
       rintro e w7 ⟨R1,m1,d1,rfl,d9,f2,d7⟩;have u7:Upd (fun b=>b=bs) W6 w7:=((Upd.refl _ W6).drew).trans d7;obtain⟨f6,f8⟩:=HK.out _ u7;have dz:=fun W'=>field120 W' R1 m1 d1 ((F1.hist S q).2:Int);have E7:=zqH (zN (d9.lq.mono (Q':=NB W6) (fun b _ hb=>hb)) (zN f2 u7));clear d9 f2 d7 u7)
    | (go_at_call 36
       obtain⟨w0,h9⟩:=zE (w7.alloc (.cells #[.slice none 0 0,.int .u64 0] 120));rw[<-h9];obtain⟨al,n0⟩:=AL6.make (W:=W6) h9 E7.out.2.2.size;have e5:LQ (NB W3) w7 R m d X:=(H6.out.2.1.lq).upd E7.out.2.2 (fun b hb e=>by have hb:W3.heap.size<=b:=hb;have e:b=bs:=e;have:=e3.out;have:=SZ.out;omega);refine(dadd_c (E7.out.1.new n0) (e5.new n0) t7.out).mono ?_
       rintro e w8 ⟨Rs,ms,ds,rfl,f3,a4⟩;have a3:Upd (fun b=>b=bs) W6 w8:=E7.out.2.2.trans ((n0.trans a4).mono (fun _ _ h=>h.elim));obtain⟨i6,i8⟩:=HK.out _ a3;have p0:=zqH (zN (al.next (bs:=bs) (a4.mono (fun _ _ h=>h.elim)) (by have:=e3.out;have:=al.2;have:=SZ.out;omega)) al.lt);have E8:=zqH (zN (f3.mono (Q':=NB w0) (fun b _ hb=>hb)) (zN (E7.out.2.1.new (n0.trans a4)) (zN a3 (zT E7.out.2.2.size n0.size))));obtain⟨c0,z0,c1,z1,g6,g8,x6,x8,hx⟩:=p0.out.1.facts i6 i8 (by have:=SZ.out;omega) (by have:=SZ.out;omega) (.slice Rs ms ds) (.int .u64 1);have HX:=zqH hx;clear f3 a4 a3 al n0 h9 e5 hx)
    | (go_at_call 36
       have p1:=AL;clear AL;have e5:LQ (NB W3) w7 R m d X:=(H6.out.2.1.lq).upd E7.out.2.2 (fun b hb e=>by have hb:W3.heap.size<=b:=hb;have e:b=bs:=e;have:=e3.out;have:=SZ.out;omega);refine(dadd_c E7.out.1 e5 t7.out).mono ?_
       rintro e w8 ⟨Rs,ms,ds,rfl,f3,a4⟩;have a3:Upd (fun b=>b=bs) W6 w8:=E7.out.2.2.trans (a4.mono (fun _ _ h=>h.elim));obtain⟨i6,i8⟩:=HK.out _ a3;have p0:=zqH (zN (p1.out.next (bs:=bs) (a4.mono (fun _ _ h=>h.elim)) (by have:=e3.out;have:=p1.out.2;have:=SZ.out;omega)) p1.out.lt);have E8:=zqH (zN (f3.mono (Q':=NB w7) (fun b _ hb=>hb)) (zN (E7.out.2.1.new a4) (zN a3 E7.out.2.2.size)));obtain⟨c0,z0,c1,z1,g6,g8,x6,x8,hx⟩:=p0.out.1.facts i6 i8 (by have:=SZ.out;omega) (by have:=SZ.out;omega) (.slice Rs ms ds) (.int .u64 1);have HX:=zqH hx;clear f3 a4 a3 p1 e5 hx)
    | (go_at_call 36
       have e5:LQ (NB W3) w7 R m d X:=(H6.out.2.1.lq).upd E7.out.2.2 (fun b hb e=>by have hb:W3.heap.size<=b:=hb;have e:b=bs:=e;have:=e3.out;have:=SZ.out;omega);refine(dadd_c E7.out.1 e5 t7.out).mono ?_
       rintro e w8 ⟨Rs,ms,ds,rfl,f3,a4⟩;have a3:Upd (fun b=>b=bs) W6 w8:=E7.out.2.2.trans (a4.mono (fun _ _ h=>h.elim));obtain⟨i6,i8⟩:=HK.out _ a3;have E8:=zqH (zN (f3.mono (Q':=NB w7) (fun b _ hb=>hb)) (zN (E7.out.2.1.new a4) (zN a3 E7.out.2.2.size)));obtain⟨al,n9⟩:=AL6.make (W:=W6) (w:=w8) rfl a3.size;obtain⟨p6,p8⟩:=HK.out _ (a3.trans (n9.mono (fun _ _ h=>h.elim)));obtain⟨c0,z0,c1,z1,g6,g8,x6,x8,hx⟩:=al.facts p6 p8 (by have:=SZ.out;omega) (by have:=SZ.out;omega) (.slice Rs ms ds) (.int .u64 1);have HX:=zqH (zN hx (zN al n9));clear f3 a4 a3 e5 hx al n9))
   all_goals go_wp2
   all_goals go_meet
   · exact⟨_,rfl,zqH ⟨Rs,ms,ds,clA_new E8.out⟩⟩
   all_goals exact⟨_,rfl,zqH ⟨Rs,ms,ds,clA_set p0.out E8.out HX.out (fun y hy=>(i4.out.lt hy).1) i4.out.bs_lt⟩⟩
  case rest=>
   obtain⟨g,rfl,hC⟩:=hcut;obtain⟨Rs,ms,ds,hc⟩:=hC.out;clear hC;obtain⟨a6,a8⟩:=HK.out _ hc.upd;have v0:=zaa hc.blk 0 _ rfl;have v1:=zaa hc.blk 1 _ rfl;have v2:=(zqA.1 hc.blk).1;have j4:∀W' T,Upd T wc W'->¬T w.heap.size->¬T g->W'.cell? ⟨w.heap.size,6,none⟩=some (.int .u64 (p:Int))/\W'.cell? ⟨g,0,none⟩=some (.slice Rs ms ds)/\W'.cell? ⟨g,1,none⟩=some (.int .u64 1):=fun W' T hu h1 h2=>
    ⟨(hu.cell (a:=⟨w.heap.size,6,none⟩) (zqB wc _ a6) h1).trans a6,(hu.cell (a:=⟨g,0,none⟩) v2 h2).trans v0,(hu.cell (a:=⟨g,1,none⟩) v2 h2).trans v1⟩
   have v3:=zqH j4;have r6:(¬F w.heap.size/\w.heap.size≠bs)/\(¬F g/\g≠bs):=⟨m2.out _ (zR _),m2.out _ (by have:=hc.ge;have:=SZ.out;omega)⟩
   have p5:=zqH r6;have aw:∀W',New wc W'->Calls Tryz.prog 79 #[.agg #[.slice Rs ms ds,.int .u64 1]] W' _:=fun W' hn=>puthist_c (y:=1) (hc.num.lq.new hn) (F1.nb_le (k:=255) (zqL dk.out (by decide))) (by decide);have eb:=zqH aw;have HC:=zqH hc;have ax:=zqH (show bs<wc.heap.size from hc.sf.bs_lt);clear j4 r6 aw hc v2 a8 e6 u5
   go_upto_region 7 with fail
   go_region_held (fun w'=>w'.cell? ⟨w.heap.size,6,none⟩=some (.int .u64 (p:Int))/\w'.cell? ⟨g,0,none⟩=some (.slice Rs ms ds)/\w'.cell? ⟨g,1,none⟩=some (.int .u64 1)) (go_keep) (first
    | (go_at_call 78
       refine(keyH p aa).mono ?_
       rintro e Wa ⟨Ak,ck,rfl,hk,br,bu⟩;have na:New wc Wa:=(Upd.refl _ wc).drew.trans br;obtain⟨d0,d1,d2⟩:=v3.out _ _ na id id;have HA:=zqH (zN hk (zN na (fun(a:Addr) (ha:Ak=some a)=>(by have h1:=bu a ha;have h2:=ax.out;have h3:wc.drew.heap.size=wc.heap.size:=rfl;omega:a.block≠bs))));clear hk br bu na)
    | (go_at_call 79
       refine(eb.out Wa HA.out.2.1).mono ?_
       rintro e Wb ⟨Av,nv,cv,rfl,hv,x2,t3⟩;have nb:New wc Wb:=HA.out.2.1.trans x2;obtain⟨i0,i1,i2⟩:=v3.out _ _ nb id id;have j6:=zqH (zN hv (zN nb (zN (HA.out.1.new x2) (fun(a:Addr) (ha:Av=some a)=>(by have h1:=t3 a ha;have h2:=ax.out;have h3:=HA.out.2.1.size;omega:a.block≠bs)))));clear hv x2 t3 nb)
    | (go_at_call 77
       refine(ad.out Wb Ak ck Av nv cv (HC.out.sf.new j6.out.2.1) j6.out.2.2.1 HA.out.2.2 j6.out.1 j6.out.2.2.2).mono ?_
       rintro e Wd ⟨⟨_,rfl⟩,F',i9,x4⟩;have ud:Upd (fun b=>F b\/b=bs) wc Wd:=(j6.out.2.1.mono (fun _ _ h=>h.elim)).trans x4.upd;obtain⟨k0,k1,k2⟩:=v3.out _ _ ud (fun h=>h.elim p5.out.1.1 p5.out.1.2) (fun h=>h.elim p5.out.2.1 p5.out.2.2);rw[<-af.out]at i9;have m4:=t6.out F' Wd i9;have HD:=zqH (zN i9 (zN ((Step.of_new j6.out.2.1).trans x4) ud));clear i9 x4 ud))
   clear a6 v0 v1 d0 d1 d2 i0 i1 i2 k1 k2
   go_upto_region 9 with(go_at_call 80;refine m4.mono ?_;rintro e We ⟨rfl,x5,i5,f0⟩;have HE:=zqH (zN i5 f0);clear m4 i5 f0)
   obtain⟨ey,b9,b5,b6,b7,b8,a2⟩:=H6.out;have a9:∀x o,W6.heap[x]?=some o->w.heap.size<=x->We.heap[x]?=some o:=fun x o hx hge=>by
    have eh:=(zqA.1 hx).1;have o1:=m2.out x hge;have z1:=HC.out.upd.size;have z2:=HD.out.2.2.size;have e1:=(HC.out.upd.block x eh o1.2).trans hx;have e2:=(HD.out.2.2.block x (by omega) (fun h=>h.elim o1.1 o1.2)).trans e1;have o2:¬F' x:=fun hf=>(HD.out.2.1.sub x hf).elim o1.1 (fun h=>by omega);exact(HE.out.2.block (by omega) o2 o1.2).trans e2
   have p9:=SZ.out;have c5:=a9 _ _ b5 (zR _);have ej:=zqH (zN (a9 _ _ b6 (by omega)) (zN (a9 _ _ b7 (by omega)) (a9 _ _ a2 (by omega))));have x6:=zaa c5 6 _ rfl;have z6:=zad c5 6;have d5:=zac c5 (.int .u64 ((p:Int)+1)) (i:=6);simp only[List.setIfInBounds_toArray,List.set_cons_succ,List.set_cons_zero]at d5;have x7:=zaa d5 7 _ rfl;have z7:=zad d5 7;have f5:=zac d5 (.slice none 0 0) (i:=7);simp only[List.setIfInBounds_toArray,List.set_cons_succ,List.set_cons_zero]at f5;have F5:=zqH f5;clear c5 d5 f5 a9 p9 ey b9 b5 b6 b7 b8 a2 k0
   go_upto_region 11 with fail
   obtain⟨Wf,x1⟩:=zE ((We.setCell ⟨w.heap.size,6,none⟩ (.int .u64 ((p:Int)+1))).setCell ⟨w.heap.size,7,none⟩ (.slice none 0 0));have f5:=F5.out;rw[<-x1]at f5 ⊢;have m5:Upd (fun b=>b=w.heap.size) We Wf:=by rw[x1];exact(Upd.setCell (S:=fun b=>b=w.heap.size) We _ rfl).trans (Upd.setCell _ _ rfl)
   obtain⟨c6,c7,h7⟩:=ej.out;have p9:=SZ.out;replace c6:=(m5.block _ (zqA.1 c6).1 (by omega)).trans c6;replace c7:=(m5.block _ (zqA.1 c7).1 (by omega)).trans c7;replace h7:=(m5.block _ (zqA.1 h7).1 (by omega)).trans h7;obtain⟨l0,l1,l2,l3,l4,l5,l6,l7,l8,l9⟩:=zqC f5;have em:=zaa h7 0 _ rfl;obtain⟨g0,y0,g1,y1,g2,y2,g3,y3,g4,y4,g5,y5,g6,y6,g7,y7,g8,y8,g9,y9,hh,a7⟩:=put10 c6 (.int .u64 (r:Int)) (.int .u64 (t:Int)) (.slice A2 n2 c2) (.bool j) (.int .u64 (u:Int)) (.bool b) (.int .u64 ((p:Int)+1)) (.slice none 0 0) (.slice B8 o8 e8) (.slice A9 n9 c9);have j7:=(a7.block _ (zqA.1 c7).1 (by omega)).trans c7;have bb:=(a7.block _ (zqA.1 h7).1 (by omega)).trans h7;have i7:=zaa j7 0 _ rfl;have o7:=zad j7 0;have eo:=zaa bb 0 _ rfl;have m6:=zac j7 (.slice Ap np cp) (i:=0);have d7:=Upd.setCell (S:=fun x=>x=w.heap.size+1+1) (a:=⟨w.heap.size+1+1,0,none⟩) (((((((((((Wf.setCell ⟨w.heap.size+1,0,none⟩ (.int .u64 (r:Int))).setCell ⟨w.heap.size+1,1,none⟩ (.int .u64 (t:Int))).setCell ⟨w.heap.size+1,2,none⟩ (.slice A2 n2 c2)).setCell ⟨w.heap.size+1,3,none⟩ (.bool j)).setCell ⟨w.heap.size+1,4,none⟩ (.int .u64 (u:Int))).setCell ⟨w.heap.size+1,5,none⟩ (.bool b)).setCell ⟨w.heap.size+1,6,none⟩ (.int .u64 ((p:Int)+1))).setCell ⟨w.heap.size+1,7,none⟩ (.slice none 0 0)).setCell ⟨w.heap.size+1,8,none⟩ (.slice B8 o8 e8)).setCell ⟨w.heap.size+1,9,none⟩ (.slice A9 n9 c9))) (.slice Ap np cp) rfl;have a5:=(d7.block _ (zqA.1 hh).1 (by omega)).trans hh;obtain⟨WW,k8⟩:=zE (((((((((((Wf.setCell ⟨w.heap.size+1,0,none⟩ (.int .u64 (r:Int))).setCell ⟨w.heap.size+1,1,none⟩ (.int .u64 (t:Int))).setCell ⟨w.heap.size+1,2,none⟩ (.slice A2 n2 c2)).setCell ⟨w.heap.size+1,3,none⟩ (.bool j)).setCell ⟨w.heap.size+1,4,none⟩ (.int .u64 (u:Int))).setCell ⟨w.heap.size+1,5,none⟩ (.bool b)).setCell ⟨w.heap.size+1,6,none⟩ (.int .u64 ((p:Int)+1))).setCell ⟨w.heap.size+1,7,none⟩ (.slice none 0 0)).setCell ⟨w.heap.size+1,8,none⟩ (.slice B8 o8 e8)).setCell ⟨w.heap.size+1,9,none⟩ (.slice A9 n9 c9)).setCell ⟨w.heap.size+1+1,0,none⟩ (.slice Ap np cp));have h6:=(m5.mono (S':=fun x=>x=w.heap.size\/x=w.heap.size+1\/x=w.heap.size+1+1) (fun _ _ e=>.inl e)).trans ((a7.mono (fun _ _ e=>.inr (.inl e))).trans (d7.mono (fun _ _ e=>.inr (.inr e))));rw[<-k8]at a5 m6 h6;have q0:WW.drew.cell? _=_:=zaa a5 0 _ rfl;have q1:WW.drew.cell? _=_:=zaa a5 1 _ rfl;have q2:WW.drew.cell? _=_:=zaa a5 2 _ rfl;have q3:WW.drew.cell? _=_:=zaa a5 3 _ rfl;have q4:WW.drew.cell? _=_:=zaa a5 4 _ rfl;have q5:WW.drew.cell? _=_:=zaa a5 5 _ rfl;have q6:WW.drew.cell? _=_:=zaa a5 6 _ rfl;have q7:WW.drew.cell? _=_:=zaa a5 7 _ rfl;have q8:WW.drew.cell? _=_:=zaa a5 8 _ rfl;have q9:WW.drew.cell? _=_:=zaa a5 9 _ rfl;have qq:WW.drew.cell? _=_:=zaa m6 0 _ rfl;have QQ:=zqH (zN q0 (zN q1 (zN q2 (zN q3 (zN q4 (zN q5 (zN q6 (zN q7 (zN q8 (zN q9 qq))))))))));have ep:=zqH (zN h6 k8);clear q0 q1 q2 q3 q4 q5 q6 q7 q8 q9 qq hh a5 a7 d7 h6 k8 m6 j7 bb c6 c7 h7 p9 m5 f5 x1 x6 z6 x7 z7
   go_region
   all_goals go_wp2
   all_goals
    obtain⟨h6,k8⟩:=ep.out;rw[<-k8];obtain⟨q0,q1,q2,q3,q4,q5,q6,q7,q8,q9,qq⟩:=QQ.out;clear g0 y0 g1 y1 g2 y2 g3 y3 g4 y4 g5 y5 g6 y6 g7 y7 g8 y8 g9 y9 i7 o7 eo l0 l1 l2 l3 l4 l5 l6 l7 l8 l9 em k8;refine bodyPost_ret (by simp[results,Tryz.results27,go_sem,q0,q1,q2,q3,q4,q5,q6,q7,q8,q9,qq];try rfl) rfl ?_
    obtain⟨i5,f0⟩:=HE.out;have z0:=H6.out.1.size;have z1:=HC.out.upd.size;have z2:=HD.out.2.2.size;have z3:=f0.upd.size;have p9:=SZ.out;have r8:∀x,(x=w.heap.size\/x=w.heap.size+1\/x=w.heap.size+1+1)->¬x5 x/\x≠bs:=fun x hx=>by
     have o1:=m2.out x (by omega);have o2:¬F' x:=fun hf=>(HD.out.2.1.sub x hf).elim o1.1 (fun h=>by omega);exact⟨fun hf=>(f0.sub x hf).elim o2 (fun h=>by omega),o1.2⟩
    obtain⟨x0,r1,r2⟩:=dx.out;have eu:Upd (fun x=>F x\/x=bs) W6 We:=((HC.out.upd.mono (fun x _ e=>.inr e)).trans HD.out.2.2).then f0.upd (fun x hx h=>h.elim (fun hf=>(HD.out.2.1.sub x hf).elim .inl (fun h=>by omega)) .inr);refine⟨B8,o8,e8,Ap,np,cp,rfl,r1,x5,?_,?_,fun h0=>?_⟩
    · rw[dj.out];exact(i5.upd_off h6 (fun x hx e=>(r8 x e).1 hx) (fun e=>(r8 bs e).2 rfl)).new (Upd.refl _ _).drew
    · have sA:Step F F' bs w Wd:=((Step.of_new (H6.out.1)).trans (⟨fun b hb=>.inl hb,HC.out.upd.mono (fun b _ e=>.inr e)⟩:Step F F bs W6 wc)).trans HD.out.2.1;exact((sA.trans f0).off h6 (fun x e=>by omega)).off (T:=fun _=>False) ((Upd.refl _ _).drew) (fun x e=>e.elim)
    · obtain⟨u1,u2,u3,u4⟩:=r2 h0;refine⟨u1,u2,u3,?_⟩;have hU:=j5.out.2.2.1;have hf:∀x,U6.heap.size<=x->x<W6.heap.size->¬x5 x/\x≠bs/\¬F x:=fun x g1 g2=>by
       have o1:=m2.out x (by omega);have o2:¬F' x:=fun hf=>(HD.out.2.1.sub x hf).elim o1.1 (fun h=>by omega);exact⟨fun hf=>(f0.sub x hf).elim o2 (fun h=>by omega),o1.2,o1.1⟩
      exact((((u4.mono (Q':=fun x=>U6.heap.size<=x/\x<W6.heap.size) (fun x hx hq=>⟨hq,hx⟩)).upd eu (fun x hx h=>h.elim (hf x hx.1 hx.2).2.2 (hf x hx.1 hx.2).2.1)).upd h6 (fun x hx h=>by omega)).new ((Upd.refl _ _).drew)).mono (fun x _ hx=>⟨⟨(hf x hx.1 hx.2).1,(hf x hx.1 hx.2).2.1⟩,by show w.heap.size<=x;omega⟩)
theorem close_c {Q F:Nat->Prop} {bs cur:Nat} {w:World} {S:F1.Sta} (V:Val) (hS:Okay S) (h:SF F bs w (F1.ents S)) (hcur:LQ Q w V.A7 V.n7 V.c7 cur) (ht0:0<V.t) (ht:V.t<18446744073709551616) (hp0:0<V.p) (hp:V.p+1<18446744073709551616) (hb:(F1.hist S (V.p-1)).1+cur / V.t<Gn.B ^ 30) (hS2:Okay { S with h:=F1.putR S.h (V.p,(F1.hist S (V.p-1)).1+cur / V.t,1) }):
 Calls Tryz.prog 27 #[.pointer (some ⟨bs,0,none⟩),.int .u64 16,V.v] w (StartR F bs w (F1.ents (F1.close S V.p V.t cur)) (.tuple #[({ V with p:=V.p+1,A7:=none,n7:=0,c7:=0 }:Val).v,.agg #[.slice none 0 0]])):=by
 refine(close_any (Q':=fun _=>True) (out:=0) V hS h hcur (fun h=>by omega) ht hp0 hp hb hS2).mono ?_
 rintro e w' ⟨A8,n8,c8,Ap,np,cp,rfl,h1,F',h2,h3,_⟩;obtain⟨rfl,rfl,rfl,rfl,rfl,rfl⟩:=h1 ht0;exact⟨rfl,F',h2,h3⟩
def cutAt (S:F1.Sta) (p b a:Nat):F1.Sta:={ S with c:=F1.putR S.c (p,b,a) }
theorem set_cut {F:Nat->Prop} {bs p y z:Nat} {w:World} {S:F1.Sta} (hS:Okay S) (hp:p<18446744073709551616) (h:SF F bs w (F1.ents S)) {A A2:Option Addr} {ck n2 c2:Nat} (hk:By w A 18 ck (F1.ck p)) (hkb:∀a,A=some a->a.block≠bs) (hv:By w A2 n2 c2 (F1.encC y z)) (hvb:∀a,A2=some a->a.block≠bs):
 Calls Tryz.prog 77 #[.pointer (some ⟨bs,0,none⟩),.slice A 18 ck,.slice A2 n2 c2] w fun e w'=>(∃v,e=.returned v)/\∃F',SF F' bs w' (F1.ents (cutAt S p y z))/\Step F F' bs w w':=by
 have hn:n2=16:=by have:=hv.len;simp[F1.encC,zah]at this;omega
 refine(kset_f h hS.len hk (fun a ha _=>hkb a ha) hv (fun a ha _=>hvb a ha) (by decide) (by decide) (by omega)).mono ?_
 rintro e w' ⟨he,F',h1,h2⟩;rw[F1.put_c hS.fine hp]at h1;exact⟨he,F',h1,h2⟩
theorem cut_c {F:Nat->Prop} {bs a:Nat} {w:World} {S:F1.Sta} (V:Val) (hS:Okay S) (h:SF F bs w (F1.ents S)) (hp0:0<V.p) (hp:V.p<18446744073709551616) (ht:V.t<18446744073709551616) (ha:a<18446744073709551616) (hS2:Okay (cutAt S (V.p-1) V.t a)) (hc1:(F1.hist S (V.p-1)).2+1<18446744073709551616):
 Calls Tryz.prog 43 #[.pointer (some ⟨bs,0,none⟩),.int .u64 16,V.v,.int .u64 (a:Int)] w (StartR F bs w (F1.ents (F1.refer (cutAt S (V.p-1) V.t a) (V.p-1))) ({ V with t:=a }:Val).v):=by
 obtain⟨r,t,A2,n2,c2,j,u,b,p,A7,n7,c7,A8,n8,c8,A9,n9,c9⟩:=V;simp only at hp0 hp ht hS2 hc1;unfold Val.v;simp only;obtain⟨q,hq⟩:=zE (p-1);have e5:p-1=q:=hq.symm;simp only[e5]at hS2 hc1 ⊢;have a7:q<18446744073709551616:=by omega
 have j4:IntKind.u64.wrap ((p:Int)-1)=(q:Int):=by rw[IntKind.wrap_u64];omega
 obtain⟨W1,a4⟩:=zE (w.alloc (.cells #[.int .u64 (r:Int),.int .u64 (t:Int),.slice A2 n2 c2,.bool j,.int .u64 (u:Int),.bool b,.int .u64 (p:Int),.slice A7 n7 c7,.slice A8 n8 c8,.slice A9 n9 c9] 28));obtain⟨W2,a6⟩:=zE (W1.alloc (.cells #[.int .u64 0,.int .u64 0,.slice none 0 0,.bool false,.int .u64 0,.bool false,.int .u64 0,.slice none 0 0,.slice none 0 0,.slice none 0 0] 28));have s1:W1.heap.size=w.heap.size+1:=by rw[a4];exact zab _ _
 have s2:W2.heap.size=w.heap.size+1+1:=by rw[a6,zab,s1]
 have n1:New w W1:=by rw[a4];exact zU _ _ _
 have b8:New W1 W2:=by rw[a6];exact zU _ _ _
 have b5:=zX w (.cells #[.int .u64 (r:Int),.int .u64 (t:Int),.slice A2 n2 c2,.bool j,.int .u64 (u:Int),.bool b,.int .u64 (p:Int),.slice A7 n7 c7,.slice A8 n8 c8,.slice A9 n9 c9] 28);rw[<-a4]at b5;replace b5:=(b8.block w.heap.size (by omega) id).trans b5;have b6:=zX W1 (.cells #[.int .u64 0,.int .u64 0,.slice none 0 0,.bool false,.int .u64 0,.bool false,.int .u64 0,.slice none 0 0,.slice none 0 0,.slice none 0 0] 28);rw[<-a6,s1]at b6;have hn:=n1.trans b8;have e6:=h.new hn;have j7:=h.bs_lt;have a1:=fun W A ck A2 n2 c2 h1 h2 h3 h4 h5=>set_cut (F:=F) (bs:=bs) (p:=q) (y:=t) (z:=a) (w:=W) (A:=A) (A2:=A2) (ck:=ck) (n2:=n2) (c2:=c2) hS a7 h1 h2 h3 h4 h5;have d5:=fun F' W' (h':SF F' bs W' (F1.ents (cutAt S q t a)))=>refer_c hS2 a7 h' hc1;obtain⟨L,hL⟩:=zE (F1.ents (F1.refer (cutAt S q t a) q));rw[<-hL]at d5 ⊢;have HR:=zqH d5;have j8:=zqH a1;have HB:=zqH (zN b5 b6);have HN:=zqH hn;have S2:=zqH s2;have j9:=zqH e6;have d6:=zqH (zN a7 (zN ht ha));have e7:=zqH (show bs<W2.heap.size by omega);have a2:=zqH (zN (h.off_new (zR _)) (h.off_new (Nat.le_succ _)));have l6:=zaa b5 6 _ rfl;have l1:=zaa b5 1 _ rfl;have d7:w.heap.size<W2.heap.size:=by omega
 have HK:=zqH (fun W' (T:Nat->Prop) (hx':Upd T W2 W') (hT:¬T w.heap.size)=>(⟨(hx'.cell (a:=⟨w.heap.size,6,none⟩) d7 hT).trans l6,(hx'.cell (a:=⟨w.heap.size,1,none⟩) d7 hT).trans l1⟩:W'.cell? ⟨w.heap.size,6,none⟩=some (.int .u64 (p:Int))/\W'.cell? ⟨w.heap.size,1,none⟩=some (.int .u64 (t:Int))));clear d5 a1 b5 b6 n1 b8 hn s1 s2 e6 hL hS h hc1 hS2 hq e5 a7 ht ha d7 j7;go_enter Tryz.func43,Tryz.ntmps43
 go_upto_region 1 with fail
 rw[<-a4,<-a6];clear a4 a6
 go_region_held (fun w'=>w'.cell? ⟨w.heap.size,6,none⟩=some (.int .u64 (p:Int))/\w'.cell? ⟨w.heap.size,1,none⟩=some (.int .u64 (t:Int))) (go_keep) (first
  | (go_at_call 78
     refine(keyC q d6.out.1).mono ?_
     rintro e w3 ⟨A,ck,rfl,hk,f4,f6⟩;have n3:New W2 w3:=(Upd.refl _ W2).drew.trans f4;obtain⟨d0,d1⟩:=HK.out _ _ n3 id;have H3:=zqH (zN hk (zN n3 (fun(a:Addr) (ha:A=some a)=>(by have h1:=f6 a ha;have h2:=e7.out;have h3:W2.drew.heap.size=W2.heap.size:=rfl;omega:a.block≠bs))));clear hk f4 f6 n3)
  | (go_at_call 91
     refine(putcut_c d6.out.2.1 d6.out.2.2).mono ?_
     rintro e w4 ⟨A',n',c',rfl,hv,e3,a9⟩;have n4:New W2 w4:=H3.out.2.1.trans e3;obtain⟨e0,e1⟩:=HK.out _ _ n4 id;have H4:=zqH (zN hv (zN n4 (zN (H3.out.1.new e3) (fun(a:Addr) (ha:A'=some a)=>(by have h1:=a9 a ha;have h2:=e7.out;have h3:=H3.out.2.1.size;omega:a.block≠bs)))));clear hv e3 a9 n4)
  | (go_at_call 77
     refine(j8.out w4 A ck A' n' c' (j9.out.new H4.out.2.1) H4.out.2.2.1 H3.out.2.2 H4.out.1 H4.out.2.2.2).mono ?_
     rintro e w5 ⟨⟨_,rfl⟩,F5,b0,a8⟩;have u5:Upd (fun b=>F b\/b=bs) W2 w5:=(H4.out.2.1.mono (fun _ _ h=>h.elim)).trans a8.upd;obtain⟨f0,f1⟩:=HK.out _ _ u5 (fun h=>h.elim a2.out.1.1 a2.out.1.2);have H5:=zqH (zN b0 (zN a8 ((Step.of_new (F:=F) (bs:=bs) H4.out.2.1).trans a8)));clear b0 a8 u5))
 go_upto_region 3 with(go_at_call 47;refine(HR.out F5 w5 H5.out.1).mono ?_;rintro e w6 ⟨rfl,F',b7,f8⟩;have H6:=zqH (zN b7 (H5.out.2.2.trans f8));clear HR b7 f8)
 clear d0 d1 e0 e1 f0 f1 l6 l1 j4;have c5:=(H6.out.2.block (b:=w.heap.size) (by have:=S2.out;omega) a2.out.1.1 a2.out.1.2).trans HB.out.1;have c6:=(H6.out.2.block (b:=w.heap.size+1) (by have:=S2.out;omega) a2.out.2.1 a2.out.2.2).trans HB.out.2;have C6:=zqH c6;have x1:=zaa c5 1 _ rfl;have z1:=zad c5 1;have f5:=zac c5 (.int .u64 (a:Int)) (i:=1);simp only[List.setIfInBounds_toArray,List.set_cons_succ,List.set_cons_zero]at f5;have k5:=zqH f5;clear c5 c6 f5
 go_upto_region 4 with fail
 obtain⟨W4,d9⟩:=zE (w6.setCell ⟨w.heap.size,1,none⟩ (.int .u64 (a:Int)));have f5:=k5.out;rw[<-d9]at f5 ⊢;have a3:Upd (fun b=>b=w.heap.size) w6 W4:=by rw[d9];exact Upd.setCell (S:=fun b=>b=w.heap.size) w6 _ rfl
 have c6:=(a3.block (w.heap.size+1) (by have:=H6.out.2.upd.size;have:=S2.out;omega) (by omega)).trans C6.out;obtain⟨l0,l1,l2,l3,l4,l5,l6,l7,l8,l9⟩:=zqC f5;obtain⟨g0,y0,g1,y1,g2,y2,g3,y3,g4,y4,g5,y5,g6,y6,g7,y7,g8,y8,g9,y9,hh,a1⟩:=put10 c6 (.int .u64 (r:Int)) (.int .u64 (a:Int)) (.slice A2 n2 c2) (.bool j) (.int .u64 (u:Int)) (.bool b) (.int .u64 (p:Int)) (.slice A7 n7 c7) (.slice A8 n8 c8) (.slice A9 n9 c9);have HH:=zqH (zN hh (zN a1 a3));obtain⟨q0,q1,q2,q3,q4,q5,q6,q7,q8,q9⟩:=zqC hh;have QQ:=zqH (zN q0 (zN q1 (zN q2 (zN q3 (zN q4 (zN q5 (zN q6 (zN q7 (zN q8 q9)))))))));clear q0 q1 q2 q3 q4 q5 q6 q7 q8 q9 hh a1 a3 f5 c6 d9 x1 z1;go_wp2;obtain⟨q0,q1,q2,q3,q4,q5,q6,q7,q8,q9⟩:=QQ.out;refine bodyPost_ret (by simp[results,Tryz.results43,go_sem,q0,q1,q2,q3,q4,q5,q6,q7,q8,q9];try rfl) rfl ?_
 obtain⟨hh,a1,a3⟩:=HH.out;obtain⟨f3,e2⟩:=H6.out;have sA:Step F F' bs w w6:=(Step.of_new HN.out).trans e2;have o1:=e2.upd.size;have o2:=S2.out;refine⟨rfl,F',?_,?_⟩
 · have e9:∀x,w.heap.size<=x->x<w.heap.size+2->¬F' x:=fun x h1 h2 hf=>by
    rcases e2.sub x hf with h|h
    · rcases(show x=w.heap.size\/x=w.heap.size+1 by omega) with rfl|rfl
      · exact a2.out.1.1 h
      · exact a2.out.2.1 h
    · omega
   exact(f3.upd_off a3 (fun x hx e=>by have e:x=w.heap.size:=e;exact e9 x (by omega) (by omega) hx) (fun e=>a2.out.1.2 (show bs=_ from e).symm)).upd_off a1 (fun x hx e=>by have e:x=w.heap.size+1:=e;exact e9 x (by omega) (by omega) hx) (fun e=>a2.out.2.2 (show bs=_ from e).symm)
 · exact(sA.off a3 (fun x e=>by have e:x=w.heap.size:=e;omega)).off a1 (fun x e=>by have e:x=w.heap.size+1:=e;omega)
end Gz

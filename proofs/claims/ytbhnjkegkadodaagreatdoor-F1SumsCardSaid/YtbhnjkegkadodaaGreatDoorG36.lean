/- Part of the proof. -/
import Derived.Test.YtbhnjkegkadodaaGreatDoorG35
set_option linter.all false
set_option maxRecDepth 100000
set_option maxHeartbeats 8000000
namespace Gz
open Go Go.RowKit Go.Proofs Gl
attribute [local go_sem] Oper.semAt_some
theorem claim_c {F:Nat->Prop} {bs y dp:Nat} {Ad As:Option Addr} {nd cd ns cs:Nat} {w:World} {S:F1.Sta} {C:List F1.Rec} {s0 s1:F1.Clm} (V:Val) (hS:Okay S) (h:SF F bs w (F1.ents S)) (hy:LQ (fun b=>b≠bs) w As ns cs y) (hp0:0<V.p) (hp:V.p<18446744073709551616) (hdp:dp+1<18446744073709551616)
 (hcv:∀x ∈ S.c,x.1<18446744073709551616/\x.1<=V.p-1/\x.2.1<18446744073709551616/\x.2.2<18446744073709551616) (hC:C=S.c.filter (fun x=>decide (dp<x.1))) (hs0:s0=⟨0,y,(F1.hist S dp).1,0⟩) (hs1:s1=C.foldl (F1.cutS S) s0) (hok:F1.RunOk (Gn.B ^ 1000) S (V.p-1) C s0):
 Calls Tryz.prog 19 #[.pointer (some ⟨bs,0,none⟩),.int .u64 16,V.v,delV Ad nd cd dp As ns cs] w (ClaimR F bs w (F1.ents S) (F1.earn S (V.p-1) s1).x (s1.k:Int)):=by
 obtain⟨r,t,A2,n2,c2,j,u,b,p,A7,n7,c7,A8,n8,c8,A9,n9,c9⟩:=V;simp only at hp0 hp hcv hok;unfold Val.v delV;simp only;obtain⟨W3,t4⟩:=zE (((w.alloc (.cells #[.pointer (some ⟨bs,0,none⟩)] 34)).alloc (.cells #[.int .u64 16] 22)).alloc (.cells #[.int .u64 (r:Int),.int .u64 (t:Int),.slice A2 n2 c2,.bool j,.int .u64 (u:Int),.bool b,.int .u64 (p:Int),.slice A7 n7 c7,.slice A8 n8 c8,.slice A9 n9 c9] 28));obtain⟨q5,z5,k0,k1,k2⟩:=alloc3' rfl rfl t4;obtain⟨W6,t5⟩:=zE (((W3.alloc (.cells #[.slice Ad nd cd,.int .u64 (dp:Int),.slice As ns cs] 55)).alloc (.cells #[.slice none 0 0] 26)).alloc (.cells #[.slice none 0 0] 26));obtain⟨k9,t6,k3,k4,k5⟩:=alloc3' rfl rfl t5;replace k0:=(k9.block w.heap.size (by omega) id).trans k0;replace k1:=(k9.block (w.heap.size+1) (by omega) id).trans k1;replace k2:=(k9.block (w.heap.size+1+1) (by omega) id).trans k2;rw[z5]at k3 k4 k5 t6;have hn:=q5.trans k9;obtain⟨q,hq⟩:=zE (p-1);have s9:p-1=q:=hq.symm;rw[s9]at hcv hok ⊢;have fc:IntKind.u64.wrap ((p:Int)-1)=(q:Int):=by rw[IntKind.wrap_u64];omega
 have ba:q<18446744073709551616:=by omega
 have bb:dp<18446744073709551616:=by omega
 have v3:=zqH (h.new hn);have bc:=zqH (fun W' (hsf:SF F bs W' (F1.ents S))=>history_c hS bb hsf);have v5:∀e ∈ F1.ents S,e.1.length<=1073741824/\e.2.length<=1073741824:=fun e he=>⟨by
  unfold F1.ents at he;rcases List.mem_append.1 he with he|he<;>obtain⟨x,_,rfl⟩:=List.mem_map.1 he
  · show(F1.hk x.1).length<=_;simp[F1.hk,zah]
  · show(F1.ck x.1).length<=_;simp[F1.ck,zah],hS.val e he⟩
 have v6:=zqH hcv;have o4:=zqH hS;have v7:=zqH hok;have bd:=zqH v5;have HC:=zqH hC;have v8:=zqH hs0;have v9:=zqH hs1;have w0:=zqH (zN s9 (zN ba hdp));have HK:=zqH (zN k0 (zN k1 (zN k2 (zN k3 (zN k4 k5)))));have HN:=zqH hn;have w5:=zqH t6;have b9:=zqH (fun b (hb:w.heap.size<=b)=>h.off_new hb);have HY:=zqH ((hy.mono (Q':=fun b=>b≠bs/\b<w.heap.size) (fun b hb hq=>⟨hq,hb⟩)).new hn);have i5:=zqH h.bs_lt;have b0:=zaa k2 6 _ rfl;have b5:=zaa k3 2 _ rfl;clear k0 k1 k2 k3 k4 k5 hn t6 q5 z5 k9 hS h hy hq s9 hcv hok v5 hC hs0 hs1;refine(callsIn_wide (n:=0)).1 ?_
 refine callsIn_of_wp_marks Tryz.func19 rfl trivial ?_ rfl;simp only[Tryz.ntmps19,List.size_toArray,List.length_cons,List.length_nil,Nat.reduceAdd,Nat.reduceSub,Array.replicate_succ,Array.replicate_zero,List.push_toArray,List.append_toArray,List.nil_append,List.cons_append];refine wpIn_mono (Q:=noPanic _) ?_ (fun e a w h=>noPanic_of h)
 refine(wpIn_wide (n:=0)).2 ?_
 go_upto_region 2 with fail
 rw[<-t4,<-t5];clear t4 t5
 go_cut [11,12,13] from 18 to 22 (fun s11 s12 s13 wx=>∃a3 a5:Nat,s11=.pointer (some ⟨a3,0,none⟩)/\s12=.int .u64 (q:Int)/\s13=.pointer (some ⟨a5,0,none⟩)/\Hid (wx.heap[a3]?=some (.cells #[.slice As ns cs] 26 (0,0))/\wx.heap[a5]?=some (.cells #[.int .i64 0] 3 (0,0))/\a3≠a5/\W6.heap.size<=a3/\W6.heap.size<=a5/\New W6 wx))
 case first=>
  have fe:(W6.alloc (.cells #[.slice none 0 0] 26)).cell? ⟨w.heap.size+1+1,6,none⟩=some (.int .u64 (p:Int)):=((zU (fun _=>False) _ _).cell (a:=⟨w.heap.size+1+1,6,none⟩) (zqB W6 _ b0) id).trans b0;have ff:(W6.alloc (.cells #[.slice none 0 0] 26)).cell? ⟨w.heap.size+1+1+1,2,none⟩=some (.slice As ns cs):=((zU (fun _=>False) _ _).cell (a:=⟨w.heap.size+1+1+1,2,none⟩) (zqB W6 _ b5) id).trans b5;have fh:(W6.alloc (.cells #[.slice As ns cs] 26)).cell? ⟨w.heap.size+1+1,6,none⟩=some (.int .u64 (p:Int)):=((zU (fun _=>False) _ _).cell (a:=⟨w.heap.size+1+1,6,none⟩) (zqB W6 _ b0) id).trans b0;have fi:(W6.alloc (.cells #[.slice As ns cs] 26)).cell? ⟨w.heap.size+1+1+1,2,none⟩=some (.slice As ns cs):=((zU (fun _=>False) _ _).cell (a:=⟨w.heap.size+1+1+1,2,none⟩) (zqB W6 _ b5) id).trans b5;have fj:(W6.alloc (.cells #[.int .i64 0] 3)).cell? ⟨w.heap.size+1+1,6,none⟩=some (.int .u64 (p:Int)):=((zU (fun _=>False) _ _).cell (a:=⟨w.heap.size+1+1,6,none⟩) (zqB W6 _ b0) id).trans b0;have fk:(W6.alloc (.cells #[.int .i64 0] 3)).cell? ⟨w.heap.size+1+1+1,2,none⟩=some (.slice As ns cs):=((zU (fun _=>False) _ _).cell (a:=⟨w.heap.size+1+1+1,2,none⟩) (zqB W6 _ b5) id).trans b5;have fl:((W6.alloc (.cells #[.slice none 0 0] 26)).alloc (.cells #[.int .i64 0] 3)).cell? ⟨w.heap.size+1+1,6,none⟩=some (.int .u64 (p:Int)):=(((zU (fun _=>False) _ _).trans (zU _ _ _)).cell (a:=⟨w.heap.size+1+1,6,none⟩) (zqB W6 _ b0) id).trans b0;have fm:((W6.alloc (.cells #[.slice none 0 0] 26)).alloc (.cells #[.int .i64 0] 3)).cell? ⟨w.heap.size+1+1+1,2,none⟩=some (.slice As ns cs):=(((zU (fun _=>False) _ _).trans (zU _ _ _)).cell (a:=⟨w.heap.size+1+1+1,2,none⟩) (zqB W6 _ b5) id).trans b5;have fo:((W6.alloc (.cells #[.slice As ns cs] 26)).alloc (.cells #[.int .i64 0] 3)).cell? ⟨w.heap.size+1+1,6,none⟩=some (.int .u64 (p:Int)):=(((zU (fun _=>False) _ _).trans (zU _ _ _)).cell (a:=⟨w.heap.size+1+1,6,none⟩) (zqB W6 _ b0) id).trans b0;have fq:((W6.alloc (.cells #[.slice As ns cs] 26)).alloc (.cells #[.int .i64 0] 3)).cell? ⟨w.heap.size+1+1+1,2,none⟩=some (.slice As ns cs):=(((zU (fun _=>False) _ _).trans (zU _ _ _)).cell (a:=⟨w.heap.size+1+1+1,2,none⟩) (zqB W6 _ b5) id).trans b5;have fs:((W6.alloc (.cells #[.int .i64 0] 3)).alloc (.cells #[.slice none 0 0] 26)).cell? ⟨w.heap.size+1+1,6,none⟩=some (.int .u64 (p:Int)):=(((zU (fun _=>False) _ _).trans (zU _ _ _)).cell (a:=⟨w.heap.size+1+1,6,none⟩) (zqB W6 _ b0) id).trans b0;have ft:((W6.alloc (.cells #[.int .i64 0] 3)).alloc (.cells #[.slice none 0 0] 26)).cell? ⟨w.heap.size+1+1+1,2,none⟩=some (.slice As ns cs):=(((zU (fun _=>False) _ _).trans (zU _ _ _)).cell (a:=⟨w.heap.size+1+1+1,2,none⟩) (zqB W6 _ b5) id).trans b5;have fu:((W6.alloc (.cells #[.int .i64 0] 3)).alloc (.cells #[.slice As ns cs] 26)).cell? ⟨w.heap.size+1+1,6,none⟩=some (.int .u64 (p:Int)):=(((zU (fun _=>False) _ _).trans (zU _ _ _)).cell (a:=⟨w.heap.size+1+1,6,none⟩) (zqB W6 _ b0) id).trans b0;have fv:((W6.alloc (.cells #[.int .i64 0] 3)).alloc (.cells #[.slice As ns cs] 26)).cell? ⟨w.heap.size+1+1+1,2,none⟩=some (.slice As ns cs):=(((zU (fun _=>False) _ _).trans (zU _ _ _)).cell (a:=⟨w.heap.size+1+1+1,2,none⟩) (zqB W6 _ b5) id).trans b5
  go_region
  all_goals go_wp2
  all_goals go_meet
  · have e1:(W6.alloc (.cells #[.slice As ns cs] 26)).heap.size=W6.heap.size+1:=zab _ _;have g1:=zX W6 (.cells #[.slice As ns cs] 26);have g2:=zX (W6.alloc (.cells #[.slice As ns cs] 26)) (.cells #[.int .i64 0] 3);rw[e1]at g2;exact⟨W6.heap.size,W6.heap.size+1,rfl,rfl,rfl,zqH ⟨(zaj _ (by rw[e1];omega)).trans g1,g2,by omega,zR _,by omega,((zU _ _ _).trans (zU _ _ _)).drew⟩⟩
  · have e1:(W6.alloc (.cells #[.int .i64 0] 3)).heap.size=W6.heap.size+1:=zab _ _;have g1:=zX W6 (.cells #[.int .i64 0] 3);have g2:=zX (W6.alloc (.cells #[.int .i64 0] 3)) (.cells #[.slice As ns cs] 26);rw[e1]at g2;exact⟨W6.heap.size+1,W6.heap.size,rfl,rfl,rfl,zqH ⟨g2,(zaj _ (by rw[e1];omega)).trans g1,by omega,by omega,zR _,((zU _ _ _).trans (zU _ _ _)).drew⟩⟩
 case rest=>
  obtain⟨a3,a5,rfl,rfl,rfl,t7⟩:=hcut;have kc:=t7.out.2.2.2.2.2;have bf:=zaa ((kc.block _ (zqA.1 HK.out.1).1 id).trans HK.out.1) 0 _ rfl;have bh:=zaa ((kc.block _ (zqA.1 HK.out.2.1).1 id).trans HK.out.2.1) 0 _ rfl;have bi:=zaa ((kc.block _ (zqA.1 HK.out.2.2.2.1).1 id).trans HK.out.2.2.2.1) 1 _ rfl;have o5:=fun W' R m d=>field120 W' R m d ((F1.hist S dp).2:Int);have w6:=zqH (bc.out wc (v3.out.new kc));clear kc b0 b5 v3
  go_upto_region 4 with(go_at_call 58;refine w6.out.mono ?_;rintro e w1 ⟨Re,me,de,rfl,l9,f3,a6⟩;have H1:=zqH (zN l9 (zN f3 a6));clear w6 l9 f3 a6)
  obtain⟨a2,d5⟩:=zE w1.heap.size;obtain⟨W7,l4⟩:=zE (w1.alloc (.cells #[.slice Re me de] 26));have s7:W7.heap.size=a2+1:=by rw[l4,d5];exact zab _ _
  have n7:New w1 W7:=by rw[l4];exact zU _ _ _
  have f7:=zX w1 (.cells #[.slice Re me de] 26);rw[<-l4,<-d5]at f7;rw[<-l4,<-d5];have HA:=zqH (zN d5 (zN s7 (zN n7 f7)));clear l4 s7 n7 f7 d5;have a7:∀m,(store ⟨W7.heap.size,0,none⟩ (.func (.func 59) #[] #[.pointer (some ⟨w.heap.size,0,none⟩),.pointer (some ⟨w.heap.size+1,0,none⟩),.pointer (some ⟨w.heap.size+1+1+1+1+1,0,none⟩),.pointer (some ⟨a3,0,none⟩),.pointer (some ⟨a2,0,none⟩)]) m).run Tryz.prog (W7.alloc (.cells #[.nilFunc] 122))=.ok () ((W7.alloc (.cells #[.nilFunc] 122)).setCell ⟨W7.heap.size,0,none⟩ (.func (.func 59) #[] #[.pointer (some ⟨w.heap.size,0,none⟩),.pointer (some ⟨w.heap.size+1,0,none⟩),.pointer (some ⟨w.heap.size+1+1+1+1+1,0,none⟩),.pointer (some ⟨a3,0,none⟩),.pointer (some ⟨a2,0,none⟩)])):=fun m=>by
   have kb:=zX W7 (.cells #[.nilFunc] 122);rw[run_store Tryz.prog _ _ _ _ rfl];simp[zaa kb 0 _ rfl,zad kb 0]
  go_upto_region 5 with fail
  obtain⟨W8,l5⟩:=zE (W7.alloc (.cells #[.func (.func 59) #[] #[.pointer (some ⟨w.heap.size,0,none⟩),.pointer (some ⟨w.heap.size+1,0,none⟩),.pointer (some ⟨w.heap.size+1+1+1+1+1,0,none⟩),.pointer (some ⟨a3,0,none⟩),.pointer (some ⟨a2,0,none⟩)]] 122));rw[<-l5];have s8:W8.heap.size=W7.heap.size+1:=by rw[l5];exact zab _ _
  have n8:New W7 W8:=by rw[l5];exact zU _ _ _
  have h7:=zX W7 (.cells #[.func (.func 59) #[] #[.pointer (some ⟨w.heap.size,0,none⟩),.pointer (some ⟨w.heap.size+1,0,none⟩),.pointer (some ⟨w.heap.size+1+1+1+1+1,0,none⟩),.pointer (some ⟨a3,0,none⟩),.pointer (some ⟨a2,0,none⟩)]] 122);rw[<-l5]at h7;obtain⟨f0,f2,l6,l7,l8,kc⟩:=t7.out;obtain⟨d5,s7,n7,f7⟩:=HA.out;obtain⟨l9,f3,a6⟩:=H1.out;have h8:∀X o,wc.heap[X]?=some o->w.heap.size<=X->W8.heap[X]?=some o:=fun X o hx hge=>
   ((n7.trans n8).block X (by have:=a6.size;have:=(zqA.1 hx).1;omega) id).trans ((a6.block X (zqA.1 hx).1 (by have:=i5.out;omega)).trans hx)
  have h9:∀X o,W6.heap[X]?=some o->w.heap.size<=X->W8.heap[X]?=some o:=fun X o hx hge=>h8 X o ((kc.block X (zqA.1 hx).1 id).trans hx) hge;have r0:=h9 _ _ HK.out.1 (zR _);have r1:=h9 _ _ HK.out.2.1 (by omega);have r3:=h9 _ _ HK.out.2.2.2.1 (by omega);have r4:=h9 _ _ HK.out.2.2.2.2.1 (by omega);have r5:=h9 _ _ HK.out.2.2.2.2.2 (by omega);have o6:w.heap.size+6=W6.heap.size:=by have:=w5.out;omega
  have i7:=h8 _ _ f0 (by omega);have i9:=h8 _ _ f2 (by omega);have j3:=(n8.block _ (zqA.1 f7).1 id).trans f7;have j4:Upd (fun b=>b=bs) w W8:=((HN.out.trans kc).mono (fun _ _ h=>h.elim)).trans (a6.trans ((n7.trans n8).mono (fun _ _ h=>h.elim)));have HR:=zqH (zN r0 (zN r1 (zN r4 (zN r5 (zN i7 (zN i9 (zN j3 h7)))))));have j5:LN (fun b=>wc.heap.size<=b/\b<a2) W8 Re me de (F1.hist S dp).1:=(l9.mono (Q':=fun b=>wc.heap.size<=b/\b<a2) (fun b hb hq=>⟨hq,by omega⟩)).new (n7.trans n8);have x4:wc.heap.size<=a2:=by have:=a6.size;omega
  have x5:Upd (fun b=>b=bs) wc W8:=a6.trans ((n7.trans n8).mono (fun _ _ h=>h.elim));have x6:=zqH x5;clear x5;have H8:=zqH (zN j4 (zN (f3.new (n7.trans n8)) (zN j5 (show a2<W7.heap.size/\W7.heap.size<W8.heap.size/\wc.heap.size<=a2 from⟨by omega,by omega,x4⟩))));have x7:=zqH o6;have d0:=zaa r0 0 _ rfl;have d1:=zaa r1 0 _ rfl;have d3:=zaa r3 1 _ rfl;clear l5 s8 n8 h7 f0 f2 l6 l7 l8 kc d5 s7 n7 f7 l9 f3 a6 h8 h9 r0 r1 r3 r4 r5 o6 i7 i9 j3 j4 j5 x4 a7 bf bh bi o5
  go_wp2_with (go_at_call 62;refine(cuts_c (w:=W8) (bs:=bs) (fr:=dp) (la:=q)).mono ?_;rintro e w9 ⟨rfl,d6,e1,e2,e3,e4⟩;have H9:=zqH (zN d6 (zN e1 (zN e2 (zN e3 e4))));clear d6 e1 e2 e3 e4)
  refine(wpIn_wide (n:=0)).1 ?_
  have bn:=H9.out.1.size;have bo:=H8.out.1.size;have hb:=i5.out;have o6:=x7.out;obtain⟨f0,f2,l6,l7,l8,kc⟩:=t7.out;obtain⟨r0,r1,r4,r5,i7,i9,j3,h7⟩:=HR.out;obtain⟨j4,z6,j5,df,dh,di⟩:=H8.out;obtain⟨d6,e1,e2,e3,e4⟩:=H9.out;have h8:=kc.size;have bp:=(zqA.1 f0).1;have bq:=(zqA.1 f2).1;have x8:=zqB w9 _ e2;simp only at x8;obtain⟨base,bm,D,A,n,c,vs,ps,g1,g2,g3,g4,g5,g6⟩:=z6;obtain⟨css,gc⟩:=g2.named;have x9:CutM base bm n c bs (W8.heap.size+1+1) (W8.heap.size+1+1+1) (W8.heap.size+1) W8.heap.size dp q D A vs ps css w9:=⟨gc.upd d6 (fun _ _=>id),g1.upd d6 id,e1,e2,e3,e4⟩
  have y0:∀x,x=w.heap.size\/x=w.heap.size+1\/x=w.heap.size+1+1+1+1\/x=w.heap.size+1+1+1+1+1\/x=a3\/x=a5\/x=a2\/x=W7.heap.size->w.heap.size<=x/\x<W8.heap.size:=fun x hx=>by omega
  have e5:∀(x:Nat) (o:Obj),W8.heap[x]?=some o->w9.heap[x]?=some o:=fun x o ho=>(d6.block x (zqA.1 ho).1 id).trans ho;have a4:ClmI bs w.heap.size (w.heap.size+1) (w.heap.size+1+1+1+1) (w.heap.size+1+1+1+1+1) a3 a5 a2 W7.heap.size (fun x=>(x≠bs/\(x<w.heap.size\/(wc.heap.size<=x/\x<a2)\/W7.heap.size<x))/\x<w9.heap.size) s0 w9:=by
   rw[v8.out];exact⟨e5 _ _ r0,e5 _ _ r1,e5 _ _ r4,e5 _ _ i9,e5 _ _ h7,⟨none,0,0,e5 _ _ r5,(LN.nil _ _).lq⟩,⟨As,ns,cs,e5 _ _ i7,(((HY.out.new kc).upd x6.out (fun x hx e=>hx.1 e)).new d6).mono (fun x hx hq=>⟨⟨hq.1,.inl hq.2⟩,hx⟩)⟩,⟨Re,me,de,e5 _ _ j3,(j5.lq.new d6).mono (fun x hx hq=>⟨⟨by omega,.inr (.inl hq)⟩,hx⟩)⟩⟩
  have o5:∀x,foot bm D A n c vs x->F x/\x<W8.heap.size/\x≠bs:=fun x hx=>⟨g3 x hx,g4 x (g3 x hx)⟩
  have u9:Upd (fun x=>x=bs) w w9:=j4.trans (d6.mono (fun _ _ h=>h.elim));have br:=zqH a4;have bu:=zqH x9;have bv:=zqH y0;have t1:=zqH o5;have bw:=zqH u9;have b7:=zqH (zN g3 (zN g4 (zN g5 g6)));have f8:=zqH (show a3≠a5/\a2≠a3/\a2≠a5/\w.heap.size+6<=a3/\w.heap.size+6<=a5/\w.heap.size+6<=a2/\w.heap.size+6<=W7.heap.size/\a2<W7.heap.size/\a3<W7.heap.size/\a5<W7.heap.size/\a3<wc.heap.size/\a5<wc.heap.size/\w.heap.size+6<=wc.heap.size/\wc.heap.size<=a2/\W7.heap.size<W8.heap.size from by refine⟨?_,?_,?_,?_,?_,?_,?_,?_,?_,?_,?_,?_,?_,?_,?_⟩<;>omega);have y4:=zqH (show W8.heap.size+4<=w9.heap.size/\bs<w.heap.size/\w.heap.size+6<=W8.heap.size from⟨by omega,hb,by omega⟩);clear bn bo hb o6 f0 f2 l6 l7 l8 kc r0 r1 r4 r5 i7 i9 j3 h7 j4 j5 df dh di d6 e1 e2 e3 e4 h8 bp bq x8 g1 g2 g3 g4 g5 g6 gc x9 y0 e5 a4 o5 u9 d0 d1 d3 HR H8 H9 x7 HK HA x6 w5 HN HY;have o7:∀x,x=w.heap.size\/x=w.heap.size+1\/x=w.heap.size+1+1+1+1\/x=w.heap.size+1+1+1+1+1\/x=a3\/x=a5\/x=a2\/x=W7.heap.size->∀Z,¬Priv (fun x=>x=bs) w9.heap.size Z x:=fun x hx Z h=>by
   have:=bv.out x hx;have:=y4.out;exact h.elim (fun e=>by omega) (fun e=>by omega)
  obtain⟨gk,gl,gm⟩:=y4.out;refine zbd (gf:=114) (lb:=#[.pointer (some ⟨W8.heap.size+1+1,0,none⟩),.pointer (some ⟨W8.heap.size+1+1+1,0,none⟩),.pointer (some ⟨W8.heap.size+1,0,none⟩),.pointer (some ⟨W8.heap.size,0,none⟩)]) rfl (fun args w=>zaw 114 Tryz.func114 (by kernel_rfl) (by kernel_rfl) args w)
   (cuts1_gives (base:=base) (bm:=bm) (n:=n) (c:=c) (bs:=bs) (fp:=W8.heap.size+1+1) (lp:=W8.heap.size+1+1+1) (ip:=W8.heap.size+1) (sp:=W8.heap.size) (fr:=dp) (la:=q) (D:=D) (A:=A) (vs:=vs) (ps:=ps) (css:=css) o4.out b7.out.2.2.2 (by rw[b7.out.2.2.2];exact bd.out) w0.out.2.2 v6.out (fun h=>(t1.out bs h).2.2 rfl) ⟨by omega,by omega,by omega,by omega⟩)
   (fun x _ _ vals he=>by rw[he];rfl) (fun x h=>by omega)
   (fun P Q hk hu=>hk.upd hu (fun x hx=>by have:=t1.out x hx;omega) (hk.sto.upd hu (by omega)) (by omega) (by omega) (by omega) (by omega)) bu.out
   (fun x W0 P Q vals hz he hu=>he)
   (fun Z (pre:List F1.Rec) V=>ClmI bs w.heap.size (w.heap.size+1) (w.heap.size+1+1+1+1) (w.heap.size+1+1+1+1+1) a3 a5 a2 W7.heap.size (fun x=>(x≠bs/\(x<w.heap.size\/(wc.heap.size<=x/\x<a2)\/W7.heap.size<x))/\(x<w9.heap.size\/Z<=x)) (pre.foldl (F1.cutS S) s0) V/\Upd (fun x=>x=bs) w V)
   (fun Z cd (pre:List F1.Rec) V=>False)
   (fun Z hZ s P Q hs hu=>⟨hs.1.upd hu (fun x hx h=>h.elim hx.1.1 (fun h=>hx.2.elim (fun h2=>by omega) (fun h2=>by omega))) (fun x hx=>o7 x hx Z),hs.2.then hu (fun x hx h=>h.elim id (fun h=>by omega))⟩)
   (fun Z cd hZ s P Q hs hu=>hs)
   (fun Z hZ=>by
     have h:=br.out;obtain⟨R1,m1,d1,x1,l1⟩:=h.er;obtain⟨R2,m2,d2,x2,l2⟩:=h.ek;obtain⟨R3,m3,d3,x3,l3⟩:=h.et;exact⟨⟨h.es,h.ei,h.eg,h.en,h.ef,⟨R1,m1,d1,x1,l1.mono (fun x _ hx=>⟨hx.1,.inl hx.2⟩)⟩,⟨R2,m2,d2,x2,l2.mono (fun x _ hx=>⟨hx.1,.inl hx.2⟩)⟩,⟨R3,m3,d3,x3,l3.mono (fun x _ hx=>⟨hx.1,.inl hx.2⟩)⟩⟩,bw.out⟩)
   (fun W0 vals a' V=>∃(x:F1.Rec) (cb:Nat),vals=#[.int .u64 (x.1:Int),.agg #[.int .u64 (x.2.1:Int),.int .u64 (x.2.2:Int)]]/\w9.heap.size+2<=cb/\V.heap[cb]?=some (.cells #[.int .u64 (x.2.1:Int),.int .u64 (x.2.2:Int)] 127 (0,0))/\a' = { tmps:=#[.pointer (some ⟨bs,0,none⟩),.int .u64 16,.agg #[.int .u64 (r:Int),.int .u64 (t:Int),.slice A2 n2 c2,.bool j,.int .u64 (u:Int),.bool b,.int .u64 (p:Int),.slice A7 n7 c7,.slice A8 n8 c8,.slice A9 n9 c9],.agg #[.slice Ad nd cd,.int .u64 (dp:Int),.slice As ns cs],.pointer (some ⟨w.heap.size,0,none⟩),.pointer (some ⟨w.heap.size+1,0,none⟩),.pointer (some ⟨w.heap.size+1+1,0,none⟩),.pointer (some ⟨w.heap.size+1+1+1,0,none⟩),.pointer (some ⟨w.heap.size+1+1+1+1,0,none⟩),.int .i64 0,.pointer (some ⟨w.heap.size+1+1+1+1+1,0,none⟩),.pointer (some ⟨a3,0,none⟩),.int .u64 (q:Int),.pointer (some ⟨a5,0,none⟩),.pointer (some ⟨a2,0,none⟩),.pointer (some ⟨W7.heap.size,0,none⟩),.int .u64 (x.1:Int),.pointer (some ⟨cb,0,none⟩),u18,u19,u20,u21,u22,.pointer (some ⟨bs,0,none⟩),.int .u64 16,.pointer (some ⟨w.heap.size+1+1+1,1,none⟩),.int .u64 (dp:Int),.agg #[.slice Re me de,.int .u64 ((F1.hist S dp).2:Int)],.agg #[.slice Re me de],.func (.func 59) #[] #[.pointer (some ⟨w.heap.size,0,none⟩),.pointer (some ⟨w.heap.size+1,0,none⟩),.pointer (some ⟨w.heap.size+1+1+1+1+1,0,none⟩),.pointer (some ⟨a3,0,none⟩),.pointer (some ⟨a2,0,none⟩)],.pointer (some ⟨bs,0,none⟩),.int .u64 16,.pointer (some ⟨w.heap.size+1+1+1,1,none⟩),.int .u64 (dp:Int),.int .u64 (q:Int),.func (.func 114) #[] #[.pointer (some ⟨W8.heap.size+1+1,0,none⟩),.pointer (some ⟨W8.heap.size+1+1+1,0,none⟩),.pointer (some ⟨W8.heap.size+1,0,none⟩),.pointer (some ⟨W8.heap.size,0,none⟩)],.int .u64 (x.1:Int),.agg #[.int .u64 (x.2.1:Int),.int .u64 (x.2.2:Int)],undef,undef,undef,undef,undef,undef,undef,undef,undef,undef,undef,undef,undef,undef,undef,undef,undef,undef,undef,undef,undef],defers:=[] })
   (fun W0 vals a' P Q hs hu=>by
     obtain⟨x,cb,h1,h2,h3,h4⟩:=hs;exact⟨x,cb,h1,h2,(hu.block cb (zqA.1 h3).1 (by omega)).trans h3,h4⟩)
   ?assign ?body ?done ?stop
  case assign=>
   rintro l2 x W0 V vals K ⟨pre,post,hx⟩ hz hz0 hv hk hK';obtain⟨x1,x2,x3⟩:=x;cases hv
   gi_wp2
   exact hK' _ _ (zU _ _ _) ⟨(x1,x2,x3),V.heap.size,rfl,hz,zX _ _,rfl⟩
  case body=>
   rintro Z pre x W0 V vals a' ⟨post,hx⟩ d7 d8 hi hu0 hv ⟨x',cb,o0,ao,ap,rfl⟩ hk;obtain⟨x1,x2,x3⟩:=x;obtain⟨y1,y2,y3⟩:=x';have y5:=hv.symm.trans o0;simp at y5;obtain⟨rfl,rfl,rfl⟩:x1=y1/\x2=y2/\x3=y3:=by omega
   clear y5;have hV:=hu0.size;have f9:w9.heap.size+2<=V.heap.size:=by omega
   have e6:=hi.1.upd hu0 (fun x hx h=>h.elim hx.1.1 (fun h=>hx.2.elim (fun h2=>by omega) (fun h2=>by omega))) (fun x hx=>o7 x hx Z);obtain⟨s,hs⟩:=zE (pre.foldl (F1.cutS S) s0);have hok:=v7.out;rw[HC.out,hx]at hok;have e8:=hok.at
   have y6:(x1,x2,x3) ∈ S.c:=by
    have:(x1,x2,x3) ∈ S.c.filter (fun x=>decide (dp<x.1)):=(by rw[hx];simp);exact(List.mem_filter.1 this).1
   have o8:=v6.out _ y6;simp only at o8;rw[<-hs]at e6 e8;have j6:(pre ++ [(x1,x2,x3)]).foldl (F1.cutS S) s0=F1.cutS S s (x1,x2,x3):=by rw[List.foldl_append,<-hs];rfl
   have j7:SFm F bs bm V (F1.ents S):=⟨base,D,A,n,c,vs,ps,hk.sto,hk.map.map,b7.out.1,fun x hx=>⟨by have:=(b7.out.2.1 x hx).1;omega,(b7.out.2.1 x hx).2⟩,by have:=b7.out.2.2.1;omega,b7.out.2.2.2⟩
   obtain⟨R1,m1,d1,q1,l1⟩:=e6.er;obtain⟨R2,m2,d2,q2,l2⟩:=e6.ek;obtain⟨R3,m3,d3,q3,l3⟩:=e6.et;obtain⟨n1,n2,n3,n4,n5,n6,n7,n8,n9,n10,n11,n12,n13,n14,n15⟩:=f8.out;have j8:=earns_m o4.out o8.1 j7 (zaa e6.es 0 _ rfl) (zaa e6.ei 0 _ rfl) q1 q2 q3 (b9.out _ (by omega)) (b9.out _ (by omega)) (b9.out _ (by omega)) (by omega) (by omega) (by omega) (l1.mono (fun x _ hx=>hx.1.1)) (l2.mono (fun x _ hx=>hx.1.1)) (l3.mono (fun x _ hx=>hx.1.1)) e8.b1 e8.b2;have vf:=zaa e6.ef 0 _ rfl;have bz:=zqH (hi.2.then hu0 (fun x hx h=>h.elim id (fun h=>by omega)));have y7:s.k<=100000:=by rw[hs,F1.fold_k,v8.out];have:=o4.out.few;have:=List.length_filter_le (fun x=>decide (dp<x.1)) S.c;rw[hx]at this;simp at this ⊢;omega
   have ca:=zqH y7;clear y7;have cc:=zqH j8;have i0:=zqH e6;have cf:=zqH e8;have y8:=zqH o8;have cg:=zqH j6;have ci:=zqH hk;have t2:=zqH (zN ao ap);have HZ:=zqH (zN d7 (zN d8 (zN hV f9)));have HQ:=zqH (zN q2 l2);clear j8 e6 e8 o8 j6 hk ao ap d7 d8 hV f9 hi hu0 hv o0 hx hok y6 j7 q1 q2 q3 l1 l2 l3 n1 n2 n3 n4 n5 n6 n7 n8 n9 n10 n11 n12 n13 n14 n15 hs o7
   gi_wp2_with (refine⟨trivial,rfl,?_⟩;gi_at_call 59;refine(CallsIn.inRound _ (callsIn_wide.2 cc.out)).mono ?_;rintro e V1 ⟨rfl,hs1,a6,R,m,d,R',m',d',k1,f4,k2,f5⟩;have H1:=zqH (zN hs1 (zN a6 (zN k1 (zN f4 (zN k2 f5)))));clear hs1 a6 k1 f4 k2 f5)
   obtain⟨hs1,a6,k1,f4,k2,f5⟩:=H1.out;have o9:=a6.size;obtain⟨d7,d8,q9,f9⟩:=HZ.out;obtain⟨n1,n2,n3,n4,n5,n6,n7,n8,n9,n10,n11,n12,n13,n14,n15⟩:=f8.out;have p0:=(a6.block a3 (zqA.1 HQ.out.1).1 (by show ¬(_\/_\/_);omega)).trans HQ.out.1;have j9:=(a6.block cb (zqA.1 t2.out.2).1 (by have:=t2.out.1;show ¬(_\/_\/_);omega)).trans t2.out.2;have q4:=zqH (fun(W':World) (hn:New V1 W')=>(⟨zaa ((hn.block _ (zqA.1 p0).1 id).trans p0) 0 _ rfl,zaa ((hn.block _ (zqA.1 j9).1 id).trans j9) 0 _ rfl,zaa ((hn.block _ (zqA.1 j9).1 id).trans j9) 1 _ rfl⟩:W'.cell? ⟨a3,0,none⟩=some (.slice R2 m2 d2)/\W'.cell? ⟨cb,0,none⟩=some (.int .u64 (x2:Int))/\W'.cell? ⟨cb,1,none⟩=some (.int .u64 (x3:Int))));have cp:=zqH (HQ.out.2.upd a6 (T:=fun x=>x=bs\/x=w.heap.size+1+1+1+1+1\/x=a2) (fun x hx h=>by omega));have r6:=zqH p0;have k7:=q4.out V1.drew ((Upd.refl _ V1).drew);clear hs1 a6 k1 f4 k2 f5 o9 d7 d8 q9 f9 n1 n2 n3 n4 n5 n6 n7 n8 n9 n10 n11 n12 n13 n14 n15 p0 j9;have mixed:Tryz.prog.follows .mixedOrders=true:=by kernel_rfl
   refine beginE 11 (fun w':World=>w'.cell? ⟨a3,0,none⟩=some (.slice R2 m2 d2)/\w'.cell? ⟨cb,0,none⟩=some (.int .u64 (x2:Int))/\w'.cell? ⟨cb,1,none⟩=some (.int .u64 (x3:Int))) mixed (fun a4=>?_);refine takeE 0 [0] (oi:=⟨some 42,.load 26 (.tmp 11),26,"f1.go:115",#[],none⟩) (fun _=>trivial) (by rfl) rfl (by decide) (by kernel_rfl) (by kernel_rfl) (by kernel_rfl) (by kernel_rfl) a4 (fun _ _ _ h=>h) (v:=.agg #[.slice R2 m2 d2]) (Or.inl ⟨by rfl,?_⟩) k7 (fun hcl2=>?_)
   · rintro w' ⟨y1,y2,y3⟩;go_simp
   simp only[Act.put,zqP];replace a4:=hcl2;clear hcl2;refine takeE 1 [1] (oi:=⟨some 43,.fieldAddr 127 (.tmp 17) 1,0,"f1.go:115",#[],none⟩) (fun _=>trivial) (by rfl) rfl (by decide) (by kernel_rfl) (by kernel_rfl) (by kernel_rfl) (by kernel_rfl) a4 (fun _ _ _ h=>h) (v:=.pointer (some ⟨cb,1,none⟩)) (Or.inl ⟨by rfl,?_⟩) k7 (fun hcl2=>?_)
   · intro w' _;go_simp
   simp only[Act.put,zqP];replace a4:=hcl2;clear hcl2;refine takeE 2 [2] (oi:=⟨some 44,.load 22 (.tmp 43),22,"f1.go:115",#[⟨1,.data⟩],none⟩) (fun _=>trivial) (by rfl) rfl (by decide) (by kernel_rfl) (by kernel_rfl) (by kernel_rfl) (by kernel_rfl) a4 (fun _ _ _ h=>h) (v:=.int .u64 (x3:Int)) (Or.inl ⟨by rfl,?_⟩) k7 (fun hcl2=>?_)
   · rintro w' ⟨y1,y2,y3⟩;go_simp
   simp only[Act.put,zqP];replace a4:=hcl2;clear hcl2;refine takeE 4 [4] (oi:=⟨some 46,.fieldAddr 127 (.tmp 17) 0,0,"f1.go:115",#[],none⟩) (fun _=>trivial) (by rfl) rfl (by decide) (by kernel_rfl) (by kernel_rfl) (by kernel_rfl) (by kernel_rfl) a4 (fun _ _ _ h=>h) (v:=.pointer (some ⟨cb,0,none⟩)) (Or.inl ⟨by rfl,?_⟩) k7 (fun hcl2=>?_)
   · intro w' _;go_simp
   simp only[Act.put,zqP];replace a4:=hcl2;clear hcl2;refine takeE 5 [5] (oi:=⟨some 47,.load 22 (.tmp 46),22,"f1.go:115",#[⟨4,.data⟩],none⟩) (fun _=>trivial) (by rfl) rfl (by decide) (by kernel_rfl) (by kernel_rfl) (by kernel_rfl) (by kernel_rfl) a4 (fun _ _ _ h=>h) (v:=.int .u64 (x2:Int)) (Or.inl ⟨by rfl,?_⟩) k7 (fun hcl2=>?_)
   · rintro w' ⟨y1,y2,y3⟩;go_simp
   simp only[Act.put,zqP];replace a4:=hcl2;clear hcl2;refine oneE 3 (o:=⟨some 45,.call { callee:=.value (.func 24),args:=#[.tmp 44],argTypes:=#[22] },26,"f1.go:115",#[⟨2,.data⟩],none⟩) rfl (by kernel_rfl) a4 (by rfl) (fun K hK=>?_);go_simp;refine⟨trivial,rfl,(CallsIn.inRound _ (callsIn_wide.2 (of_c x3 y8.out.2.2.2))).mono ?_⟩;rintro e V2 ⟨Ra,ma,da,rfl,hr,hn⟩;have c5:New V1 V2:=Upd.of_drew hn;have c6:=q4.out _ c5;refine hK _ _ (fun _=>c6) (fun hcl2=>?_);have H2:=zqH (zN hr c5);clear hr hn c5 a4 hK K;(try simp only[Act.put,zqP]);replace a4:=hcl2;clear hcl2;clear c6;refine oneE 6 (o:=⟨some 48,.call { callee:=.value (.func 24),args:=#[.tmp 47],argTypes:=#[22] },26,"f1.go:115",#[⟨5,.data⟩,⟨3,.chain⟩],none⟩) rfl (by kernel_rfl) a4 (by rfl) (fun K hK=>?_);go_simp;refine⟨trivial,rfl,(CallsIn.inRound _ (callsIn_wide.2 (of_c x2 y8.out.2.2.1))).mono ?_⟩;rintro e V3 ⟨Rb,mb,db,rfl,hr,hn⟩;have c5:New V1 V3:=H2.out.2.trans hn;have c6:=q4.out _ c5;refine hK _ _ (fun _=>c6) (fun hcl2=>?_);have H3:=zqH (zN hr c5);have cq:=zqH hn;clear hr hn c5 a4 hK K;(try simp only[Act.put,zqP]);replace a4:=hcl2;clear hcl2;clear c6;have q5:New V2 V3:=cq.out;refine oneE 7 (o:=⟨some 49,.call { callee:=.value (.func 63),args:=#[.tmp 42,.tmp 45,.tmp 48],argTypes:=#[26,26,26] },84,"f1.go:115",#[⟨0,.data⟩,⟨3,.data⟩,⟨6,.data⟩,⟨6,.chain⟩],none⟩) rfl (by kernel_rfl) a4 (by rfl) (fun K hK=>?_);go_simp;refine⟨trivial,rfl,(CallsIn.inRound _ (callsIn_wide.2 (dmuldiv_any (cp.out.new H3.out.2) (H2.out.1.lq.new q5) H3.out.1.lq cf.out.b3))).mono ?_⟩;rintro e V4 ⟨Rs,ms,ds,rfl,hr,hn⟩;have c5:New V1 V4:=H3.out.2.trans hn;have c6:=q4.out _ c5;refine hK _ _ (fun _=>c6) (fun hcl2=>?_);have H4:=zqH (zN hr c5);clear hr hn c5 a4 hK K;(try simp only[Act.put,zqP]);replace a4:=hcl2;clear hcl2;refine takeE 8 [8] (oi:=⟨some 41,.move (.tmp 49),84,"f1.go:115",#[⟨7,.data⟩],none⟩) (fun _=>trivial) (by rfl) rfl (by decide) (by kernel_rfl) (by kernel_rfl) (by kernel_rfl) (by kernel_rfl) a4 (fun _ _ _ h=>h) (v:=.tuple #[.agg #[.slice Rs ms ds],.int .i64 (erz (x2*10 ^ 36))]) (Or.inl ⟨by rfl,?_⟩) c6 (fun hcl2=>?_)
   · intro w' _;go_simp
   simp only[Act.put,zqP];replace a4:=hcl2;clear hcl2;refine takeE 9 [9] (oi:=⟨some 50,.extract (.tmp 41) 0,26,"f1.go:115",#[⟨8,.data⟩],none⟩) (fun _=>trivial) (by rfl) rfl (by decide) (by kernel_rfl) (by kernel_rfl) (by kernel_rfl) (by kernel_rfl) a4 (fun _ _ _ h=>h) (v:=.agg #[.slice Rs ms ds]) (Or.inl ⟨by rfl,?_⟩) c6 (fun hcl2=>?_)
   · intro w' _;go_simp
   simp only[Act.put,zqP];replace a4:=hcl2;clear hcl2;refine pureE 10 (oi:=⟨some 51,.extract (.tmp 41) 1,83,"f1.go:115",#[⟨8,.data⟩,⟨11,.gcOnly .lateStores⟩],none⟩) (fun _=>trivial) (by rfl) rfl (by decide) (by kernel_rfl) (by kernel_rfl) (by kernel_rfl) a4 (fun _ _ _ h=>h) (v:=.int .i64 (erz (x2*10 ^ 36))) (Or.inl ⟨by rfl,?_⟩) c6 (fun hcl2=>?_)
   · intro w' _;go_simp
   simp only[Act.put,zqP];replace a4:=hcl2;clear hcl2;have n4:=H4.out.2;have c4:=(n4.block _ (zqA.1 r6.out).1 id).trans r6.out;have cr:=zaa c4 0 _ rfl;have cu:=zad c4 0;refine oneE 11 (o:=⟨none,.store 26 (.tmp 11) (.tmp 50),0,"f1.go:115",#[⟨9,.data⟩,⟨7,.chain⟩,⟨0,.phase⟩,⟨1,.phase⟩,⟨2,.phase⟩,⟨3,.phase⟩,⟨4,.phase⟩,⟨5,.phase⟩,⟨6,.phase⟩,⟨7,.phase⟩,⟨8,.phase⟩,⟨9,.phase⟩,⟨10,.textOnly .lateStores⟩],none⟩) rfl (by kernel_rfl) a4 (by rfl) (fun K hK=>?_);go_simp;refine hK _ _ (fun h=>Bool.noConfusion (h.symm.trans (by kernel_rfl:_=true))) (fun _=>?_);clear a4 hK K;(try simp only[Act.put,zqP]);refine doneE (by kernel_rfl) ?_ _;obtain⟨V5,k8⟩:=zE (V4.setCell ⟨a3,0,none⟩ (.slice Rs ms ds));rw[<-k8];have a7:Upd (fun x=>x=a3) V4 V5:=by rw[k8];exact Upd.setCell V4 _ rfl
   have k5:V5.heap[a3]?=some (.cells #[.slice Rs ms ds] 26 (0,0)):=by rw[k8,zac c4];rfl
   obtain⟨hs1,a6,k1,f4,k2,f5⟩:=H1.out;have o9:=a6.size;obtain⟨d7,d8,q9,f9⟩:=HZ.out;obtain⟨n1,n2,n3,du,n5,n6,n7,n8,n9,n10,n11,n12,n13,n14,n15⟩:=f8.out;have q6:=(a7.block a5 (by have:=(zqA.1 i0.out.en).1;have:=n4.size;omega) (by omega)).trans ((n4.block a5 (by omega) id).trans ((a6.block a5 (by omega) (by show ¬(_\/_\/_);omega)).trans i0.out.en));have cn:=zaa q6 0 _ rfl;have cz:=zad q6 0;have fy:IntKind.i64.wrap ((s.k:Int)+1)=((s.k+1:Nat):Int):=by have:=ca.out;rw[IntKind.wrap_i64];omega
   have k6:=zac q6 (.int .i64 ((s.k+1:Nat):Int)) (i:=0);have a9:Upd (fun x=>x=a5) V5 (V5.setCell ⟨a5,0,none⟩ (.int .i64 ((s.k+1:Nat):Int))):=Upd.setCell V5 _ rfl;have HP:=zqH (zN a7 (zN k5 (zN k6 a9)));clear k8 a7 k5 hs1 a6 k1 f4 k2 f5 o9 d7 d8 q9 f9 n1 n2 n3 du n5 n6 n7 n8 n9 n10 n11 n12 n13 n14 n15 q6 k6 a9 c4 cr cu n4 c6
   gi_wp2
   obtain⟨a7,k5,k6,a9⟩:=HP.out;obtain⟨V6,ae⟩:=zE (V5.setCell ⟨a5,0,none⟩ (.int .i64 ((s.k+1:Nat):Int)));rw[<-ae]at k6 a9;rw[show((s.k:Int)+1)=((s.k+1:Nat):Int) from rfl,<-ae];obtain⟨hs1,a6,k1,f4,k2,f5⟩:=H1.out;obtain⟨dv,n4⟩:=H4.out;have o9:=a6.size;have ga:=n4.size;have k8:=a7.size;have eo:=a9.size;obtain⟨d7,d8,q9,f9⟩:=HZ.out;obtain⟨p1,p2,p3,p4,p5,p6,p7,p8,p9,m4,m5,m6,m7,m8,m9⟩:=f8.out;have hu:Upd (fun x=>x=bs\/x=w.heap.size+1+1+1+1+1\/x=a2\/x=a3\/x=a5) V V6:=(((a6.mono (fun x _ h=>by have h:x=bs\/x=w.heap.size+1+1+1+1+1\/x=a2:=h;omega)).trans (n4.mono (fun _ _ h=>h.elim))).trans (a7.mono (fun x _ h=>by have h:x=a3:=h;omega))).trans (a9.mono (fun x _ h=>by have h:x=a5:=h;omega));have cv:V6.heap[w9.heap.size]?=V.heap[w9.heap.size]?/\V6.heap[w9.heap.size+1]?=V.heap[w9.heap.size+1]?/\Kept (w9.heap.size+2) Z W0.heap.size V V6:=
     ⟨hu.block _ (by omega) (by omega),hu.block _ (by omega) (by omega),hu.size,fun x hx=>hu.block x (by omega) (by omega)⟩
   have z2:StoB V6 bs bm:=by
     obtain⟨_,_,_,_,_,_,_,h,_⟩:=hs1;exact((h.upd n4 id).upd a7 (by omega)).upd a9 (by omega)
   have g9:∀x o,w.heap.size<=x->x<w9.heap.size->x≠w.heap.size+1+1+1+1+1->x≠a2->x≠a3->x≠a5->V.heap[x]?=some o->V6.heap[x]?=some o:=fun x o g1 g2 g3 g4 g5 g6 ho=>(hu.block x (by omega) (by omega)).trans ho;refine⟨cv,ci.out.upd hu (fun x hx h=>?_) z2 (by omega) (by omega) (by omega) (by omega),?_,bz.out.then hu (fun x hx h=>by have h:x=bs\/x=w.heap.size+1+1+1+1+1\/x=a2\/x=a3\/x=a5:=h;show x=bs;omega)⟩
   · have h1:=t1.out x hx;have h:x=bs\/x=w.heap.size+1+1+1+1+1\/x=a2\/x=a3\/x=a5:=h;rcases h with h|h|h|h|h
     · exact h1.2.2 h
     · exact(b9.out x (by omega)).1 h1.1
     · exact(b9.out x (by omega)).1 h1.1
     · exact(b9.out x (by omega)).1 h1.1
     · exact(b9.out x (by omega)).1 h1.1
   · show ClmI bs _ _ _ _ _ _ _ _ _ _ _
     rw[cg.out];have cw:=(a9.block a2 (by omega) (by omega)).trans ((a7.block a2 (by omega) (by omega)).trans ((n4.block a2 (by omega) id).trans k2));have cx:=(a9.block (w.heap.size+1+1+1+1+1) (by omega) (by omega)).trans ((a7.block (w.heap.size+1+1+1+1+1) (by omega) (by omega)).trans ((n4.block (w.heap.size+1+1+1+1+1) (by omega) id).trans k1));have cy:=(a9.block a3 (by omega) (by omega)).trans k5;refine⟨g9 _ _ (by omega) (by omega) (by omega) (by omega) (by omega) (by omega) i0.out.es,g9 _ _ (by omega) (by omega) (by omega) (by omega) (by omega) (by omega) i0.out.ei,g9 _ _ (by omega) (by omega) (by omega) (by omega) (by omega) (by omega) i0.out.eg,k6,g9 _ _ (by omega) (by omega) (by omega) (by omega) (by omega) (by omega) i0.out.ef,⟨R,m,d,cx,?_⟩,⟨Rs,ms,ds,cy,?_⟩,⟨R',m',d',cw,?_⟩⟩
     · exact(((f4.lq.upd n4 (fun _ _=>id)).upd a7 (fun x hx h=>by omega)).upd a9 (fun x hx h=>by omega)).mono (fun x _ hx=>by omega)
     · exact((dv.lq.upd a7 (fun x hx h=>by have hx:V3.heap.size<=x:=hx;have:=H3.out.2.size;omega)).upd a9 (fun x hx h=>by have hx:V3.heap.size<=x:=hx;have:=H3.out.2.size;omega)).mono (fun x _ hx=>by have hx:V3.heap.size<=x:=hx;have:=H3.out.2.size;omega)
     · exact(((f5.lq.upd n4 (fun _ _=>id)).upd a7 (fun x hx h=>by omega)).upd a9 (fun x hx h=>by omega)).mono (fun x _ hx=>by omega)
  case done=>
   rintro Z V d7 d8 hi hd hk;rw[<-HC.out,<-v9.out]at hi;obtain⟨hi,r2⟩:=hi;have hb:=i5.out;have j7:SFm F bs bm V (F1.ents S):=⟨base,D,A,n,c,vs,ps,hk.sto,hk.map.map,b7.out.1,fun x hx=>⟨by have:=(b7.out.2.1 x hx).1;omega,(b7.out.2.1 x hx).2⟩,by have:=b7.out.2.2.1;omega,b7.out.2.2.2⟩
   have hok:=v7.out.last;rw[<-v9.out]at hok;obtain⟨R1,m1,d1,q1,l1⟩:=hi.er;obtain⟨R2,m2,d2,q2,l2⟩:=hi.ek;obtain⟨R3,m3,d3,q3,l3⟩:=hi.et;obtain⟨p1,p2,p3,p4,p5,p6,p7,p8,p9,m4,m5,m6,m7,m8,m9⟩:=f8.out;have j8:=earns_m o4.out w0.out.2.1 j7 (zaa hi.es 0 _ rfl) (zaa hi.ei 0 _ rfl) q1 q2 q3 (b9.out _ (by omega)) (b9.out _ (by omega)) (b9.out _ (by omega)) (by omega) (by omega) (by omega) (l1.mono (fun x _ hx=>hx.1.1)) (l2.mono (fun x _ hx=>hx.1.1)) (l3.mono (fun x _ hx=>hx.1.1)) hok.b1 hok.b2;have gb:=zaa hi.ef 0 _ rfl;have z3:=zqH j8;have HV:=zqH (zN hi.eg (zN hi.en (zN hd (zN r2 (show w9.heap.size+2<=V.heap.size from by omega)))));clear j8 hi hd hk j7 hok q1 q2 q3 l1 l2 l3 p1 p2 p3 p4 p5 p6 p7 p8 p9 m4 m5 m6 m7 m8 m9 d7 d8 o7 hb r2
   go_upto_region 12 with(go_at_call 59;refine z3.out.mono ?_;rintro e wa ⟨rfl,e0,d9,R,m,d,R',m',d',ka,i3,dx,_⟩;have HE:=zqH (zN e0 (zN d9 (zN ka i3)));clear z3 e0 d9 ka i3 dx)
   obtain⟨v4,al,hd,r2,z1⟩:=HV.out;obtain⟨e0,d9,ka,i3⟩:=HE.out;obtain⟨p1,p2,p3,p4,p5,p6,p7,p8,p9,m4,m5,m6,m7,m8,m9⟩:=f8.out;have hb:=i5.out;have w4:=(d9.block (w.heap.size+1+1+1+1) (by omega) (by show ¬(_\/_\/_);omega)).trans v4;have z4:=(d9.block a5 (by omega) (by show ¬(_\/_\/_);omega)).trans al;have wd:=(d9.block w9.heap.size (by omega) (by show ¬(_\/_\/_);omega)).trans hd;have g0:=zaa ka 0 _ rfl;have g1:=zaa z4 0 _ rfl;have g2:=zaa w4 0 _ rfl;have g3:=zad w4 0;have k4:=zac w4 (.slice R m d) (i:=0);have a7:=Upd.setCell (S:=fun b=>b=w.heap.size+1+1+1+1) (a:=⟨w.heap.size+1+1+1+1,0,none⟩) wa (.slice R m d) rfl;have j0:=(a7.cell (a:=⟨w.heap.size+1+1+1+1+1,0,none⟩) (zqB wa _ g0) (by show ¬w.heap.size+1+1+1+1+1=w.heap.size+1+1+1+1;omega)).trans g0;have j1:=(a7.cell (a:=⟨a5,0,none⟩) (zqB wa _ g1) (by show ¬a5=w.heap.size+1+1+1+1;omega)).trans g1;have HX:=zqH (zN k4 (zN a7 wd));clear v4 al r2 hd e0 d9 ka i3 w4 z4 wd k4 a7 p1 p2 p3 p4 p5 p6 p7 p8 p9 m4 m5 m6 m7 m8 m9 hb z1
   go_region
   all_goals go_wp2
   all_goals
    obtain⟨k4,a7,wd⟩:=HX.out;obtain⟨WW,dw⟩:=zE (wa.setCell ⟨w.heap.size+1+1+1+1,0,none⟩ (.slice R m d));rw[<-dw]at k4 a7 ⊢;have dd:WW.drew.heap[w9.heap.size]?=some (.deferred (some [])):=(a7.block w9.heap.size (by have:=(zqA.1 wd).1;omega) (by show ¬w9.heap.size=w.heap.size+1+1+1+1;omega)).trans wd;have r8:Upd (fun b=>b=w9.heap.size) WW (WW.drew.putObj w9.heap.size (.deferred none)):=(Upd.refl _ WW).drew.trans (Upd.putObj _ _ rfl);have q0:(WW.drew.putObj w9.heap.size (.deferred none)).cell? ⟨w.heap.size+1+1+1+1,0,none⟩=some (.slice R m d):=zaa ((r8.block _ (zqA.1 k4).1 (by show ¬w.heap.size+1+1+1+1=w9.heap.size;omega)).trans k4) 0 _ rfl;show LeavesInM _ _ _ _ _ _ _ _ _;refine⟨by simp,.inl ⟨_,_,rfl,run_takeDeferred dd,?_⟩⟩;refine⟨_,by simp[results,Tryz.results19,go_sem,q0];try rfl,?_⟩;obtain⟨_,_,_,an,y1⟩:=HV.out;obtain⟨e0,d9,_,i3⟩:=HE.out;obtain⟨p1,p2,p3,p4,p5,p6,p7,p8,p9,m4,m5,m6,m7,m8,m9⟩:=f8.out;have hb:=i5.out;have gi:=d9.size;have g7:Upd (fun x=>w.heap.size<=x/\x<V.heap.size) wa (WW.drew.putObj w9.heap.size (.deferred none)):=(a7.mono (fun x _ e=>by have e:x=w.heap.size+1+1+1+1:=e;omega)).trans (r8.mono (fun x _ e=>by have e:x=w9.heap.size:=e;omega));refine⟨R,m,d,rfl,e0.sf.upd_off g7 (fun x hx e=>(b9.out x e.1).1 hx) (fun e=>by omega),?_,(i3.upd g7 (fun x hx e=>by have hx:V.heap.size<=x:=hx;omega)).mono (fun x _ hx=>by have hx:V.heap.size<=x:=hx;have:=an.size;show w.heap.size<=x;omega)⟩;exact(an.then d9 (fun x hx e=>by have:x=bs\/x=w.heap.size+1+1+1+1+1\/x=a2:=e;rcases this with h|h|h<;>first|exact h|(exfalso;omega))).then g7 (fun x hx e=>by exfalso;omega)
  case stop=>
   rintro Z cd pre x post V d7 d8 hx hf hd;exact hf.elim
end Gz
namespace Gz
open Go Go.RowKit Go.Proofs Gl
structure RL where
 R:Option Addr
 m:Nat
 d:Nat
 C:Option Addr
 mc:Nat
 dc:Nat
 G:Option Addr
 mg:Nat
 dg:Nat
 E:Option Addr
 me:Nat
 de:Nat
 A:Option Addr
 ma:Nat
 da:Nat
 DC:Array Value
def xv (l:RL) (n q:Nat):List Value:=[.int .u64 0,.int .u64 (n:Int),.slice l.R l.m l.d,.bool false,.int .u64 0,.bool false,.int .u64 ((q:Int)+1),.slice l.C l.mc l.dc,.slice none 0 0,.slice none 0 0]
def xc (bs bd bh:Nat) (l:RL) (n q k:Nat):Array Value:=(.pointer (some ⟨bs,0,none⟩) :: (xv l n q ++ [.slice (some ⟨bd,0,none⟩) 4 4,.slice (some ⟨bh,0,none⟩) 4 4,.int .i64 (k:Int),.slice l.G l.mg l.dg,.slice l.E l.me l.de,.slice l.A l.ma l.da])).toArray
def OR (F:Nat->Prop) (bs bx bd bh:Nat):Nat->Prop:=fun b=>(¬F b/\b≠bs)/\b≠bx/\b≠bd/\b≠bh
def DelsAt (Q:Nat->Prop) (W:World) (DC:Array Value) (ds:List F1.Del):Prop:=ds.length=4/\DC.size=12/\∀(i:Nat) (d:F1.Del),ds[i]?=some d->∃A n c B m e,DC[i*3]?=some (.slice A n c)/\DC[i*3+1]?=some (.int .u64 (d.per:Int))/\DC[i*3+2]?=some (.slice B m e)/\(d.on=true->LN Q W A n c d.sh/\LN Q W B m e d.stk)
structure RA (w0:World) (F:Nat->Prop) (bs bx bd bh:Nat) (S:F1.Sta) (x:F1.Rn) (l:RL) (W:World):Prop where
 nw:New w0 W
 sf:SF F bs W (F1.ents S)
 fg:∀b,F b->w0.heap.size<=b
 bg:w0.heap.size<=bs/\w0.heap.size<=bx/\w0.heap.size<=bd/\w0.heap.size<=bh
 off:¬F bx/\¬F bd/\¬F bh
 nd:bs≠bx/\bs≠bd/\bs≠bh/\bx≠bd/\bx≠bh/\bd≠bh
 xb:W.heap[bx]?=some (.cells (xc bs bd bh l x.n x.q x.C.length) 77 (0,0))
 db:W.heap[bd]?=some (.cells l.DC 55 (0,0))
 hb:W.heap[bh]?=some (.cells ((x.ds.map fun d=>Value.bool d.on).toArray) 4 (0,0))
 lr:LN (OR F bs bx bd bh) W l.R l.m l.d (x.n0*10 ^ 36)
 lc:LN (OR F bs bx bd bh) W l.C l.mc l.dc x.cur
 lg:LN (OR F bs bx bd bh) W l.G l.mg l.dg x.giv
 le:LN (OR F bs bx bd bh) W l.E l.me l.de x.fre
 la:LN (OR F bs bx bd bh) W l.A l.ma l.da x.all
 dl:DelsAt (OR F bs bx bd bh) W l.DC x.ds
structure RS (F F':Nat->Prop) (bs bx bd bh:Nat) (w w':World):Prop where
 sub:∀b,F' b->F b\/w.heap.size<=b
 upd:Upd (fun b=>F b\/b=bs\/b=bx\/b=bd\/b=bh) w w'
end Gz
namespace Gz
open Go Go.RowKit Go.Proofs Gl
section
variable {w0 w w' w'' W W':World} {F F' F'' T:Nat->Prop} {bs bx bd bh A1:Nat} {S S':F1.Sta} {x x':F1.Rn} {l l':RL} {n c y:Nat} {A:Option Addr}
theorem RS.refl (F:Nat->Prop) (bs bx bd bh:Nat) (w:World):RS F F bs bx bd bh w w:=⟨fun b hb=>.inl hb,Upd.refl _ _⟩
theorem RS.trans (h:RS F F' bs bx bd bh w w') (h':RS F' F'' bs bx bd bh w' w''):RS F F'' bs bx bd bh w w'':=
 ⟨fun b hb=>(h'.sub b hb).elim (h.sub b) (fun h2=>.inr (zT h.upd.size h2)),h.upd.then h'.upd (fun b hb h2=>h2.elim (fun h3=>(h.sub b h3).elim .inl (fun h4=>by omega)) .inr)⟩
theorem RS.of_step (st:Step F F' bs w w'):RS F F' bs bx bd bh w w':=⟨st.sub,st.upd.mono (fun b _ h=>h.elim .inl (fun h=>.inr (.inl h)))⟩
theorem RS.of_new (hn:New w w'):RS F F bs bx bd bh w w':=⟨fun b hb=>.inl hb,hn.mono (fun _ _ h=>h.elim)⟩
theorem RS.of_own (hu:Upd T w w') (hT:∀b,T b->b=bx\/b=bd\/b=bh):RS F F bs bx bd bh w w':=⟨fun b hb=>.inl hb,hu.mono (fun b _ h=>.inr (.inr (hT b h)))⟩
theorem LN.or_step (hl:LN (OR F bs bx bd bh) w A n c y) (st:Step F F' bs w w'):LN (OR F' bs bx bd bh) w' A n c y:=
 ((hl.mono (Q':=fun b=>OR F bs bx bd bh b/\b<w.heap.size) (fun b hb hq=>⟨hq,hb⟩)).upd st.upd (fun b hq h=>h.elim hq.1.1.1 hq.1.1.2)).mono (fun b _ hq=>⟨⟨fun hf=>(st.sub b hf).elim hq.1.1.1 (fun h=>by omega),hq.1.1.2⟩,hq.1.2⟩)
theorem LN.or_own (hl:LN (OR F bs bx bd bh) w A n c y) (hu:Upd T w w') (hT:∀b,T b->b=bx\/b=bd\/b=bh):LN (OR F bs bx bd bh) w' A n c y:=
 hl.upd hu (fun b hq h=>by obtain⟨_,h1,h2,h3⟩:=hq;rcases hT b h with e|e|e<;>contradiction)
theorem DelsAt.imp {Q Q':Nat->Prop} {DC:Array Value} {ds:List F1.Del} (h:DelsAt Q w DC ds) (hi:∀A n c y,LN Q w A n c y->LN Q' w' A n c y):DelsAt Q' w' DC ds:=
 ⟨h.1,h.2.1,fun i d hd=>by
   obtain⟨A,n,c,B,m,e,h1,h2,h3,h4⟩:=h.2.2 i d hd;exact⟨A,n,c,B,m,e,h1,h2,h3,fun ho=>⟨hi _ _ _ _ (h4 ho).1,hi _ _ _ _ (h4 ho).2⟩⟩⟩
theorem RA.lt (h:RA w0 F bs bx bd bh S x l W):bs<W.heap.size/\bx<W.heap.size/\bd<W.heap.size/\bh<W.heap.size:=
 ⟨h.sf.bs_lt,(zqA.1 h.xb).1,(zqA.1 h.db).1,(zqA.1 h.hb).1⟩
theorem RA.step (h:RA w0 F bs bx bd bh S x l W) (st:Step F F' bs W W') (hs:SF F' bs W' (F1.ents S')):RA w0 F' bs bx bd bh S' x l W':=by
 have a1:=h.lt;have hb:∀b,b<W.heap.size->¬F b->¬F' b:=fun b hb hf hf'=>(st.sub b hf').elim hf (fun h=>by omega);exact⟨h.nw.then st.upd (fun b hb hh=>hh.elim (fun hf=>by have:=h.fg b hf;omega) (fun e=>by have:=h.bg.1;omega)),hs,fun b hb=>(st.sub b hb).elim (h.fg b) (fun hh=>zT h.nw.size hh),h.bg,
  ⟨hb _ a1.2.1 h.off.1,hb _ a1.2.2.1 h.off.2.1,hb _ a1.2.2.2 h.off.2.2⟩,h.nd,(st.block a1.2.1 h.off.1 (Ne.symm h.nd.1)).trans h.xb,(st.block a1.2.2.1 h.off.2.1 (Ne.symm h.nd.2.1)).trans h.db,(st.block a1.2.2.2 h.off.2.2 (Ne.symm h.nd.2.2.1)).trans h.hb,
  h.lr.or_step st,h.lc.or_step st,h.lg.or_step st,h.le.or_step st,h.la.or_step st,h.dl.imp (fun _ _ _ _ hl=>hl.or_step st)⟩
theorem RA.new (h:RA w0 F bs bx bd bh S x l W) (hn:New W W'):RA w0 F bs bx bd bh S x l W':=h.step (Step.of_new hn) (h.sf.new hn)
theorem RA.bsd (h:RA w0 F bs bx bd bh S x l W) (hu:Upd (fun b=>b=bs) W W') (hs:SF F bs W' (F1.ents S)):RA w0 F bs bx bd bh S x l W':=h.step ⟨fun b hb=>.inl hb,hu.mono (fun _ _ e=>.inr e)⟩ hs
theorem LN.or_of (hl:LN (NB W) W' A n c y) (h:RA w0 F bs bx bd bh S x l W):LN (OR F bs bx bd bh) W' A n c y:=hl.mono (fun b _ hb=>by
 have hb:W.heap.size<=b:=hb;have:=h.lt;exact⟨h.sf.off_new hb,by omega,by omega,by omega⟩)
theorem RA.setx (h:RA w0 F bs bx bd bh S x l W) (hu:Upd (fun b=>b=bx) W W') (hk:W'.heap[bx]?=some (.cells (xc bs bd bh l' x'.n x'.q x'.C.length) 77 (0,0))) (hds:x'.ds=x.ds) (hD:l'.DC=l.DC)
 (h1:LN (OR F bs bx bd bh) W l'.R l'.m l'.d (x'.n0*10 ^ 36)) (h2:LN (OR F bs bx bd bh) W l'.C l'.mc l'.dc x'.cur) (h3:LN (OR F bs bx bd bh) W l'.G l'.mg l'.dg x'.giv) (h4:LN (OR F bs bx bd bh) W l'.E l'.me l'.de x'.fre) (h5:LN (OR F bs bx bd bh) W l'.A l'.ma l'.da x'.all):RA w0 F bs bx bd bh S x' l' W':=by
 have ho:∀b,b=bx->b=bx\/b=bd\/b=bh:=fun b h=>.inl h;exact⟨h.nw.then hu (fun b hb e=>by have:=h.bg.2.1;omega),h.sf.upd_off hu (fun b hb e=>h.off.1 (e▸hb)) h.nd.1,h.fg,h.bg,h.off,h.nd,hk,by rw[hD];exact(hu.block _ h.lt.2.2.1 (Ne.symm h.nd.2.2.2.1)).trans h.db,by rw[hds];exact(hu.block _ h.lt.2.2.2 (Ne.symm h.nd.2.2.2.2.1)).trans h.hb,
  h1.or_own hu ho,h2.or_own hu ho,h3.or_own hu ho,h4.or_own hu ho,h5.or_own hu ho,by rw[hds,hD];exact h.dl.imp (fun _ _ _ _ hl=>hl.or_own hu ho)⟩
end
end Gz
namespace F1
structure Sm (x:Rn):Prop where
 q:x.q<=1000
 c:x.C.length<=1000
 g:x.giv<Gn.B ^ 20
 d:x.ds.length=4
theorem tot_one_le {α:Type} (g:α->Bool):∀l:List α,tot (fun x=>one (g x)) l<=l.length
 | []=>zR _
 | a :: l=>by
   rw[zap,List.length_cons];have:=tot_one_le g l;have:one (g a)<=1:=by unfold one;split<;>omega
   omega
theorem Sm.f_le {x:Rn} (h:Sm x) (p:Nat):x.f p<=1005:=by
 unfold Rn.f occ coc;have h1:=tot_one_le (fun d:Del=>d.on && d.per == p) x.ds;have h2:=tot_one_le (fun c:Rec=>c.1 == p) x.C;have h3:one (p == x.q)<=1:=by unfold one;split<;>omega
 have:=h.d;have:=h.c;omega
end F1
namespace Gz
open Go Go.RowKit Go.Proofs Gl
abbrev zqQ (b o:Nat):Value:=.pointer (some ⟨b,o,none⟩)
theorem nb30 {a:Nat} (h:a<Gn.B ^ 30):F1.nb a<=255:=by
 have:=F1.nb_le (x:=a) (k:=240) (by
  have e:Gn.B=256 ^ 8:=by decide
  rw[e,<-Nat.pow_mul]at h;exact h)
 omega
theorem okay_run {S:F1.Sta} {x:F1.Rn} (hb:F1.Bks S x) (hg:F1.Gd x) (hs:F1.Sm x):Okay S:=by
 have hR:∀p,p<=x.q->x.R p<Gn.B ^ 30:=fun p hp=>Nat.lt_of_le_of_lt (zT (hg.rt p hp) (by have:=hg.rg;omega)) (zqL hs.g (@zbe 20 30 (by omega)));have hc:=hb.counts;have hh:x.hold<=4:=by rw[<-hs.d];exact F1.tot_one_le (fun d:F1.Del=>d.on) x.ds
 have h1:=hs.q;have h2:=hs.c;refine⟨⟨fun y hy=>?_,fun y hy=>?_⟩,fun y hy=>?_,by omega⟩
 · have:=((hb.bk.mem y).1 hy).1;show y.1<_;omega
 · rw[hb.c]at hy;have:=(hg.ct y hy).1;show y.1<_;omega
 · obtain⟨a,b,c⟩:=(hb.bk.mem y).1 hy;have e1:y.2.1=x.R y.1:=congrArg Prod.fst c;have e2:y.2.2=x.f y.1:=congrArg Prod.snd c;refine⟨?_,?_⟩
   · rw[e1];exact nb30 (hR _ a)
   · rw[e2];have:=hs.f_le y.1;omega
theorem okay_puth {S:F1.Sta} {p r c:Nat} (h:Okay S) (hp:p<18446744073709551616) (hr:r<Gn.B ^ 30) (hc:c<18446744073709551616) (hl:S.h.length+S.c.length+1<=100000):Okay { S with h:=F1.putR S.h (p,r,c) }:=by
 refine⟨h.fine.putH hp r c,fun y hy=>?_,by have:=F1.len_put S.h (p,r,c);show(F1.putR S.h _).length+S.c.length<=_;omega⟩;rcases F1.mem_put hy with rfl|hy
 · exact⟨nb30 hr,hc⟩
 · exact h.fit y hy
theorem few_run {S:F1.Sta} {x:F1.Rn} (hb:F1.Bks S x) (hs:F1.Sm x):S.h.length+S.c.length+1<=100000:=by
 have hc:=hb.counts;have hh:x.hold<=4:=by rw[<-hs.d];exact F1.tot_one_le (fun d:F1.Del=>d.on) x.ds
 have h2:=hs.c;omega
end Gz
namespace Gz
open Go Go.RowKit Go.Proofs Gl
section
variable {w0 W:World} {F:Nat->Prop} {bs bx bd bh:Nat} {S:F1.Sta} {x:F1.Rn} {l:RL}
def RL.nilC (l:RL):RL:={ l with C:=none,mc:=0,dc:=0 }
theorem r27 (h:RA w0 F bs bx bd bh S x l W) (hb:F1.Bks S x) (hg:F1.Gd x) (hs:F1.Sm x):
 Calls Tryz.prog 27 #[.pointer (some ⟨bs,0,none⟩),.int .u64 16,.agg (xv l x.n x.q).toArray] W (StartR F bs W (F1.ents (F1.close S (x.q+1) x.n x.cur)) (.tuple #[.agg (xv l.nilC x.n (x.q+1)).toArray,.agg #[.slice none 0 0]])):=by
 have hq:=hs.q;have hn:x.n<18446744073709551616:=by have:=hg.n2;have:=hg.n3;omega
 have hh:=hb.bk.his (zR _) (F1.f_q x);have hd:x.R x.q+x.cur / x.n<=x.giv:=by have:=hg.rg;have:=Nat.div_le_self x.cur x.n;omega
 have hr:x.R x.q+x.cur / x.n<Gn.B ^ 30:=Nat.lt_of_le_of_lt hd (zqL hs.g (@zbe 20 30 (by omega)));have e3:(F1.hist S (x.q+1-1)).1=x.R x.q:=by rw[Nat.add_sub_cancel,hh]
 exact close_c (S:=S) (cur:=x.cur) ⟨0,x.n,l.R,l.m,l.d,false,0,false,x.q+1,l.C,l.mc,l.dc,none,0,0,none,0,0⟩ (okay_run hb hg hs) h.sf h.lc.lq hg.n1 hn (Nat.succ_pos _) (show x.q+1+1<_ by omega) (by show(F1.hist S (x.q+1-1)).1+x.cur / x.n<_;rw[e3];exact hr) (by show Okay { S with h:=F1.putR S.h (x.q+1,(F1.hist S (x.q+1-1)).1+x.cur / x.n,1) };rw[e3];exact okay_puth (okay_run hb hg hs) (by omega) hr (by decide) (few_run hb hs))
end
end Gz
namespace Gz
open Go Go.RowKit Go.Proofs Gl
open List renaming getElem_toArray->gD,getElem_cons_succ->gE,getElem_cons_zero->gZ
attribute [local go_sem] Oper.semAt_some
def RunR (w0:World) (F:Nat->Prop) (bs bx bd bh:Nat) (S':F1.Sta) (x':F1.Rn) (W:World) (e:Ending) (W':World):Prop:=e=.returned (.tuple #[])/\∃F' l',RA w0 F' bs bx bd bh S' x' l' W'/\RS F F' bs bx bd bh W W'
theorem xv_at (bs bd bh:Nat) (l:RL) (n q k:Nat) (j:Nat) (v:Value) (hv:(xv l n q)[j]?=some v):(xc bs bd bh l n q k)[1+j]?=some v:=by
 have hj:j<(xv l n q).length:=(List.getElem?_eq_some_iff.1 hv).1;unfold xc;rw[List.getElem?_toArray,Nat.add_comm,List.getElem?_cons_succ,List.getElem?_append_left hj];exact hv
theorem there_row {w:World} {b:Nat} {cs:Array Value} {t:TypeId} (h:w.heap[b]?=some (.cells cs t (0,0))) {o n:Nat} (hn:o+n<=cs.size):w.there b o n:=fun j hj=>
 ⟨by rw[zaa h (o+j) (cs[o+j]'(by omega)) (Array.getElem?_eq_getElem _)];rfl,zad h _⟩
theorem setx_row {w:World} {bs bx bd bh n q k n' q':Nat} {l:RL} (h:w.heap[bx]?=some (.cells (xc bs bd bh l n q k) 77 (0,0))) (l':RL) (e:l' = { l with R:=l'.R,m:=l'.m,d:=l'.d,C:=l'.C,mc:=l'.mc,dc:=l'.dc,DC:=l'.DC }):
 w.there bx 1 10/\(w.setCells bx 1 (xv l' n' q')).heap[bx]?=some (.cells (xc bs bd bh l' n' q' k) 77 (0,0))/\Upd (fun b=>b=bx) w (w.setCells bx 1 (xv l' n' q')):=by
 refine⟨there_row h (by simp[xc,xv]),?_,Upd.setCells (S:=fun b=>b=bx) rfl _ _ _⟩;rw[zan _ _ h,Ex.withObj_heap _ _ _ _ (zqA.1 h).1,if_pos rfl];have e2:Ex.splice (xc bs bd bh l n q k) 1 (xv l' n' q')=xc bs bd bh { l with R:=l'.R,m:=l'.m,d:=l'.d,C:=l'.C,mc:=l'.mc,dc:=l'.dc,DC:=l'.DC } n' q' k:=by
  simp only[xc,xv,Ex.splice,List.setIfInBounds_toArray,List.cons_append,List.nil_append,List.set_cons_zero,List.set_cons_succ,Nat.reduceAdd]
 rw[e2,<-e]
theorem rclose_c {w0 W:World} {F:Nat->Prop} {bs bx bd bh:Nat} {S:F1.Sta} {x:F1.Rn} {l:RL} (h:RA w0 F bs bx bd bh S x l W) (hb:F1.Bks S x) (hg:F1.Gd x) (hs:F1.Sm x):
 Calls Tryz.prog 87 #[.pointer (some ⟨bx,0,none⟩)] W (RunR w0 F bs bx bd bh (F1.close S (x.q+1) x.n x.cur) x.clo W):=by
 have H:=zqH h;have a3:=fun W' (hn:New W W')=>r27 (h.new hn) hb hg hs;have a5:∀w':World,w'.heap[bx]?=some (.cells (xc bs bd bh l x.n x.q x.C.length) 77 (0,0))->w'.rangeAt bx 1 (xv l x.n x.q):=fun w' hk j v hv=>zaa hk (1+j) v (xv_at _ _ _ _ _ _ _ j v hv);obtain⟨V,hV⟩:=zE (xv l x.n x.q);obtain⟨V2,a1⟩:=zE (xv l.nilC x.n (x.q+1));have a6:(Tryz.prog.info? 28).map (·.size)=some V2.toArray.size:=by rw[a1];kernel_rfl
 have h1:V2.toArray.all (·.oneCell')=true:=by rw[a1];simp[xv,Value.oneCell']
 have a7:∀w':World,w'.heap[bx]?=some (.cells (xc bs bd bh l x.n x.q x.C.length) 77 (0,0)) → (Instr.loadAt 28 (.pointer (some ⟨bx,1,none⟩))).run Tryz.prog w'=.ok (.agg V.toArray) w':=fun w' hk=>by
  rw[hV];exact run_loadAt_mid w' bx 1 28 _ _ (a5 w' hk) Tryz.underlying28 rfl (by kernel_rfl)
 simp only[<-hV,<-a1]at a3;have b0:=zqH a3;have a8:=zqH a1;have b5:=zqH a6;have HO:=zqH h1;have b6:=zqH a7;clear h hb hg hs hV a1 a6 h1 a3 a5 a7;go_enter Tryz.func87,Tryz.ntmps87;refine beginM 15 (fun w'=>w'.heap[bx]?=some (.cells (xc bs bd bh l x.n x.q x.C.length) 77 (0,0))) (by kernel_rfl) (fun hcl=>?_);refine takeP (b:=?b) [(0,zqQ bx 0),(1,zqQ bx 0),(2,zqQ bx 0),(3,zqQ bx 0),(4,zqQ bs 0),(5,zqQ bx 0),(6,zqQ bx 0),(7,zqQ bx 1),(8,.agg V.toArray)] hcl H.out.xb (fun w' hk=>?hy) (fun q2=>?_)
 case hy=>
  have c0:=zaa hk 0 (.pointer (some ⟨bs,0,none⟩)) rfl;have c1:=b6.out w' hk
  iterate 8 (refine RunsM.cons rfl rfl (by go_simp) ?_;simp only[Act.put,gD,gE,gZ,gA,gB,gC])
  refine RunsM.cons rfl rfl (zbm (ty:=28) (x:=.tmp 10) rfl rfl c1) ?_
  simp only[Act.put,gD,gE,gZ,gA,gB,gC];exact rfl
 refine oneP 9 rfl q2 (fun K hK=>?_);go_simp;refine(b0.out W.drew (Upd.refl _ W).drew).mono ?_
 rintro e W2 ⟨rfl,F',h2,st⟩;have HR:=zqH ((H.out.new (Upd.refl _ W).drew).step st h2);have HS:=zqH ((RS.of_new (F:=F) (bs:=bs) (bx:=bx) (bd:=bd) (bh:=bh) (Upd.refl _ W).drew).trans (RS.of_step st));refine hK _ _ (fun _=>HR.out.xb) (fun q3=>?_);clear h2 st q2 hK K hcl;refine pureP (b:=?b2) [(10,.tuple #[.agg V2.toArray,.agg #[.slice none 0 0]]),(11,.agg V2.toArray),(12,.agg #[.slice none 0 0]),(13,zqQ bx 0),(14,zqQ bx 1)] q3 HR.out.xb (fun w'=>?hy) (fun q4=>?_)
 case hy=>
  iterate 5 (refine RunsM.cons rfl rfl (by go_simp) ?_;simp only[Act.put,gD,gE,gZ,gA,gB,gC])
  exact rfl
 refine oneP 15 rfl q4 (fun K hK=>?_);have T:=zqH (setx_row (n':=x.n) (q':=x.q+1) HR.out.xb l.nilC rfl);have b7:V2.toArray.size=10:=by rw[a8.out];simp[xv]
 refine wp_store_mid 28 (.tmp 16) (.tmp 13) rfl bx 1 V2.toArray rfl rfl (by rw[b7];exact T.out.1) b5.out HO.out ?_
 have eV:V2.toArray.toList=xv l.nilC x.n (x.q+1):=by rw[a8.out]
 rw[eV];obtain⟨W3,a9⟩:=zE (W2.setCells bx 1 (xv l.nilC x.n (x.q+1)));rw[<-a9]at T ⊢;have HN:=zqH (HR.out.setx (x':=x.clo) (l':=l.nilC) T.out.2.2 T.out.2.1 rfl rfl HR.out.lr (LN.nil _ _) HR.out.lg HR.out.le HR.out.la);have HT:=zqH (HS.out.trans (RS.of_own (F:=F') (bs:=bs) (bd:=bd) (bh:=bh) T.out.2.2 (fun b h=>.inl h)));refine hK _ _ (offM (by kernel_rfl)) (fun q5=>?_);clear q4 q3 hK K a9 T HR HS;refine doneM (by kernel_rfl) ?_ _;go_wp2;refine bodyPost_end (results_none rfl _ _ _) rfl ?_
 exact⟨rfl,F',l.nilC,HN.out,HT.out⟩
end Gz
namespace F1
theorem tot_take {α:Type} (g:α->Nat) {l:List α} {i:Nat} {a:α} (h:l[i]?=some a):tot g (l.take (i+1))=tot g (l.take i)+g a:=by
 have hi:=(List.getElem?_eq_some_iff.1 h)
 obtain⟨hi,e⟩:=hi;rw[List.take_succ_eq_append_getElem hi,e];simp[tot]
end F1

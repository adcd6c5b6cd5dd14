/- Part of the proof. -/
import Derived.Test.YtbhnjkegkadodaaGreatDoorG38
set_option linter.all false
set_option maxRecDepth 100000
set_option maxHeartbeats 8000000
namespace Go.Proofs.YtbhnjkegkadodaaGreatDoor
open Go Go.RowKit Go.Proofs Gl
attribute [local go_sem] Oper.semAt_some
theorem claim_c {F:Nat->Prop} {bs y dp:Nat} {Ad As:Option Addr} {nd cd ns cs:Nat} {w:World} {S:F1.Sta} {C:List F1.Rec} {s0 s1:F1.Clm} (V:Val) (hS:Okay S) (h:SF F bs w (F1.ents S)) (hy:LQ (fun b=>b≠bs) w As ns cs y) (hp0:0<V.p) (hp:V.p<18446744073709551616) (hdp:dp+1<18446744073709551616)
 (hcv:∀x ∈ S.c,x.1<18446744073709551616/\x.1<=V.p-1/\x.2.1<18446744073709551616/\x.2.2<18446744073709551616) (hC:C=S.c.filter (fun x=>decide (dp<x.1))) (hs0:s0=⟨0,y,(F1.hist S dp).1,0⟩) (hs1:s1=C.foldl (F1.cutS S) s0) (hok:F1.RunOk (Gn.B ^ 1000) S (V.p-1) C s0):
 Calls Tryz.prog 19 #[.pointer (some ⟨bs,0,none⟩),.int .u64 16,V.v,delV Ad nd cd dp As ns cs] w (ClaimR F bs w (F1.ents S) (F1.earn S (V.p-1) s1).x (s1.k:Int)):=by
 obtain⟨r,t,A2,n2,c2,j,u,b,p,A7,n7,c7,A8,n8,c8,A9,n9,c9⟩:=V
 simp only at hp0 hp hcv hok
 unfold Val.v delV
 simp only
 obtain⟨W3,hW3⟩:∃W3,W3=((w.alloc (.cells #[.pointer (some ⟨bs,0,none⟩)] 34)).alloc (.cells #[.int .u64 16] 22)).alloc (.cells #[.int .u64 (r:Int),.int .u64 (t:Int),.slice A2 n2 c2,.bool j,.int .u64 (u:Int),.bool b,.int .u64 (p:Int),.slice A7 n7 c7,.slice A8 n8 c8,.slice A9 n9 c9] 28):=⟨_,rfl⟩
 obtain⟨hn3,hs3,k0,k1,k2⟩:=alloc3' rfl rfl hW3
 obtain⟨W6,hW6⟩:∃W6,W6=((W3.alloc (.cells #[.slice Ad nd cd,.int .u64 (dp:Int),.slice As ns cs] 55)).alloc (.cells #[.slice none 0 0] 26)).alloc (.cells #[.slice none 0 0] 26):=⟨_,rfl⟩
 obtain⟨hn6,hs6,k3,k4,k5⟩:=alloc3' rfl rfl hW6
 replace k0:=(hn6.block w.heap.size (by omega) id).trans k0
 replace k1:=(hn6.block (w.heap.size+1) (by omega) id).trans k1
 replace k2:=(hn6.block (w.heap.size+1+1) (by omega) id).trans k2
 rw[hs3]at k3 k4 k5 hs6
 have hn:=hn3.trans hn6
 obtain⟨q,hq⟩:∃q,q=p-1:=⟨_,rfl⟩
 have hpq:p-1=q:=hq.symm
 rw[hpq]at hcv hok ⊢
 have hwq:IntKind.u64.wrap ((p:Int)-1)=(q:Int):=by rw[IntKind.wrap_u64];omega
 have hql:q<18446744073709551616:=by omega
 have hdl:dp<18446744073709551616:=by omega
 have HSF:=zqH (h.new hn);have HHD:=zqH (fun W' (hsf:SF F bs W' (F1.ents S))=>history_c hS hdl hsf)
 have hsz:∀e ∈ F1.ents S,e.1.length<=1073741824/\e.2.length<=1073741824:=fun e he=>⟨by
  unfold F1.ents at he
  rcases List.mem_append.1 he with he|he<;>obtain⟨x,_,rfl⟩:=List.mem_map.1 he
  · show(F1.hk x.1).length<=_;simp[F1.hk,zah]
  · show(F1.ck x.1).length<=_;simp[F1.ck,zah],hS.val e he⟩
 have HCV:=zqH hcv;have HSO:=zqH hS;have HOK:=zqH hok;have HSZ:=zqH hsz;have HC:=zqH hC;have HS0:=zqH hs0;have HS1:=zqH hs1;have HPQ:=zqH (And.intro hpq (And.intro hql hdp))
 have HK:=zqH (And.intro k0 (And.intro k1 (And.intro k2 (And.intro k3 (And.intro k4 k5)))));have HN:=zqH hn;have HS6:=zqH hs6;have HOF:=zqH (fun b (hb:w.heap.size<=b)=>h.off_new hb);have HY:=zqH ((hy.mono (Q':=fun b=>b≠bs/\b<w.heap.size) (fun b hb hq=>⟨hq,hb⟩)).new hn);have HBS:=zqH h.bs_lt
 have c36:=zaa k2 6 _ rfl
 have c42:=zaa k3 2 _ rfl
 clear k0 k1 k2 k3 k4 k5 hn hs6 hn3 hs3 hn6 hS h hy hq hpq hcv hok hsz hC hs0 hs1
 refine(callsIn_wide (n:=0)).1 ?_
 refine callsIn_of_wp_marks Tryz.func19 rfl trivial ?_ rfl
 simp only[Tryz.ntmps19,List.size_toArray,List.length_cons,List.length_nil,Nat.reduceAdd,Nat.reduceSub,Array.replicate_succ,Array.replicate_zero,List.push_toArray,List.append_toArray,List.nil_append,List.cons_append]
 refine wpIn_mono (Q:=noPanic _) ?_ (fun e a w h=>noPanic_of h)
 refine(wpIn_wide (n:=0)).2 ?_
 go_upto_region 2 with fail
 rw[<-hW3,<-hW6]
 clear hW3 hW6
 go_cut [11,12,13] from 18 to 22 (fun s11 s12 s13 wx=>∃a11 a13:Nat,s11=.pointer (some ⟨a11,0,none⟩)/\s12=.int .u64 (q:Int)/\s13=.pointer (some ⟨a13,0,none⟩)/\Hid (wx.heap[a11]?=some (.cells #[.slice As ns cs] 26 (0,0))/\wx.heap[a13]?=some (.cells #[.int .i64 0] 3 (0,0))/\a11≠a13/\W6.heap.size<=a11/\W6.heap.size<=a13/\New W6 wx))
 case first=>
  have fa0:(W6.alloc (.cells #[.slice none 0 0] 26)).cell? ⟨w.heap.size+1+1,6,none⟩=some (.int .u64 (p:Int)):=((Upd.alloc (fun _=>False) _ _).cell (a:=⟨w.heap.size+1+1,6,none⟩) (zqB W6 _ c36) id).trans c36
  have fb0:(W6.alloc (.cells #[.slice none 0 0] 26)).cell? ⟨w.heap.size+1+1+1,2,none⟩=some (.slice As ns cs):=((Upd.alloc (fun _=>False) _ _).cell (a:=⟨w.heap.size+1+1+1,2,none⟩) (zqB W6 _ c42) id).trans c42
  have fa1:(W6.alloc (.cells #[.slice As ns cs] 26)).cell? ⟨w.heap.size+1+1,6,none⟩=some (.int .u64 (p:Int)):=((Upd.alloc (fun _=>False) _ _).cell (a:=⟨w.heap.size+1+1,6,none⟩) (zqB W6 _ c36) id).trans c36
  have fb1:(W6.alloc (.cells #[.slice As ns cs] 26)).cell? ⟨w.heap.size+1+1+1,2,none⟩=some (.slice As ns cs):=((Upd.alloc (fun _=>False) _ _).cell (a:=⟨w.heap.size+1+1+1,2,none⟩) (zqB W6 _ c42) id).trans c42
  have fa2:(W6.alloc (.cells #[.int .i64 0] 3)).cell? ⟨w.heap.size+1+1,6,none⟩=some (.int .u64 (p:Int)):=((Upd.alloc (fun _=>False) _ _).cell (a:=⟨w.heap.size+1+1,6,none⟩) (zqB W6 _ c36) id).trans c36
  have fb2:(W6.alloc (.cells #[.int .i64 0] 3)).cell? ⟨w.heap.size+1+1+1,2,none⟩=some (.slice As ns cs):=((Upd.alloc (fun _=>False) _ _).cell (a:=⟨w.heap.size+1+1+1,2,none⟩) (zqB W6 _ c42) id).trans c42
  have fa3:((W6.alloc (.cells #[.slice none 0 0] 26)).alloc (.cells #[.int .i64 0] 3)).cell? ⟨w.heap.size+1+1,6,none⟩=some (.int .u64 (p:Int)):=(((Upd.alloc (fun _=>False) _ _).trans (Upd.alloc _ _ _)).cell (a:=⟨w.heap.size+1+1,6,none⟩) (zqB W6 _ c36) id).trans c36
  have fb3:((W6.alloc (.cells #[.slice none 0 0] 26)).alloc (.cells #[.int .i64 0] 3)).cell? ⟨w.heap.size+1+1+1,2,none⟩=some (.slice As ns cs):=(((Upd.alloc (fun _=>False) _ _).trans (Upd.alloc _ _ _)).cell (a:=⟨w.heap.size+1+1+1,2,none⟩) (zqB W6 _ c42) id).trans c42
  have fa4:((W6.alloc (.cells #[.slice As ns cs] 26)).alloc (.cells #[.int .i64 0] 3)).cell? ⟨w.heap.size+1+1,6,none⟩=some (.int .u64 (p:Int)):=(((Upd.alloc (fun _=>False) _ _).trans (Upd.alloc _ _ _)).cell (a:=⟨w.heap.size+1+1,6,none⟩) (zqB W6 _ c36) id).trans c36
  have fb4:((W6.alloc (.cells #[.slice As ns cs] 26)).alloc (.cells #[.int .i64 0] 3)).cell? ⟨w.heap.size+1+1+1,2,none⟩=some (.slice As ns cs):=(((Upd.alloc (fun _=>False) _ _).trans (Upd.alloc _ _ _)).cell (a:=⟨w.heap.size+1+1+1,2,none⟩) (zqB W6 _ c42) id).trans c42
  have fa5:((W6.alloc (.cells #[.int .i64 0] 3)).alloc (.cells #[.slice none 0 0] 26)).cell? ⟨w.heap.size+1+1,6,none⟩=some (.int .u64 (p:Int)):=(((Upd.alloc (fun _=>False) _ _).trans (Upd.alloc _ _ _)).cell (a:=⟨w.heap.size+1+1,6,none⟩) (zqB W6 _ c36) id).trans c36
  have fb5:((W6.alloc (.cells #[.int .i64 0] 3)).alloc (.cells #[.slice none 0 0] 26)).cell? ⟨w.heap.size+1+1+1,2,none⟩=some (.slice As ns cs):=(((Upd.alloc (fun _=>False) _ _).trans (Upd.alloc _ _ _)).cell (a:=⟨w.heap.size+1+1+1,2,none⟩) (zqB W6 _ c42) id).trans c42
  have fa6:((W6.alloc (.cells #[.int .i64 0] 3)).alloc (.cells #[.slice As ns cs] 26)).cell? ⟨w.heap.size+1+1,6,none⟩=some (.int .u64 (p:Int)):=(((Upd.alloc (fun _=>False) _ _).trans (Upd.alloc _ _ _)).cell (a:=⟨w.heap.size+1+1,6,none⟩) (zqB W6 _ c36) id).trans c36
  have fb6:((W6.alloc (.cells #[.int .i64 0] 3)).alloc (.cells #[.slice As ns cs] 26)).cell? ⟨w.heap.size+1+1+1,2,none⟩=some (.slice As ns cs):=(((Upd.alloc (fun _=>False) _ _).trans (Upd.alloc _ _ _)).cell (a:=⟨w.heap.size+1+1+1,2,none⟩) (zqB W6 _ c42) id).trans c42
  go_region
  all_goals go_wp2
  all_goals go_meet
  · have e1:(W6.alloc (.cells #[.slice As ns cs] 26)).heap.size=W6.heap.size+1:=zad _ _
    have g1:=Ex.alloc_new W6 (.cells #[.slice As ns cs] 26)
    have g2:=Ex.alloc_new (W6.alloc (.cells #[.slice As ns cs] 26)) (.cells #[.int .i64 0] 3)
    rw[e1]at g2
    exact⟨W6.heap.size,W6.heap.size+1,rfl,rfl,rfl,zqH ⟨(zaj _ (by rw[e1];omega)).trans g1,g2,by omega,Nat.le_refl _,by omega,((Upd.alloc _ _ _).trans (Upd.alloc _ _ _)).drew⟩⟩
  · have e1:(W6.alloc (.cells #[.int .i64 0] 3)).heap.size=W6.heap.size+1:=zad _ _
    have g1:=Ex.alloc_new W6 (.cells #[.int .i64 0] 3)
    have g2:=Ex.alloc_new (W6.alloc (.cells #[.int .i64 0] 3)) (.cells #[.slice As ns cs] 26)
    rw[e1]at g2
    exact⟨W6.heap.size+1,W6.heap.size,rfl,rfl,rfl,zqH ⟨g2,(zaj _ (by rw[e1];omega)).trans g1,by omega,by omega,Nat.le_refl _,((Upd.alloc _ _ _).trans (Upd.alloc _ _ _)).drew⟩⟩
 case rest=>
  obtain⟨a11,a13,rfl,rfl,rfl,hcu⟩:=hcut
  have kc:=hcu.out.2.2.2.2.2
  have c00:=zaa ((kc.block _ (zqA.1 HK.out.1).1 id).trans HK.out.1) 0 _ rfl
  have c10:=zaa ((kc.block _ (zqA.1 HK.out.2.1).1 id).trans HK.out.2.1) 0 _ rfl
  have c31:=zaa ((kc.block _ (zqA.1 HK.out.2.2.2.1).1 id).trans HK.out.2.2.2.1) 1 _ rfl
  have hfl:=fun W' R m d=>field120 W' R m d ((F1.hist S dp).2:Int)
  have HHC:=zqH (HHD.out wc (HSF.out.new kc))
  clear kc c36 c42 HSF
  go_upto_region 4 with(go_at_call 58;refine HHC.out.mono ?_;rintro e w1 ⟨Re,me,de,rfl,hre,hsf1,hu1⟩;have H1:=zqH (And.intro hre (And.intro hsf1 hu1));clear HHC hre hsf1 hu1)
  obtain⟨a14,ha14⟩:∃a14,a14=w1.heap.size:=⟨_,rfl⟩
  obtain⟨W7,hW7⟩:∃W7,W7=w1.alloc (.cells #[.slice Re me de] 26):=⟨_,rfl⟩
  have s7:W7.heap.size=a14+1:=by rw[hW7,ha14];exact zad _ _
  have n7:New w1 W7:=by rw[hW7];exact Upd.alloc _ _ _
  have k14:=Ex.alloc_new w1 (.cells #[.slice Re me de] 26)
  rw[<-hW7,<-ha14]at k14
  rw[<-hW7,<-ha14]
  have HA:=zqH (And.intro ha14 (And.intro s7 (And.intro n7 k14)))
  clear hW7 s7 n7 k14 ha14
  have hst:∀m,(store ⟨W7.heap.size,0,none⟩ (.func (.func 59) #[] #[.pointer (some ⟨w.heap.size,0,none⟩),.pointer (some ⟨w.heap.size+1,0,none⟩),.pointer (some ⟨w.heap.size+1+1+1+1+1,0,none⟩),.pointer (some ⟨a11,0,none⟩),.pointer (some ⟨a14,0,none⟩)]) m).run Tryz.prog (W7.alloc (.cells #[.nilFunc] 122))=.ok () ((W7.alloc (.cells #[.nilFunc] 122)).setCell ⟨W7.heap.size,0,none⟩ (.func (.func 59) #[] #[.pointer (some ⟨w.heap.size,0,none⟩),.pointer (some ⟨w.heap.size+1,0,none⟩),.pointer (some ⟨w.heap.size+1+1+1+1+1,0,none⟩),.pointer (some ⟨a11,0,none⟩),.pointer (some ⟨a14,0,none⟩)])):=fun m=>by
   have kb:=Ex.alloc_new W7 (.cells #[.nilFunc] 122)
   rw[run_store Tryz.prog _ _ _ _ rfl]
   simp[zaa kb 0 _ rfl,zac kb 0]
  go_upto_region 5 with fail
  obtain⟨W8,hW8⟩:∃W8,W8=W7.alloc (.cells #[.func (.func 59) #[] #[.pointer (some ⟨w.heap.size,0,none⟩),.pointer (some ⟨w.heap.size+1,0,none⟩),.pointer (some ⟨w.heap.size+1+1+1+1+1,0,none⟩),.pointer (some ⟨a11,0,none⟩),.pointer (some ⟨a14,0,none⟩)]] 122):=⟨_,rfl⟩
  rw[<-hW8]
  have s8:W8.heap.size=W7.heap.size+1:=by rw[hW8];exact zad _ _
  have n8:New W7 W8:=by rw[hW8];exact Upd.alloc _ _ _
  have k15:=Ex.alloc_new W7 (.cells #[.func (.func 59) #[] #[.pointer (some ⟨w.heap.size,0,none⟩),.pointer (some ⟨w.heap.size+1,0,none⟩),.pointer (some ⟨w.heap.size+1+1+1+1+1,0,none⟩),.pointer (some ⟨a11,0,none⟩),.pointer (some ⟨a14,0,none⟩)]] 122)
  rw[<-hW8]at k15
  obtain⟨hcu1,hcu2,hcu3,hcu4,hcu5,kc⟩:=hcu.out
  obtain⟨ha14,s7,n7,k14⟩:=HA.out
  obtain⟨hre,hsf1,hu1⟩:=H1.out
  have hkc:∀X o,wc.heap[X]?=some o->w.heap.size<=X->W8.heap[X]?=some o:=fun X o hx hge=>
   ((n7.trans n8).block X (by have:=hu1.size;have:=(zqA.1 hx).1;omega) id).trans ((hu1.block X (zqA.1 hx).1 (by have:=HBS.out;omega)).trans hx)
  have hk6:∀X o,W6.heap[X]?=some o->w.heap.size<=X->W8.heap[X]?=some o:=fun X o hx hge=>hkc X o ((kc.block X (zqA.1 hx).1 id).trans hx) hge
  have r0:=hk6 _ _ HK.out.1 (Nat.le_refl _)
  have r1:=hk6 _ _ HK.out.2.1 (by omega)
  have r3:=hk6 _ _ HK.out.2.2.2.1 (by omega)
  have r4:=hk6 _ _ HK.out.2.2.2.2.1 (by omega)
  have r5:=hk6 _ _ HK.out.2.2.2.2.2 (by omega)
  have hw6:w.heap.size+6=W6.heap.size:=by have:=HS6.out;omega
  have r11:=hkc _ _ hcu1 (by omega)
  have r13:=hkc _ _ hcu2 (by omega)
  have r14:=(n8.block _ (zqA.1 k14).1 id).trans k14
  have u8':Upd (fun b=>b=bs) w W8:=((HN.out.trans kc).mono (fun _ _ h=>h.elim)).trans (hu1.trans ((n7.trans n8).mono (fun _ _ h=>h.elim)))
  have HR:=zqH (And.intro r0 (And.intro r1 (And.intro r4 (And.intro r5 (And.intro r11 (And.intro r13 (And.intro r14 k15)))))))
  have lre:LN (fun b=>wc.heap.size<=b/\b<a14) W8 Re me de (F1.hist S dp).1:=(hre.mono (Q':=fun b=>wc.heap.size<=b/\b<a14) (fun b hb hq=>⟨hq,by omega⟩)).new (n7.trans n8)
  have hac:wc.heap.size<=a14:=by have:=hu1.size;omega
  have ucw:Upd (fun b=>b=bs) wc W8:=hu1.trans ((n7.trans n8).mono (fun _ _ h=>h.elim))
  have HCW:=zqH ucw
  clear ucw
  have H8:=zqH (And.intro u8' (And.intro (hsf1.new (n7.trans n8)) (And.intro lre (show a14<W7.heap.size/\W7.heap.size<W8.heap.size/\wc.heap.size<=a14 from⟨by omega,by omega,hac⟩))))
  have HW6:=zqH hw6
  have d0:=zaa r0 0 _ rfl;have d1:=zaa r1 0 _ rfl;have d3:=zaa r3 1 _ rfl
  clear hW8 s8 n8 k15 hcu1 hcu2 hcu3 hcu4 hcu5 kc ha14 s7 n7 k14 hre hsf1 hu1 hkc hk6 r0 r1 r3 r4 r5 hw6 r11 r13 r14 u8' lre hac hst c00 c10 c31 hfl
  go_wp2_with (go_at_call 62;refine(cuts_c (w:=W8) (bs:=bs) (fr:=dp) (la:=q)).mono ?_;rintro e w9 ⟨rfl,hn9,e1,e2,e3,e4⟩;have H9:=zqH (And.intro hn9 (And.intro e1 (And.intro e2 (And.intro e3 e4))));clear hn9 e1 e2 e3 e4)
  refine(wpIn_wide (n:=0)).1 ?_
  have hs9:=H9.out.1.size
  have h8w:=H8.out.1.size
  have hb:=HBS.out
  have hw6:=HW6.out
  obtain⟨hcu1,hcu2,hcu3,hcu4,hcu5,kc⟩:=hcu.out
  obtain⟨r0,r1,r4,r5,r11,r13,r14,k15⟩:=HR.out
  obtain⟨u8',hsf8,lre,hl1,hl2,hl3⟩:=H8.out
  obtain⟨hn9,e1,e2,e3,e4⟩:=H9.out
  have hkc:=kc.size
  have hla:=(zqA.1 hcu1).1
  have hlb:=(zqA.1 hcu2).1
  have lb2:=zqB w9 _ e2
  simp only at lb2
  obtain⟨base,bm,D,A,n,c,vs,ps,g1,g2,g3,g4,g5,g6⟩:=hsf8
  obtain⟨css,gc⟩:=g2.named
  have hcm:CutM base bm n c bs (W8.heap.size+1+1) (W8.heap.size+1+1+1) (W8.heap.size+1) W8.heap.size dp q D A vs ps css w9:=⟨gc.upd hn9 (fun _ _=>id),g1.upd hn9 id,e1,e2,e3,e4⟩
  have had:∀x,x=w.heap.size\/x=w.heap.size+1\/x=w.heap.size+1+1+1+1\/x=w.heap.size+1+1+1+1+1\/x=a11\/x=a13\/x=a14\/x=W7.heap.size->w.heap.size<=x/\x<W8.heap.size:=fun x hx=>by omega
  have kp9:∀(x:Nat) (o:Obj),W8.heap[x]?=some o->w9.heap[x]?=some o:=fun x o ho=>(hn9.block x (zqA.1 ho).1 id).trans ho
  have hcl:ClmI bs w.heap.size (w.heap.size+1) (w.heap.size+1+1+1+1) (w.heap.size+1+1+1+1+1) a11 a13 a14 W7.heap.size (fun x=>(x≠bs/\(x<w.heap.size\/(wc.heap.size<=x/\x<a14)\/W7.heap.size<x))/\x<w9.heap.size) s0 w9:=by
   rw[HS0.out]
   exact⟨kp9 _ _ r0,kp9 _ _ r1,kp9 _ _ r4,kp9 _ _ r13,kp9 _ _ k15,⟨none,0,0,kp9 _ _ r5,(LN.nil _ _).lq⟩,⟨As,ns,cs,kp9 _ _ r11,(((HY.out.new kc).upd HCW.out (fun x hx e=>hx.1 e)).new hn9).mono (fun x hx hq=>⟨⟨hq.1,.inl hq.2⟩,hx⟩)⟩,⟨Re,me,de,kp9 _ _ r14,(lre.lq.new hn9).mono (fun x hx hq=>⟨⟨by omega,.inr (.inl hq)⟩,hx⟩)⟩⟩
  have hfl:∀x,foot bm D A n c vs x->F x/\x<W8.heap.size/\x≠bs:=fun x hx=>⟨g3 x hx,g4 x (g3 x hx)⟩
  have u9:Upd (fun x=>x=bs) w w9:=u8'.trans (hn9.mono (fun _ _ h=>h.elim))
  have HCL:=zqH hcl;have HCM:=zqH hcm;have HAD:=zqH had;have HFL:=zqH hfl;have HU9:=zqH u9;have HRP:=zqH (And.intro g3 (And.intro g4 (And.intro g5 g6)))
  have HNE:=zqH (show a11≠a13/\a14≠a11/\a14≠a13/\w.heap.size+6<=a11/\w.heap.size+6<=a13/\w.heap.size+6<=a14/\w.heap.size+6<=W7.heap.size/\a14<W7.heap.size/\a11<W7.heap.size/\a13<W7.heap.size/\a11<wc.heap.size/\a13<wc.heap.size/\w.heap.size+6<=wc.heap.size/\wc.heap.size<=a14/\W7.heap.size<W8.heap.size from by refine⟨?_,?_,?_,?_,?_,?_,?_,?_,?_,?_,?_,?_,?_,?_,?_⟩<;>omega)
  have HSI:=zqH (show W8.heap.size+4<=w9.heap.size/\bs<w.heap.size/\w.heap.size+6<=W8.heap.size from⟨by omega,hb,by omega⟩)
  clear hs9 h8w hb hw6 hcu1 hcu2 hcu3 hcu4 hcu5 kc r0 r1 r4 r5 r11 r13 r14 k15 u8' lre hl1 hl2 hl3 hn9 e1 e2 e3 e4 hkc hla hlb lb2 g1 g2 g3 g4 g5 g6 gc hcm had kp9 hcl hfl u9 d0 d1 d3 HR H8 H9 HW6 HK HA HCW HS6 HN HY
  have hni:∀x,x=w.heap.size\/x=w.heap.size+1\/x=w.heap.size+1+1+1+1\/x=w.heap.size+1+1+1+1+1\/x=a11\/x=a13\/x=a14\/x=W7.heap.size->∀Z,¬Priv (fun x=>x=bs) w9.heap.size Z x:=fun x hx Z h=>by
   have:=HAD.out x hx
   have:=HSI.out
   exact h.elim (fun e=>by omega) (fun e=>by omega)
  obtain⟨hz1,hz2,hz3⟩:=HSI.out
  refine zbb (gf:=114) (lb:=#[.pointer (some ⟨W8.heap.size+1+1,0,none⟩),.pointer (some ⟨W8.heap.size+1+1+1,0,none⟩),.pointer (some ⟨W8.heap.size+1,0,none⟩),.pointer (some ⟨W8.heap.size,0,none⟩)]) rfl (fun args w=>zas 114 Tryz.func114 (by kernel_rfl) (by kernel_rfl) args w)
   (cuts1_gives (base:=base) (bm:=bm) (n:=n) (c:=c) (bs:=bs) (fp:=W8.heap.size+1+1) (lp:=W8.heap.size+1+1+1) (ip:=W8.heap.size+1) (sp:=W8.heap.size) (fr:=dp) (la:=q) (D:=D) (A:=A) (vs:=vs) (ps:=ps) (css:=css) HSO.out HRP.out.2.2.2 (by rw[HRP.out.2.2.2];exact HSZ.out) HPQ.out.2.2 HCV.out (fun h=>(HFL.out bs h).2.2 rfl) ⟨by omega,by omega,by omega,by omega⟩)
   (fun x _ _ vals he=>by rw[he];rfl) (fun x h=>by omega)
   (fun P Q hk hu=>hk.upd hu (fun x hx=>by have:=HFL.out x hx;omega) (hk.sto.upd hu (by omega)) (by omega) (by omega) (by omega) (by omega)) HCM.out
   (fun x W0 P Q vals hz he hu=>he)
   (fun Z (pre:List F1.Rec) V=>ClmI bs w.heap.size (w.heap.size+1) (w.heap.size+1+1+1+1) (w.heap.size+1+1+1+1+1) a11 a13 a14 W7.heap.size (fun x=>(x≠bs/\(x<w.heap.size\/(wc.heap.size<=x/\x<a14)\/W7.heap.size<x))/\(x<w9.heap.size\/Z<=x)) (pre.foldl (F1.cutS S) s0) V/\Upd (fun x=>x=bs) w V)
   (fun Z cd (pre:List F1.Rec) V=>False)
   (fun Z hZ s P Q hs hu=>⟨hs.1.upd hu (fun x hx h=>h.elim hx.1.1 (fun h=>hx.2.elim (fun h2=>by omega) (fun h2=>by omega))) (fun x hx=>hni x hx Z),hs.2.then hu (fun x hx h=>h.elim id (fun h=>by omega))⟩)
   (fun Z cd hZ s P Q hs hu=>hs)
   (fun Z hZ=>by
     have h:=HCL.out
     obtain⟨R1,m1,d1,x1,l1⟩:=h.er
     obtain⟨R2,m2,d2,x2,l2⟩:=h.ek
     obtain⟨R3,m3,d3,x3,l3⟩:=h.et
     exact⟨⟨h.es,h.ei,h.eg,h.en,h.ef,⟨R1,m1,d1,x1,l1.mono (fun x _ hx=>⟨hx.1,.inl hx.2⟩)⟩,⟨R2,m2,d2,x2,l2.mono (fun x _ hx=>⟨hx.1,.inl hx.2⟩)⟩,⟨R3,m3,d3,x3,l3.mono (fun x _ hx=>⟨hx.1,.inl hx.2⟩)⟩⟩,HU9.out⟩)
   (fun W0 vals a' V=>∃(x:F1.Rec) (cb:Nat),vals=#[.int .u64 (x.1:Int),.agg #[.int .u64 (x.2.1:Int),.int .u64 (x.2.2:Int)]]/\w9.heap.size+2<=cb/\V.heap[cb]?=some (.cells #[.int .u64 (x.2.1:Int),.int .u64 (x.2.2:Int)] 127 (0,0))/\a' = { tmps:=#[.pointer (some ⟨bs,0,none⟩),.int .u64 16,.agg #[.int .u64 (r:Int),.int .u64 (t:Int),.slice A2 n2 c2,.bool j,.int .u64 (u:Int),.bool b,.int .u64 (p:Int),.slice A7 n7 c7,.slice A8 n8 c8,.slice A9 n9 c9],.agg #[.slice Ad nd cd,.int .u64 (dp:Int),.slice As ns cs],.pointer (some ⟨w.heap.size,0,none⟩),.pointer (some ⟨w.heap.size+1,0,none⟩),.pointer (some ⟨w.heap.size+1+1,0,none⟩),.pointer (some ⟨w.heap.size+1+1+1,0,none⟩),.pointer (some ⟨w.heap.size+1+1+1+1,0,none⟩),.int .i64 0,.pointer (some ⟨w.heap.size+1+1+1+1+1,0,none⟩),.pointer (some ⟨a11,0,none⟩),.int .u64 (q:Int),.pointer (some ⟨a13,0,none⟩),.pointer (some ⟨a14,0,none⟩),.pointer (some ⟨W7.heap.size,0,none⟩),.int .u64 (x.1:Int),.pointer (some ⟨cb,0,none⟩),u18,u19,u20,u21,u22,.pointer (some ⟨bs,0,none⟩),.int .u64 16,.pointer (some ⟨w.heap.size+1+1+1,1,none⟩),.int .u64 (dp:Int),.agg #[.slice Re me de,.int .u64 ((F1.hist S dp).2:Int)],.agg #[.slice Re me de],.func (.func 59) #[] #[.pointer (some ⟨w.heap.size,0,none⟩),.pointer (some ⟨w.heap.size+1,0,none⟩),.pointer (some ⟨w.heap.size+1+1+1+1+1,0,none⟩),.pointer (some ⟨a11,0,none⟩),.pointer (some ⟨a14,0,none⟩)],.pointer (some ⟨bs,0,none⟩),.int .u64 16,.pointer (some ⟨w.heap.size+1+1+1,1,none⟩),.int .u64 (dp:Int),.int .u64 (q:Int),.func (.func 114) #[] #[.pointer (some ⟨W8.heap.size+1+1,0,none⟩),.pointer (some ⟨W8.heap.size+1+1+1,0,none⟩),.pointer (some ⟨W8.heap.size+1,0,none⟩),.pointer (some ⟨W8.heap.size,0,none⟩)],.int .u64 (x.1:Int),.agg #[.int .u64 (x.2.1:Int),.int .u64 (x.2.2:Int)],undef,undef,undef,undef,undef,undef,undef,undef,undef,undef,undef,undef,undef,undef,undef,undef,undef,undef,undef,undef,undef],defers:=[] })
   (fun W0 vals a' P Q hs hu=>by
     obtain⟨x,cb,h1,h2,h3,h4⟩:=hs
     exact⟨x,cb,h1,h2,(hu.block cb (zqA.1 h3).1 (by omega)).trans h3,h4⟩)
   ?assign ?body ?done ?stop
  case assign=>
   rintro l2 x W0 V vals K ⟨pre,post,hx⟩ hz hz0 hv hk hK'
   obtain⟨x1,x2,x3⟩:=x
   cases hv
   gi_wp2
   exact hK' _ _ (Upd.alloc _ _ _) ⟨(x1,x2,x3),V.heap.size,rfl,hz,Ex.alloc_new _ _,rfl⟩
  case body=>
   rintro Z pre x W0 V vals a' ⟨post,hx⟩ hZ1 hZ2 hi hu0 hv ⟨x',cb,hvals,hcb,kcb,rfl⟩ hk
   obtain⟨x1,x2,x3⟩:=x
   obtain⟨y1,y2,y3⟩:=x'
   have hxy:=hv.symm.trans hvals
   simp at hxy
   obtain⟨rfl,rfl,rfl⟩:x1=y1/\x2=y2/\x3=y3:=by omega
   clear hxy
   have hV:=hu0.size
   have hzV:w9.heap.size+2<=V.heap.size:=by omega
   have hiV:=hi.1.upd hu0 (fun x hx h=>h.elim hx.1.1 (fun h=>hx.2.elim (fun h2=>by omega) (fun h2=>by omega))) (fun x hx=>hni x hx Z)
   obtain⟨s,hs⟩:∃s,s=pre.foldl (F1.cutS S) s0:=⟨_,rfl⟩
   have hok:=HOK.out
   rw[HC.out,hx]at hok
   have hcok:=hok.at
   have hxm:(x1,x2,x3) ∈ S.c:=by
    have:(x1,x2,x3) ∈ S.c.filter (fun x=>decide (dp<x.1)):=by rw[hx];simp
    exact(List.mem_filter.1 this).1
   have hcx:=HCV.out _ hxm
   simp only at hcx
   rw[<-hs]at hiV hcok
   have hfold:(pre ++ [(x1,x2,x3)]).foldl (F1.cutS S) s0=F1.cutS S s (x1,x2,x3):=by rw[List.foldl_append,<-hs];rfl
   have hsm:SFm F bs bm V (F1.ents S):=⟨base,D,A,n,c,vs,ps,hk.sto,hk.map.map,HRP.out.1,fun x hx=>⟨by have:=(HRP.out.2.1 x hx).1;omega,(HRP.out.2.1 x hx).2⟩,by have:=HRP.out.2.2.1;omega,HRP.out.2.2.2⟩
   obtain⟨R1,m1,d1,q1,l1⟩:=hiV.er
   obtain⟨R2,m2,d2,q2,l2⟩:=hiV.ek
   obtain⟨R3,m3,d3,q3,l3⟩:=hiV.et
   obtain⟨n1,n2,n3,n4,n5,n6,n7,n8,n9,n10,n11,n12,n13,n14,n15⟩:=HNE.out
   have hea:=earns_m HSO.out hcx.1 hsm (zaa hiV.es 0 _ rfl) (zaa hiV.ei 0 _ rfl) q1 q2 q3 (HOF.out _ (by omega)) (HOF.out _ (by omega)) (HOF.out _ (by omega)) (by omega) (by omega) (by omega) (l1.mono (fun x _ hx=>hx.1.1)) (l2.mono (fun x _ hx=>hx.1.1)) (l3.mono (fun x _ hx=>hx.1.1)) hcok.b1 hcok.b2
   have vf:=zaa hiV.ef 0 _ rfl
   have HUW:=zqH (hi.2.then hu0 (fun x hx h=>h.elim id (fun h=>by omega)))
   have hsk:s.k<=100000:=by rw[hs,F1.fold_k,HS0.out];have:=HSO.out.few;have:=List.length_filter_le (fun x=>decide (dp<x.1)) S.c;rw[hx]at this;simp at this ⊢;omega
   have HKB:=zqH hsk;clear hsk
   have HEA:=zqH hea;have HIV:=zqH hiV;have HCO:=zqH hcok;have HCX:=zqH hcx;have HFO:=zqH hfold;have HKV:=zqH hk;have HCB:=zqH (And.intro hcb kcb);have HZ:=zqH (And.intro hZ1 (And.intro hZ2 (And.intro hV hzV)));have HQ:=zqH (And.intro q2 l2)
   clear hea hiV hcok hcx hfold hk hcb kcb hZ1 hZ2 hV hzV hi hu0 hv hvals hx hok hxm hsm q1 q2 q3 l1 l2 l3 n1 n2 n3 n4 n5 n6 n7 n8 n9 n10 n11 n12 n13 n14 n15 hs hni
   gi_wp2_with (refine⟨trivial,rfl,?_⟩;gi_at_call 59;refine(CallsIn.inRound _ (callsIn_wide.2 HEA.out)).mono ?_;rintro e V1 ⟨rfl,hs1,hu1,R,m,d,R',m',d',k1,ln1,k2,ln2⟩;have H1:=zqH (And.intro hs1 (And.intro hu1 (And.intro k1 (And.intro ln1 (And.intro k2 ln2)))));clear hs1 hu1 k1 ln1 k2 ln2)
   obtain⟨hs1,hu1,k1,ln1,k2,ln2⟩:=H1.out
   have hV1:=hu1.size
   obtain⟨hZ1,hZ2,hVv,hzV⟩:=HZ.out
   obtain⟨n1,n2,n3,n4,n5,n6,n7,n8,n9,n10,n11,n12,n13,n14,n15⟩:=HNE.out
   have c11:=(hu1.block a11 (zqA.1 HQ.out.1).1 (by show ¬(_\/_\/_);omega)).trans HQ.out.1
   have ccb:=(hu1.block cb (zqA.1 HCB.out.2).1 (by have:=HCB.out.1;show ¬(_\/_\/_);omega)).trans HCB.out.2
   have HKP:=zqH (fun(W':World) (hn:New V1 W')=>(⟨zaa ((hn.block _ (zqA.1 c11).1 id).trans c11) 0 _ rfl,zaa ((hn.block _ (zqA.1 ccb).1 id).trans ccb) 0 _ rfl,zaa ((hn.block _ (zqA.1 ccb).1 id).trans ccb) 1 _ rfl⟩:W'.cell? ⟨a11,0,none⟩=some (.slice R2 m2 d2)/\W'.cell? ⟨cb,0,none⟩=some (.int .u64 (x2:Int))/\W'.cell? ⟨cb,1,none⟩=some (.int .u64 (x3:Int))))
   have HST:=zqH (HQ.out.2.upd hu1 (T:=fun x=>x=bs\/x=w.heap.size+1+1+1+1+1\/x=a14) (fun x hx h=>by omega))
   have HC11:=zqH c11
   have hS0:=HKP.out V1.drew ((Upd.refl _ V1).drew)
   clear hs1 hu1 k1 ln1 k2 ln2 hV1 hZ1 hZ2 hVv hzV n1 n2 n3 n4 n5 n6 n7 n8 n9 n10 n11 n12 n13 n14 n15 c11 ccb
   have mixed:Tryz.prog.follows .mixedOrders=true:=by kernel_rfl
   refine beginE 11 (fun w':World=>w'.cell? ⟨a11,0,none⟩=some (.slice R2 m2 d2)/\w'.cell? ⟨cb,0,none⟩=some (.int .u64 (x2:Int))/\w'.cell? ⟨cb,1,none⟩=some (.int .u64 (x3:Int))) mixed (fun hcl=>?_)
   refine takeE 0 [0] (oi:=⟨some 42,.load 26 (.tmp 11),26,"f1.go:115",#[],none⟩) (fun _=>trivial) (by rfl) rfl (by decide) (by kernel_rfl) (by kernel_rfl) (by kernel_rfl) (by kernel_rfl) hcl (fun _ _ _ h=>h) (v:=.agg #[.slice R2 m2 d2]) (Or.inl ⟨by rfl,?_⟩) hS0 (fun hcl2=>?_)
   · rintro w' ⟨y1,y2,y3⟩
     go_simp
   simp only[Act.put,zqP]
   replace hcl:=hcl2
   clear hcl2
   refine takeE 1 [1] (oi:=⟨some 43,.fieldAddr 127 (.tmp 17) 1,0,"f1.go:115",#[],none⟩) (fun _=>trivial) (by rfl) rfl (by decide) (by kernel_rfl) (by kernel_rfl) (by kernel_rfl) (by kernel_rfl) hcl (fun _ _ _ h=>h) (v:=.pointer (some ⟨cb,1,none⟩)) (Or.inl ⟨by rfl,?_⟩) hS0 (fun hcl2=>?_)
   · intro w' _
     go_simp
   simp only[Act.put,zqP]
   replace hcl:=hcl2
   clear hcl2
   refine takeE 2 [2] (oi:=⟨some 44,.load 22 (.tmp 43),22,"f1.go:115",#[⟨1,.data⟩],none⟩) (fun _=>trivial) (by rfl) rfl (by decide) (by kernel_rfl) (by kernel_rfl) (by kernel_rfl) (by kernel_rfl) hcl (fun _ _ _ h=>h) (v:=.int .u64 (x3:Int)) (Or.inl ⟨by rfl,?_⟩) hS0 (fun hcl2=>?_)
   · rintro w' ⟨y1,y2,y3⟩
     go_simp
   simp only[Act.put,zqP]
   replace hcl:=hcl2
   clear hcl2
   refine takeE 4 [4] (oi:=⟨some 46,.fieldAddr 127 (.tmp 17) 0,0,"f1.go:115",#[],none⟩) (fun _=>trivial) (by rfl) rfl (by decide) (by kernel_rfl) (by kernel_rfl) (by kernel_rfl) (by kernel_rfl) hcl (fun _ _ _ h=>h) (v:=.pointer (some ⟨cb,0,none⟩)) (Or.inl ⟨by rfl,?_⟩) hS0 (fun hcl2=>?_)
   · intro w' _
     go_simp
   simp only[Act.put,zqP]
   replace hcl:=hcl2
   clear hcl2
   refine takeE 5 [5] (oi:=⟨some 47,.load 22 (.tmp 46),22,"f1.go:115",#[⟨4,.data⟩],none⟩) (fun _=>trivial) (by rfl) rfl (by decide) (by kernel_rfl) (by kernel_rfl) (by kernel_rfl) (by kernel_rfl) hcl (fun _ _ _ h=>h) (v:=.int .u64 (x2:Int)) (Or.inl ⟨by rfl,?_⟩) hS0 (fun hcl2=>?_)
   · rintro w' ⟨y1,y2,y3⟩
     go_simp
   simp only[Act.put,zqP]
   replace hcl:=hcl2
   clear hcl2
   refine oneE 3 (o:=⟨some 45,.call { callee:=.value (.func 24),args:=#[.tmp 44],argTypes:=#[22] },26,"f1.go:115",#[⟨2,.data⟩],none⟩) rfl (by kernel_rfl) hcl (by rfl) (fun K hK=>?_)
   go_simp
   refine⟨trivial,rfl,(CallsIn.inRound _ (callsIn_wide.2 (of_c x3 HCX.out.2.2.2))).mono ?_⟩
   rintro e V2 ⟨Ra,ma,da,rfl,hr,hn⟩
   have hnn:New V1 V2:=Upd.of_drew hn
   have hSn:=HKP.out _ hnn
   refine hK _ _ (fun _=>hSn) (fun hcl2=>?_)
   have H2:=zqH (And.intro hr hnn)
   clear hr hn hnn hcl hK K
   try simp only[Act.put,zqP]
   replace hcl:=hcl2
   clear hcl2
   clear hSn
   refine oneE 6 (o:=⟨some 48,.call { callee:=.value (.func 24),args:=#[.tmp 47],argTypes:=#[22] },26,"f1.go:115",#[⟨5,.data⟩,⟨3,.chain⟩],none⟩) rfl (by kernel_rfl) hcl (by rfl) (fun K hK=>?_)
   go_simp
   refine⟨trivial,rfl,(CallsIn.inRound _ (callsIn_wide.2 (of_c x2 HCX.out.2.2.1))).mono ?_⟩
   rintro e V3 ⟨Rb,mb,db,rfl,hr,hn⟩
   have hnn:New V1 V3:=H2.out.2.trans hn
   have hSn:=HKP.out _ hnn
   refine hK _ _ (fun _=>hSn) (fun hcl2=>?_)
   have H3:=zqH (And.intro hr hnn);have HN3:=zqH hn
   clear hr hn hnn hcl hK K
   try simp only[Act.put,zqP]
   replace hcl:=hcl2
   clear hcl2
   clear hSn
   have hn3:New V2 V3:=HN3.out
   refine oneE 7 (o:=⟨some 49,.call { callee:=.value (.func 63),args:=#[.tmp 42,.tmp 45,.tmp 48],argTypes:=#[26,26,26] },84,"f1.go:115",#[⟨0,.data⟩,⟨3,.data⟩,⟨6,.data⟩,⟨6,.chain⟩],none⟩) rfl (by kernel_rfl) hcl (by rfl) (fun K hK=>?_)
   go_simp
   refine⟨trivial,rfl,(CallsIn.inRound _ (callsIn_wide.2 (dmuldiv_any (HST.out.new H3.out.2) (H2.out.1.lq.new hn3) H3.out.1.lq HCO.out.b3))).mono ?_⟩
   rintro e V4 ⟨Rs,ms,ds,rfl,hr,hn⟩
   have hnn:New V1 V4:=H3.out.2.trans hn
   have hSn:=HKP.out _ hnn
   refine hK _ _ (fun _=>hSn) (fun hcl2=>?_)
   have H4:=zqH (And.intro hr hnn)
   clear hr hn hnn hcl hK K
   try simp only[Act.put,zqP]
   replace hcl:=hcl2
   clear hcl2
   refine takeE 8 [8] (oi:=⟨some 41,.move (.tmp 49),84,"f1.go:115",#[⟨7,.data⟩],none⟩) (fun _=>trivial) (by rfl) rfl (by decide) (by kernel_rfl) (by kernel_rfl) (by kernel_rfl) (by kernel_rfl) hcl (fun _ _ _ h=>h) (v:=.tuple #[.agg #[.slice Rs ms ds],.int .i64 (erz (x2*10 ^ 36))]) (Or.inl ⟨by rfl,?_⟩) hSn (fun hcl2=>?_)
   · intro w' _
     go_simp
   simp only[Act.put,zqP]
   replace hcl:=hcl2
   clear hcl2
   refine takeE 9 [9] (oi:=⟨some 50,.extract (.tmp 41) 0,26,"f1.go:115",#[⟨8,.data⟩],none⟩) (fun _=>trivial) (by rfl) rfl (by decide) (by kernel_rfl) (by kernel_rfl) (by kernel_rfl) (by kernel_rfl) hcl (fun _ _ _ h=>h) (v:=.agg #[.slice Rs ms ds]) (Or.inl ⟨by rfl,?_⟩) hSn (fun hcl2=>?_)
   · intro w' _
     go_simp
   simp only[Act.put,zqP]
   replace hcl:=hcl2
   clear hcl2
   refine pureE 10 (oi:=⟨some 51,.extract (.tmp 41) 1,83,"f1.go:115",#[⟨8,.data⟩,⟨11,.gcOnly .lateStores⟩],none⟩) (fun _=>trivial) (by rfl) rfl (by decide) (by kernel_rfl) (by kernel_rfl) (by kernel_rfl) hcl (fun _ _ _ h=>h) (v:=.int .i64 (erz (x2*10 ^ 36))) (Or.inl ⟨by rfl,?_⟩) hSn (fun hcl2=>?_)
   · intro w' _
     go_simp
   simp only[Act.put,zqP]
   replace hcl:=hcl2
   clear hcl2
   have n4:=H4.out.2
   have c4:=(n4.block _ (zqA.1 HC11.out).1 id).trans HC11.out
   have c4c:=zaa c4 0 _ rfl
   have c4z:=zac c4 0
   refine oneE 11 (o:=⟨none,.store 26 (.tmp 11) (.tmp 50),0,"f1.go:115",#[⟨9,.data⟩,⟨7,.chain⟩,⟨0,.phase⟩,⟨1,.phase⟩,⟨2,.phase⟩,⟨3,.phase⟩,⟨4,.phase⟩,⟨5,.phase⟩,⟨6,.phase⟩,⟨7,.phase⟩,⟨8,.phase⟩,⟨9,.phase⟩,⟨10,.textOnly .lateStores⟩],none⟩) rfl (by kernel_rfl) hcl (by rfl) (fun K hK=>?_)
   go_simp
   refine hK _ _ (fun h=>Bool.noConfusion (h.symm.trans (by kernel_rfl:_=true))) (fun _=>?_)
   clear hcl hK K
   try simp only[Act.put,zqP]
   refine doneE (by kernel_rfl) ?_ _
   obtain⟨V5,hV5⟩:∃V5,V5=V4.setCell ⟨a11,0,none⟩ (.slice Rs ms ds):=⟨_,rfl⟩
   rw[<-hV5]
   have hst:Upd (fun x=>x=a11) V4 V5:=by rw[hV5];exact Upd.setCell V4 _ rfl
   have k5:V5.heap[a11]?=some (.cells #[.slice Rs ms ds] 26 (0,0)):=by rw[hV5,zab c4];rfl
   obtain⟨hs1,hu1,k1,ln1,k2,ln2⟩:=H1.out
   have hV1:=hu1.size
   obtain⟨hZ1,hZ2,hVv,hzV⟩:=HZ.out
   obtain⟨n1,n2,n3,n4',n5,n6,n7,n8,n9,n10,n11,n12,n13,n14,n15⟩:=HNE.out
   have cn5:=(hst.block a13 (by have:=(zqA.1 HIV.out.en).1;have:=n4.size;omega) (by omega)).trans ((n4.block a13 (by omega) id).trans ((hu1.block a13 (by omega) (by show ¬(_\/_\/_);omega)).trans HIV.out.en))
   have cn:=zaa cn5 0 _ rfl
   have cz:=zac cn5 0
   have hwk:IntKind.i64.wrap ((s.k:Int)+1)=((s.k+1:Nat):Int):=by have:=HKB.out;rw[IntKind.wrap_i64];omega
   have k6:=zab cn5 (.int .i64 ((s.k+1:Nat):Int)) (i:=0)
   have hst6:Upd (fun x=>x=a13) V5 (V5.setCell ⟨a13,0,none⟩ (.int .i64 ((s.k+1:Nat):Int))):=Upd.setCell V5 _ rfl
   have HP:=zqH (And.intro hst (And.intro k5 (And.intro k6 hst6)))
   clear hV5 hst k5 hs1 hu1 k1 ln1 k2 ln2 hV1 hZ1 hZ2 hVv hzV n1 n2 n3 n4' n5 n6 n7 n8 n9 n10 n11 n12 n13 n14 n15 cn5 k6 hst6 c4 c4c c4z n4 hSn
   gi_wp2
   obtain⟨hst,k5,k6,hst6⟩:=HP.out
   obtain⟨V6,hV6⟩:∃V6,V6=V5.setCell ⟨a13,0,none⟩ (.int .i64 ((s.k+1:Nat):Int)):=⟨_,rfl⟩
   rw[<-hV6]at k6 hst6
   rw[show((s.k:Int)+1)=((s.k+1:Nat):Int) from rfl,<-hV6]
   obtain⟨hs1,hu1,k1,ln1,k2,ln2⟩:=H1.out
   obtain⟨hr4,n4⟩:=H4.out
   have hV1:=hu1.size
   have hV4:=n4.size
   have hV5:=hst.size
   have hV6s:=hst6.size
   obtain⟨hZ1,hZ2,hVv,hzV⟩:=HZ.out
   obtain⟨p1,p2,p3,p4,p5,p6,p7,p8,p9,p10,p11,p12,p13,p14,p15⟩:=HNE.out
   have hu:Upd (fun x=>x=bs\/x=w.heap.size+1+1+1+1+1\/x=a14\/x=a11\/x=a13) V V6:=(((hu1.mono (fun x _ h=>by have h:x=bs\/x=w.heap.size+1+1+1+1+1\/x=a14:=h;omega)).trans (n4.mono (fun _ _ h=>h.elim))).trans (hst.mono (fun x _ h=>by have h:x=a11:=h;omega))).trans (hst6.mono (fun x _ h=>by have h:x=a13:=h;omega))
   have hkk:V6.heap[w9.heap.size]?=V.heap[w9.heap.size]?/\V6.heap[w9.heap.size+1]?=V.heap[w9.heap.size+1]?/\Kept (w9.heap.size+2) Z W0.heap.size V V6:=
     ⟨hu.block _ (by omega) (by omega),hu.block _ (by omega) (by omega),hu.size,fun x hx=>hu.block x (by omega) (by omega)⟩
   have hsto:StoB V6 bs bm:=by
     obtain⟨_,_,_,_,_,_,_,h,_⟩:=hs1
     exact((h.upd n4 id).upd hst (by omega)).upd hst6 (by omega)
   have hadr:∀x o,w.heap.size<=x->x<w9.heap.size->x≠w.heap.size+1+1+1+1+1->x≠a14->x≠a11->x≠a13->V.heap[x]?=some o->V6.heap[x]?=some o:=fun x o g1 g2 g3 g4 g5 g6 ho=>(hu.block x (by omega) (by omega)).trans ho
   refine⟨hkk,HKV.out.upd hu (fun x hx h=>?_) hsto (by omega) (by omega) (by omega) (by omega),?_,HUW.out.then hu (fun x hx h=>by have h:x=bs\/x=w.heap.size+1+1+1+1+1\/x=a14\/x=a11\/x=a13:=h;show x=bs;omega)⟩
   · have h1:=HFL.out x hx
     have h:x=bs\/x=w.heap.size+1+1+1+1+1\/x=a14\/x=a11\/x=a13:=h
     rcases h with h|h|h|h|h
     · exact h1.2.2 h
     · exact(HOF.out x (by omega)).1 h1.1
     · exact(HOF.out x (by omega)).1 h1.1
     · exact(HOF.out x (by omega)).1 h1.1
     · exact(HOF.out x (by omega)).1 h1.1
   · show ClmI bs _ _ _ _ _ _ _ _ _ _ _
     rw[HFO.out]
     have q14:=(hst6.block a14 (by omega) (by omega)).trans ((hst.block a14 (by omega) (by omega)).trans ((n4.block a14 (by omega) id).trans k2))
     have qrb:=(hst6.block (w.heap.size+1+1+1+1+1) (by omega) (by omega)).trans ((hst.block (w.heap.size+1+1+1+1+1) (by omega) (by omega)).trans ((n4.block (w.heap.size+1+1+1+1+1) (by omega) id).trans k1))
     have q11:=(hst6.block a11 (by omega) (by omega)).trans k5
     refine⟨hadr _ _ (by omega) (by omega) (by omega) (by omega) (by omega) (by omega) HIV.out.es,hadr _ _ (by omega) (by omega) (by omega) (by omega) (by omega) (by omega) HIV.out.ei,hadr _ _ (by omega) (by omega) (by omega) (by omega) (by omega) (by omega) HIV.out.eg,k6,hadr _ _ (by omega) (by omega) (by omega) (by omega) (by omega) (by omega) HIV.out.ef,⟨R,m,d,qrb,?_⟩,⟨Rs,ms,ds,q11,?_⟩,⟨R',m',d',q14,?_⟩⟩
     · exact(((ln1.lq.upd n4 (fun _ _=>id)).upd hst (fun x hx h=>by omega)).upd hst6 (fun x hx h=>by omega)).mono (fun x _ hx=>by omega)
     · exact((hr4.lq.upd hst (fun x hx h=>by have hx:V3.heap.size<=x:=hx;have:=H3.out.2.size;omega)).upd hst6 (fun x hx h=>by have hx:V3.heap.size<=x:=hx;have:=H3.out.2.size;omega)).mono (fun x _ hx=>by have hx:V3.heap.size<=x:=hx;have:=H3.out.2.size;omega)
     · exact(((ln2.lq.upd n4 (fun _ _=>id)).upd hst (fun x hx h=>by omega)).upd hst6 (fun x hx h=>by omega)).mono (fun x _ hx=>by omega)
  case done=>
   rintro Z V hZ1 hZ2 hi hd hk
   rw[<-HC.out,<-HS1.out]at hi
   obtain⟨hi,huV⟩:=hi
   have hb:=HBS.out
   have hsm:SFm F bs bm V (F1.ents S):=⟨base,D,A,n,c,vs,ps,hk.sto,hk.map.map,HRP.out.1,fun x hx=>⟨by have:=(HRP.out.2.1 x hx).1;omega,(HRP.out.2.1 x hx).2⟩,by have:=HRP.out.2.2.1;omega,HRP.out.2.2.2⟩
   have hok:=HOK.out.last
   rw[<-HS1.out]at hok
   obtain⟨R1,m1,d1,q1,l1⟩:=hi.er
   obtain⟨R2,m2,d2,q2,l2⟩:=hi.ek
   obtain⟨R3,m3,d3,q3,l3⟩:=hi.et
   obtain⟨p1,p2,p3,p4,p5,p6,p7,p8,p9,p10,p11,p12,p13,p14,p15⟩:=HNE.out
   have hea:=earns_m HSO.out HPQ.out.2.1 hsm (zaa hi.es 0 _ rfl) (zaa hi.ei 0 _ rfl) q1 q2 q3 (HOF.out _ (by omega)) (HOF.out _ (by omega)) (HOF.out _ (by omega)) (by omega) (by omega) (by omega) (l1.mono (fun x _ hx=>hx.1.1)) (l2.mono (fun x _ hx=>hx.1.1)) (l3.mono (fun x _ hx=>hx.1.1)) hok.b1 hok.b2
   have x15:=zaa hi.ef 0 _ rfl
   have HEV:=zqH hea;have HV:=zqH (And.intro hi.eg (And.intro hi.en (And.intro hd (And.intro huV (show w9.heap.size+2<=V.heap.size from by omega)))))
   clear hea hi hd hk hsm hok q1 q2 q3 l1 l2 l3 p1 p2 p3 p4 p5 p6 p7 p8 p9 p10 p11 p12 p13 p14 p15 hZ1 hZ2 hni hb huV
   go_upto_region 12 with(go_at_call 59;refine HEV.out.mono ?_;rintro e wa ⟨rfl,hsfa,hua,R,m,d,R',m',d',ka,lna,kta,_⟩;have HE:=zqH (And.intro hsfa (And.intro hua (And.intro ka lna)));clear HEV hsfa hua ka lna kta)
   obtain⟨v4,v13,hd,huV,z1⟩:=HV.out
   obtain⟨hsfa,hua,ka,lna⟩:=HE.out
   obtain⟨p1,p2,p3,p4,p5,p6,p7,p8,p9,p10,p11,p12,p13,p14,p15⟩:=HNE.out
   have hb:=HBS.out
   have w4:=(hua.block (w.heap.size+1+1+1+1) (by omega) (by show ¬(_\/_\/_);omega)).trans v4
   have w13:=(hua.block a13 (by omega) (by show ¬(_\/_\/_);omega)).trans v13
   have wd:=(hua.block w9.heap.size (by omega) (by show ¬(_\/_\/_);omega)).trans hd
   have g0:=zaa ka 0 _ rfl
   have g1:=zaa w13 0 _ rfl
   have g2:=zaa w4 0 _ rfl
   have g3:=zac w4 0
   have k4:=zab w4 (.slice R m d) (i:=0)
   have hst:=Upd.setCell (S:=fun b=>b=w.heap.size+1+1+1+1) (a:=⟨w.heap.size+1+1+1+1,0,none⟩) wa (.slice R m d) rfl
   have j0:=(hst.cell (a:=⟨w.heap.size+1+1+1+1+1,0,none⟩) (zqB wa _ g0) (by show ¬w.heap.size+1+1+1+1+1=w.heap.size+1+1+1+1;omega)).trans g0
   have j1:=(hst.cell (a:=⟨a13,0,none⟩) (zqB wa _ g1) (by show ¬a13=w.heap.size+1+1+1+1;omega)).trans g1
   have HX:=zqH (And.intro k4 (And.intro hst wd))
   clear v4 v13 huV hd hsfa hua ka lna w4 w13 wd k4 hst p1 p2 p3 p4 p5 p6 p7 p8 p9 p10 p11 p12 p13 p14 p15 hb z1
   go_region
   all_goals go_wp2
   all_goals
    obtain⟨k4,hst,wd⟩:=HX.out
    obtain⟨WW,hWW⟩:∃WW,WW=wa.setCell ⟨w.heap.size+1+1+1+1,0,none⟩ (.slice R m d):=⟨_,rfl⟩
    rw[<-hWW]at k4 hst ⊢
    have hdd:WW.drew.heap[w9.heap.size]?=some (.deferred (some [])):=(hst.block w9.heap.size (by have:=(zqA.1 wd).1;omega) (by show ¬w9.heap.size=w.heap.size+1+1+1+1;omega)).trans wd
    have hput:Upd (fun b=>b=w9.heap.size) WW (WW.drew.putObj w9.heap.size (.deferred none)):=(Upd.refl _ WW).drew.trans (Upd.putObj _ _ rfl)
    have q0:(WW.drew.putObj w9.heap.size (.deferred none)).cell? ⟨w.heap.size+1+1+1+1,0,none⟩=some (.slice R m d):=zaa ((hput.block _ (zqA.1 k4).1 (by show ¬w.heap.size+1+1+1+1=w9.heap.size;omega)).trans k4) 0 _ rfl
    show LeavesInM _ _ _ _ _ _ _ _ _
    refine⟨by simp,.inl ⟨_,_,rfl,run_takeDeferred hdd,?_⟩⟩
    refine⟨_,by simp[results,Tryz.results19,go_sem,q0];try rfl,?_⟩
    obtain⟨_,_,_,u6v,y1⟩:=HV.out
    obtain⟨hsfa,hua,_,lna⟩:=HE.out
    obtain⟨p1,p2,p3,p4,p5,p6,p7,p8,p9,p10,p11,p12,p13,p14,p15⟩:=HNE.out
    have hb:=HBS.out
    have hva:=hua.size
    have hrest:Upd (fun x=>w.heap.size<=x/\x<V.heap.size) wa (WW.drew.putObj w9.heap.size (.deferred none)):=(hst.mono (fun x _ e=>by have e:x=w.heap.size+1+1+1+1:=e;omega)).trans (hput.mono (fun x _ e=>by have e:x=w9.heap.size:=e;omega))
    refine⟨R,m,d,rfl,hsfa.sf.upd_off hrest (fun x hx e=>(HOF.out x e.1).1 hx) (fun e=>by omega),?_,(lna.upd hrest (fun x hx e=>by have hx:V.heap.size<=x:=hx;omega)).mono (fun x _ hx=>by have hx:V.heap.size<=x:=hx;have:=u6v.size;show w.heap.size<=x;omega)⟩
    exact(u6v.then hua (fun x hx e=>by have:x=bs\/x=w.heap.size+1+1+1+1+1\/x=a14:=e;rcases this with h|h|h<;>first|exact h|(exfalso;omega))).then hrest (fun x hx e=>by exfalso;omega)
  case stop=>
   rintro Z cd pre x post V hZ1 hZ2 hx hf hd
   exact hf.elim
end Go.Proofs.YtbhnjkegkadodaaGreatDoor
namespace Go.Proofs.YtbhnjkegkadodaaGreatDoor
open Go Go.RowKit Go.Proofs Gl Go.Shelf
attribute [local go_sem] Oper.semAt_some
structure CntP (base bm n c bs sp pp np cp p1 p2:Nat) (D:Nat->Prop) (A Ap:Option Addr) (vs:List Value) (ps:List (List Ent)) (css:List (List Value)) (pk:Bs) (W:World):Prop where
 wlk:PfxK base bm n c bs sp pp np cp D A Ap vs ps css pk W
 box1:W.cell? ⟨p1,0,none⟩=some (.pointer (some ⟨bs,0,none⟩))
 box2:W.cell? ⟨p2,0,none⟩=some (.func (.func 189) #[] #[.pointer (some ⟨sp,0,none⟩),.pointer (some ⟨pp,0,none⟩)])
end Go.Proofs.YtbhnjkegkadodaaGreatDoor
namespace Go.Proofs.YtbhnjkegkadodaaGreatDoor
open Go Go.RowKit Go.Proofs Gl Go.Shelf
attribute [local go_sem] Oper.semAt_some
section
variable {base bm n c bs sp pp np cp p1 p2:Nat} {D T:Nat->Prop} {A Ap:Option Addr} {vs:List Value} {ps:List (List Ent)} {css:List (List Value)} {pk:Bs} {W W':World}
theorem CntP.upd (h:CntP base bm n c bs sp pp np cp p1 p2 D A Ap vs ps css pk W) (hu:Upd T W W') (hf:∀b,foot bm D A n c vs b->¬T b) (h1:¬T sp) (h2:¬T pp) (h4:∀a,Ap=some a → 0<np->¬T a.block) (h5:¬T p1) (h6:¬T p2) (h7:StoB W' bs bm):CntP base bm n c bs sp pp np cp p1 p2 D A Ap vs ps css pk W':=
 ⟨h.wlk.upd hu hf h7 h1 h2 h4,(hu.cell (a:=⟨p1,0,none⟩) (zqB W _ h.box1) h5).trans h.box1,(hu.cell (a:=⟨p2,0,none⟩) (zqB W _ h.box2) h6).trans h.box2⟩
theorem CntP.new (h:CntP base bm n c bs sp pp np cp p1 p2 D A Ap vs ps css pk W) (hu:New W W'):CntP base bm n c bs sp pp np cp p1 p2 D A Ap vs ps css pk W':=h.upd hu (fun _ _=>id) id id (fun _ _ _=>id) id id (h.wlk.sto.upd hu id)
end
end Go.Proofs.YtbhnjkegkadodaaGreatDoor
namespace Go.Proofs.YtbhnjkegkadodaaGreatDoor
open Go Go.RowKit Go.Proofs Gl Go.Shelf
attribute [local go_sem] Oper.semAt_some
theorem countedP_gives {base bm n c bs sp pp np cp p1 p2:Nat} {D:Nat->Prop} {A Ap:Option Addr} {vs:List Value} {ps:List (List Ent)} {css:List (List Value)} {pk:Bs} (hnt:np<=1073741824) (hlen:ps.flatten.length<=1000000) (hsz:∀e ∈ ps.flatten,e.1.length<=1073741824/\e.2.length<=1073741824)
 (hfb:¬foot bm D A n c vs bs) (hne:bs≠sp/\bs≠pp/\bs≠p1/\bs≠p2) (hfr:∀a,Ap=some a → 0<np->a.block≠bs):
 Gives Tryz.prog 234 #[.pointer (some ⟨p1,0,none⟩),.pointer (some ⟨p2,0,none⟩)] Copies (fun b=>b=bs) (CntP base bm n c bs sp pp np cp p1 p2 D A Ap vs ps css pk) (prefixed pk ps.flatten):=by
 intro l J Jx W hJ hJx hK h0 hY
 have d1:=hK.box1
 have d2:=hK.box2
 have l1:p1<W.heap.size:=zqB W ⟨p1,0,none⟩ d1
 have l2:p2<W.heap.size:=zqB W ⟨p2,0,none⟩ d2
 have l3:sp<W.heap.size:=zqB W ⟨sp,0,none⟩ hK.wlk.b1
 have l4:pp<W.heap.size:=zqB W ⟨pp,0,none⟩ hK.wlk.b2
 have l6:bs<W.heap.size:=hK.wlk.sto.lt
 obtain⟨WA,hWA⟩:∃WA,WA=W.alloc (.cells #[.func (.yield l) #[] #[]] 112):=⟨_,rfl⟩
 have hal:New W WA:=by rw[hWA];exact Upd.alloc _ _ _
 have hWAs:WA.heap.size=W.heap.size+1:=by rw[hWA];show(W.heap.push _).size=_;simp
 have hpy:WA.cell? ⟨W.heap.size,0,none⟩=some (.func (.yield l) #[] #[]):=by rw[hWA];exact zaa (Ex.alloc_new W _) 0 _ rfl
 have hKA:=hK.new hal
 have k1:=hKA.box1
 have k2a:=hKA.box2
 have h28:=hKA.wlk.sto.count
 have HY:=zqH hY;have HJ:=zqH hJ;have HJX:=zqH hJx;have HK:=zqH hK;have H0:=zqH h0;have HL:=zqH hlen;have HSZ:=zqH hsz;have HKA:=zqH hKA;have HFB:=zqH hfb;have HNE:=zqH hne;have HAL:=zqH hal;have HNT:=zqH hnt;have HFR:=zqH hfr;have HLO:=zqH (show ∀a,Ap=some a → 0<np->a.block<W.heap.size from fun a ha h0=>by
  obtain⟨_,_,_,e,_,h⟩:=BV.of hK.wlk.by_
  cases e
  exact h a ha h0)
 have hflW:∀b,foot bm D A n c vs b->b<W.heap.size:=fun b hb=>hK.wlk.map.map.toMapRaw.foot_lt hb
 have HFL:=zqH hflW
 clear hY hJ hJx hK h0 hlen hsz hal hKA hfb hflW hnt hfr
 refine(callsIn_wide (n:=0)).1 ?_
 refine callsIn_of_wp_marks Tryz.func234 rfl trivial ?_ rfl
 simp only[Tryz.ntmps234,List.size_toArray,List.length_cons,List.length_nil,Nat.reduceAdd,Nat.reduceSub,Array.replicate_succ,Array.replicate_zero,List.push_toArray,List.append_toArray,List.nil_append,List.cons_append]
 rw[hWA]at h28 k1 k2a
 have K2A:=zqH k2a
 clear k2a
 gi_wp2_with (refine⟨trivial,rfl,?_⟩;gi_at_call 132;refine(callsIn_wide.2 h28).mono ?_;rintro e w1 ⟨⟨rv,rfl⟩,hsto1,hu1⟩;have k2:=(hu1.cell (a:=⟨p2,0,none⟩) (zqB _ _ K2A.out) (Ne.symm HNE.out.2.2.2)).trans K2A.out;have H1:=zqH (And.intro hsto1 hu1);clear hsto1 hu1 h28)
 have HU1:Hid (Upd (fun b=>b=bs) WA w1):=by rw[hWA];exact zqH H1.out.2
 have hsz1:WA.heap.size<=w1.heap.size:=HU1.out.size
 have hK1:=HKA.out.upd HU1.out (fun b hb e=>HFB.out (e▸hb)) (Ne.symm HNE.out.1) (Ne.symm HNE.out.2.1) (fun a ha h0=>HFR.out a ha h0) (Ne.symm HNE.out.2.2.1) (Ne.symm HNE.out.2.2.2) H1.out.1
 have hpy1:w1.cell? ⟨W.heap.size,0,none⟩=some (.func (.yield l) #[] #[]):=(HU1.out.cell (a:=⟨W.heap.size,0,none⟩) (by simp only;omega) (by simp only;omega)).trans hpy
 have hUW:Upd (fun b=>b=bs) W w1:=(HAL.out.mono (fun _ _ h=>h.elim)).trans HU1.out
 have hnp:∀Z b,b<W.heap.size->b≠bs->¬Priv (fun _=>False) w1.heap.size Z b:=fun Z b hb _ h=>h.elim id (fun h=>by omega)
 refine zbb (gf:=189) (lb:=#[.pointer (some ⟨sp,0,none⟩),.pointer (some ⟨pp,0,none⟩)]) rfl (fun args w=>zas 189 Tryz.func189 (by kernel_rfl) (by kernel_rfl) args w)
  (prefix1_gives (base:=base) (bm:=bm) (n:=n) (c:=c) (bs:=bs) (sp:=sp) (pp:=pp) (np:=np) (cp:=cp) (D:=D) (A:=A) (Ap:=Ap) (vs:=vs) (ps:=ps) (css:=css) (pk:=pk) HNT.out HL.out HSZ.out) (fun x _ _ vals he=>by obtain⟨_,_,_,_,_,_,e,_⟩:=he;rw[e];rfl) (fun b h=>h.elim)
  (fun P Q hk hu=>hk.upd hu (fun b hb=>by have:=HFL.out b hb;omega) (hk.sto.upd hu (by omega)) (by omega) (by omega) (fun a ha h0=>by have:=HLO.out a ha h0;omega)) hK1.wlk
  (fun x W0 P Q vals hz he hu=>hu.elim (fun hu=>he.upd hu (fun _ _=>id)) (fun hu=>he.upd hu (fun b hb=>by omega)))
  (fun Z (pre:List Ent) V=>J Z pre V/\CntP base bm n c bs sp pp np cp p1 p2 D A Ap vs ps css pk V/\V.cell? ⟨W.heap.size,0,none⟩=some (.func (.yield l) #[] #[]))
  (fun Z cd (pre:List Ent) V=>cd=.ret/\Jx Z pre V)
  (fun Z hZ s P Q hs hu=>⟨HJ.out Z _ P Q hs.1 (hu.mono (fun b _ hb=>.inr (hb.elim (fun h=>h.elim) (fun h=>⟨by omega,h.2⟩)))),hs.2.1.upd hu (fun b hb h=>by have:=HFL.out b hb;exact h.elim id (fun h=>by omega)) (fun h=>h.elim id (fun h=>by omega)) (fun h=>h.elim id (fun h=>by omega)) (fun a ha h0 h=>by have:=HLO.out a ha h0;exact h.elim id (fun h=>by omega)) (fun h=>h.elim id (fun h=>by omega)) (fun h=>h.elim id (fun h=>by omega)) (hs.2.1.wlk.sto.upd hu (fun h=>h.elim id (fun h=>by omega))),(hu.cell (a:=⟨W.heap.size,0,none⟩) (zqB P _ hs.2.2) (fun h=>h.elim id (fun h=>by simp only at h;omega))).trans hs.2.2⟩)
  (fun Z cd hZ s P Q hs hu=>⟨hs.1,HJX.out Z _ P Q hs.2 (hu.mono (fun b _ hb=>.inr (hb.elim (fun h=>h.elim) (fun h=>⟨by omega,h.2⟩))))⟩)
  (fun Z hZ=>⟨(HJ.out Z) _ _ _ (H0.out Z) (hUW.mono (fun _ _ h=>.inl h)),hK1,hpy1⟩)
  (fun W0 vals a' V=>∃k1 n1 e1 k2 n2 e2,vals=#[.slice k1 n1 e1,.slice k2 n2 e2]/\a' = { tmps:=#[.func (.yield l) #[] #[],.pointer (some ⟨p1,0,none⟩),.pointer (some ⟨p2,0,none⟩),.pointer (some ⟨W.heap.size,0,none⟩),.slice k1 n1 e1,.slice k2 n2 e2,.pointer (some ⟨bs,0,none⟩),.pointer (some ⟨bs,0,none⟩),.pointer (some ⟨bs,2,none⟩),rv,.func (.func 189) #[] #[.pointer (some ⟨sp,0,none⟩),.pointer (some ⟨pp,0,none⟩)],.slice k1 n1 e1,.slice k2 n2 e2,undef,undef,undef,undef,undef,undef,undef,undef,undef],defers:=[] })
  (fun W0 vals a' P Q hs hu=>hs)
  ?assign ?body ?done ?stop
 case assign=>
  rintro l2 x W0 V vals K ⟨pre,post,hx⟩ hz hz0 ⟨A1,n1,e1,A2,n2,e2,rfl,g1,g2⟩ hk hK'
  gi_wp2
  exact hK' _ _ (Upd.refl _ _) ⟨A1,n1,e1,A2,n2,e2,rfl,rfl⟩
 case body=>
  rintro Z pre x W0 V vals a' ⟨post,hx⟩ hZ1 hZ2 ⟨hi,hck,hyb⟩ hu0 hcp ⟨k1,n1,e1,k2,n2,e2,rfl,rfl⟩ hk
  have hcV:=hck.upd hu0 (fun b hb h=>by have:=HFL.out b hb;exact h.elim id (fun h=>by omega)) (fun h=>h.elim id (fun h=>by omega)) (fun h=>h.elim id (fun h=>by omega)) (fun a ha h0 h=>by have:=HLO.out a ha h0;exact h.elim id (fun h=>by omega)) (fun h=>h.elim id (fun h=>by omega)) (fun h=>h.elim id (fun h=>by omega)) (hck.wlk.sto.upd hu0 (fun h=>h.elim id (fun h=>by omega)))
  have vy:V.cell? ⟨W.heap.size,0,none⟩=some (.func (.yield l) #[] #[]):=(hu0.cell (a:=⟨W.heap.size,0,none⟩) (zqB W0 _ hyb) (fun h=>h.elim id (fun h=>by simp only at h;omega))).trans hyb
  have v1:=hcV.box1
  have h28:=hcV.wlk.sto.count
  have HCV:=zqH hcV;have HVY:=zqH vy;have HU0:=zqH hu0;have HCP:=zqH hcp;have HI:=zqH hi;have HX:=zqH hx
  have HYF:Hid (∀V2,StoB V2 bs bm->Upd (fun b=>b=bs) V V2->YieldAt FW 0 Tryz.prog l #[.slice k1 n1 e1,.slice k2 n2 e2] V2 fun e W'=>Kept W.heap.size Z W0.heap.size V2 W'/\CntP base bm n c bs sp pp np cp p1 p2 D A Ap vs ps css pk W'/\((e=.returned (.bool true)/\J Z (pre ++ [x]) W')\/(e=.returned (.bool false)/\Jx Z (pre ++ [x]) W'))):=zqH (fun V2 hsto2 hu2=>
   HY.out Z pre x W0 V2 _ ⟨post,hx⟩ (by omega) hZ2 hi ((hu0.mono (fun b _ hb=>.inr (hb.elim (fun h=>h.elim) (fun h=>⟨by omega,h.2⟩)))).trans (hu2.mono (fun b _ h=>.inl h))) (hcp.upd hu2 (fun b hb e=>by omega))
    (hcV.upd hu2 (fun b hb e=>HFB.out (e▸hb)) (Ne.symm HNE.out.1) (Ne.symm HNE.out.2.1) (fun a ha h0=>HFR.out a ha h0) (Ne.symm HNE.out.2.2.1) (Ne.symm HNE.out.2.2.2) hsto2))
  clear hck hyb hcV vy hu0 hcp hi hx hk
  gi_wp2_with (refine⟨trivial,rfl,?_⟩;gi_at_call 132;refine(CallsIn.inRound _ (callsIn_wide.2 h28)).mono ?_;rintro e V2 ⟨⟨rv2,rfl⟩,hsto2,hu2⟩;have vy2:=(hu2.cell (a:=⟨W.heap.size,0,none⟩) (zqB V _ HVY.out) (by simp only;omega)).trans HVY.out;have H2:=zqH (And.intro hsto2 hu2);obtain⟨fn,tmps,asg,bdy,hy,hR⟩:=HYF.out V2 hsto2 hu2;have HR:=zqH hR;clear hsto2 hu2 h28 hR)
  refine⟨rfl,HR.out.mono ?_⟩
  rintro e V3 ⟨hk3,hc3,h4⟩
  obtain⟨r,rfl,h5⟩:∃r,e=.returned (.bool r)/\((r=true/\J Z (pre ++ [x]) V3)\/(r=false/\Jx Z (pre ++ [x]) V3)):=h4.elim (fun h=>⟨true,h.1,.inl ⟨rfl,h.2⟩⟩) (fun h=>⟨false,h.1,.inr ⟨rfl,h.2⟩⟩)
  have hu2:=H2.out.2
  have hy3:V3.cell? ⟨W.heap.size,0,none⟩=some (.func (.yield l) #[] #[]):=(World.cell?_of_block (a:=⟨W.heap.size,0,none⟩) (hk3.2 W.heap.size (.inl ⟨Nat.le_refl _,by omega⟩))).trans vy2
  have hkept:V3.heap[w1.heap.size]?=V.heap[w1.heap.size]?/\V3.heap[w1.heap.size+1]?=V.heap[w1.heap.size+1]?/\Kept (w1.heap.size+2) Z W0.heap.size V V3:=by
   have hlZ:Z<=V.heap.size:=Nat.le_trans hZ2 HU0.out.size
   have hold:∀b,(W.heap.size<=b/\b<Z)\/(W0.heap.size<=b/\b<V.heap.size)->V3.heap[b]?=V.heap[b]?:=fun b hb=>(hk3.2 b (hb.imp id (fun h=>⟨h.1,zqL h.2 hu2.size⟩))).trans (hu2.block b (by omega) (by omega))
   exact⟨hold _ (.inl ⟨by omega,by omega⟩),hold _ (.inl ⟨by omega,by omega⟩),Nat.le_trans hu2.size hk3.1,fun k hk=>hold k (hk.imp (fun h=>⟨by omega,h.2⟩) id)⟩
  have HKE:=zqH hkept;have HC3:=zqH hc3;have H5:=zqH h5;have HY3:=zqH hy3
  clear hkept hc3 h5 h4 hk3 hu2 hy3 hy HR vy2
  cases r with
  | true=>
    gi_wp2
    exact⟨HKE.out,HC3.out.wlk,H5.out.elim (fun h=>h.2) (fun h=>by cases h.1),HC3.out,HY3.out⟩
  | false=>
    gi_wp2
    exact⟨HKE.out,HC3.out.wlk,rfl,H5.out.elim (fun h=>by cases h.1) (fun h=>h.2)⟩
 case done=>
  rintro Z V hZ1 hZ2 ⟨hj,hwk,hyb⟩ hd _
  gi_wp2
  refine⟨by simp,.inl ⟨_,_,rfl,run_takeDeferred hd,?_⟩⟩
  refine⟨_,results_none rfl _ _ _,⟨_,rfl⟩,Z,by omega,by simpa using hZ2,.inl ⟨?_,hwk.upd (Upd.putObj (S:=fun b=>b=w1.heap.size) V _ rfl) (fun b hb e=>by have:=HFL.out b hb;omega) (by omega) (by omega) (fun a ha h0 e=>by have:=HLO.out a ha h0;have e:a.block=w1.heap.size:=e;omega) (by omega) (by omega) (hwk.wlk.sto.upd (Upd.putObj (S:=fun b=>b=w1.heap.size) V _ rfl) (by omega))⟩⟩
  exact HJ.out Z _ _ _ hj (Upd.putObj _ _ (.inr ⟨by omega,by omega⟩))
 case stop=>
  rintro Z cd pre x post V hZ1 hZ2 hx ⟨rfl,hjx⟩ hd
  gi_wp2
  refine⟨by simp,.inl ⟨_,_,rfl,run_takeDeferred hd,?_⟩⟩
  refine⟨_,results_none rfl _ _ _,⟨_,rfl⟩,Z,by omega,by simpa using hZ2,.inr ⟨pre,x,post,hx,?_⟩⟩
  exact HJX.out Z _ _ _ hjx (Upd.putObj _ _ (.inr ⟨by omega,by omega⟩))
end Go.Proofs.YtbhnjkegkadodaaGreatDoor

/- Part of the proof. -/
import Derived.Test.YtbhnjkegkadodaaGreatDoorG32
set_option linter.all false
set_option maxRecDepth 100000
set_option maxHeartbeats 8000000
namespace Go.Proofs.YtbhnjkegkadodaaGreatDoor
open Go Go.RowKit Go.Proofs Gl
def AL6 (W:World) (b:Nat) (w:World):Prop:=w.heap[b]?=some (.cells #[.slice none 0 0,.int .u64 0] 120 (0,0))/\W.heap.size<=b
theorem AL6.next {W w w':World} {b bs:Nat} (h:AL6 W b w) (hn:Upd (fun b=>b=bs) w w') (hb:b≠bs):AL6 W b w':=⟨(hn.block b (zqA.1 h.1).1 hb).trans h.1,h.2⟩
theorem AL6.lt {W w:World} {b:Nat} (h:AL6 W b w):b<w.heap.size:=(zqA.1 h.1).1
theorem AL6.make {W w w':World} (h:w'=w.alloc (.cells #[.slice none 0 0,.int .u64 0] 120)) (hs:W.heap.size<=w.heap.size):AL6 W w.heap.size w'/\New w w':=⟨⟨by rw[h];exact Ex.alloc_new w _,hs⟩,by rw[h];exact Upd.alloc _ _ _⟩
theorem AL6.facts {W w:World} {b b5 b8:Nat} (h:AL6 W b w) {u5 u8:Value} (e1:w.cell? ⟨b5,6,none⟩=some u5) (e2:w.cell? ⟨b8,0,none⟩=some u8) (h1:b5<W.heap.size) (h2:b8<W.heap.size) (v0 v1:Value):
 w.cell? ⟨b,0,none⟩=some (.slice none 0 0)/\w.frozen? ⟨b,0,none⟩=false/\(w.setCell ⟨b,0,none⟩ v0).cell? ⟨b,1,none⟩=some (.int .u64 0)/\(w.setCell ⟨b,0,none⟩ v0).frozen? ⟨b,1,none⟩=false /\
 (w.setCell ⟨b,0,none⟩ v0).cell? ⟨b5,6,none⟩=some u5/\(w.setCell ⟨b,0,none⟩ v0).cell? ⟨b8,0,none⟩=some u8/\((w.setCell ⟨b,0,none⟩ v0).setCell ⟨b,1,none⟩ v1).cell? ⟨b5,6,none⟩=some u5/\((w.setCell ⟨b,0,none⟩ v0).setCell ⟨b,1,none⟩ v1).cell? ⟨b8,0,none⟩=some u8 /\
 ((w.setCell ⟨b,0,none⟩ v0).setCell ⟨b,1,none⟩ v1).heap[b]?=some (.cells #[v0,v1] 120 (0,0))/\Upd (fun x=>x=b) w ((w.setCell ⟨b,0,none⟩ v0).setCell ⟨b,1,none⟩ v1):=by
 obtain⟨c0,z0,c1,z1,hh,hu⟩:=put2 h.1 v0 v1
 have hst:Upd (fun x=>x=b) w (w.setCell ⟨b,0,none⟩ v0):=Upd.setCell w _ rfl
 have:=h.2
 exact⟨c0,z0,c1,z1,(hst.cell (a:=⟨b5,6,none⟩) (zqB w _ e1) (by show ¬b5=b;omega)).trans e1,(hst.cell (a:=⟨b8,0,none⟩) (zqB w _ e2) (by show ¬b8=b;omega)).trans e2,
  (hu.cell (a:=⟨b5,6,none⟩) (zqB w _ e1) (by show ¬b5=b;omega)).trans e1,(hu.cell (a:=⟨b8,0,none⟩) (zqB w _ e2) (by show ¬b8=b;omega)).trans e2,hh,hu⟩
structure ClA (F:Nat->Prop) (bs:Nat) (W w:World) (L:List Ent) (g:Nat) (R:Option Addr) (m d x:Nat):Prop where
 sf:SF F bs w L
 upd:Upd (fun b=>b=bs) W w
 blk:w.heap[g]?=some (.cells #[.slice R m d,.int .u64 1] 120 (0,0))
 ge:W.heap.size<=g
 num:LN (fun b=>W.heap.size<=b/\b≠g) w R m d x
theorem clA_set {F:Nat->Prop} {bs b m d x:Nat} {W w0 w8 WF:World} {L:List Ent} {R:Option Addr} (al:AL6 W b w8/\b<w0.heap.size) (h:LN (NB w0) w8 R m d x/\SF F bs w8 L/\Upd (fun b=>b=bs) W w8/\W.heap.size<=w0.heap.size) (hx:WF.heap[b]?=some (.cells #[.slice R m d,.int .u64 1] 120 (0,0))/\Upd (fun x=>x=b) w8 WF) (hF:∀y,F y->y<W.heap.size) (hbs:bs<W.heap.size):ClA F bs W WF L b R m d x:=by
 obtain⟨⟨a1,a2⟩,a3⟩:=al
 obtain⟨h1,h2,h3,h4⟩:=h
 exact⟨h2.upd_off hx.2 (fun y hy e=>by have:=hF y hy;have e:y=b:=e;omega) (by omega),h3.then hx.2 (fun y hy e=>by have e:y=b:=e;omega),hx.1,a2,
  (h1.upd hx.2 (fun y hy e=>by have e:y=b:=e;have hy:w0.heap.size<=y:=hy;omega)).mono (fun y _ hy=>by have hy:w0.heap.size<=y:=hy;exact⟨by omega,by omega⟩)⟩
theorem clA_new {F:Nat->Prop} {bs m d x:Nat} {W w0 w8:World} {L:List Ent} {R:Option Addr} (h:LN (NB w0) w8 R m d x/\SF F bs w8 L/\Upd (fun b=>b=bs) W w8/\W.heap.size<=w0.heap.size):ClA F bs W (w8.alloc (.cells #[.slice R m d,.int .u64 1] 120)) L w8.heap.size R m d x:=by
 obtain⟨h1,h2,h3,h4⟩:=h
 have hn:New w8 (w8.alloc (.cells #[.slice R m d,.int .u64 1] 120)):=Upd.alloc _ _ _
 exact⟨h2.new hn,h3.trans (hn.mono (fun _ _ h=>h.elim)),Ex.alloc_new w8 _,h3.size,((h1.mono (Q':=fun y=>w0.heap.size<=y/\y<w8.heap.size) (fun y hy hq=>⟨hq,hy⟩)).new hn).mono (fun y _ hy=>⟨by omega,by omega⟩)⟩
theorem field120 (W:World) (R:Option Addr) (m d:Nat) (c:Int):(Instr.field 120 (.agg #[.slice R m d,.int .u64 c]) 0).run Tryz.prog W=.ok (.agg #[.slice R m d]) W:=by
 simp[Instr.field,asAgg,go_sem]
def CloseR (F:Nat->Prop) (bs:Nat) (w:World) (L:List Ent) (V:Val) (out cur:Nat) (e:Ending) (w':World):Prop:=
 ∃A8 n8 c8 Ap np cp,e=.returned (.tuple #[({ V with p:=V.p+1,A7:=none,n7:=0,c7:=0,A8:=A8,n8:=n8,c8:=c8 }:Val).v,.agg #[.slice Ap np cp]])/\(0<V.t->A8=V.A8/\n8=V.n8/\c8=V.c8/\Ap=none/\np=0/\cp=0) /\
  ∃F',SF F' bs w' L/\Step F F' bs w w'/\(V.t=0->Ap=V.A7/\np=V.n7/\cp=V.c7/\LN (fun b=>Off F' bs b/\w.heap.size<=b) w' A8 n8 c8 (out-cur))
theorem close_any {Q Q' F:Nat->Prop} {bs cur out:Nat} {w:World} {S:F1.Sta} (V:Val) (hS:Okay S) (h:SF F bs w (F1.ents S)) (hcur:LQ Q w V.A7 V.n7 V.c7 cur) (hout:V.t=0->LQ Q' w V.A8 V.n8 V.c8 out) (ht:V.t<18446744073709551616) (hp0:0<V.p) (hp:V.p+1<18446744073709551616) (hb:(F1.hist S (V.p-1)).1+cur / V.t<Gn.B ^ 30) (hS2:Okay { S with h:=F1.putR S.h (V.p,(F1.hist S (V.p-1)).1+cur / V.t,1) }):
 Calls Tryz.prog 27 #[.pointer (some ⟨bs,0,none⟩),.int .u64 16,V.v] w (CloseR F bs w (F1.ents (F1.close S V.p V.t cur)) V out cur):=by
 obtain⟨r,t,A2,n2,c2,j,u,b,p,A7,n7,c7,A8,n8,c8,A9,n9,c9⟩:=V
 simp only at hcur hout ht hp0 hp hb hS2
 unfold CloseR Val.v
 simp only
 obtain⟨W1,hW1⟩:∃W1,W1=w.alloc (.cells #[.int .u64 (r:Int),.int .u64 (t:Int),.slice A2 n2 c2,.bool j,.int .u64 (u:Int),.bool b,.int .u64 (p:Int),.slice A7 n7 c7,.slice A8 n8 c8,.slice A9 n9 c9] 28):=⟨_,rfl⟩
 obtain⟨W2,hW2⟩:∃W2,W2=W1.alloc (.cells #[.int .u64 0,.int .u64 0,.slice none 0 0,.bool false,.int .u64 0,.bool false,.int .u64 0,.slice none 0 0,.slice none 0 0,.slice none 0 0] 28):=⟨_,rfl⟩
 obtain⟨W3,hW3⟩:∃W3,W3=W2.alloc (.cells #[.slice none 0 0] 26):=⟨_,rfl⟩
 obtain⟨hn,hs,b5,b6,b7⟩:=alloc3' hW1 hW2 hW3
 have hov:=over_any (hcur.new hn) ht
 obtain⟨ez,hez⟩:∃ez,ez=erz t:=⟨_,rfl⟩
 obtain⟨X,hX⟩:∃X,X=cur / t:=⟨_,rfl⟩
 rw[<-hX,<-hez]at hov
 rw[<-hX]at hb hS2
 obtain⟨q,hq⟩:∃q,q=p-1:=⟨_,rfl⟩
 have hpq:p-1=q:=hq.symm
 rw[hpq]at hb hS2
 obtain⟨L',hL'⟩:∃L',L'=F1.ents (F1.close S p t cur):=⟨_,rfl⟩
 rw[<-hL']
 have hpc:((p+1:Nat):Int)=(p:Int)+1:=by omega
 simp only[hpc]
 obtain⟨S2,hS2e⟩:∃S2,S2=({ S with h:=F1.putR S.h (p,(F1.hist S q).1+X,1) }:F1.Sta):=⟨_,rfl⟩
 rw[<-hS2e]at hS2
 have hL2:L'=F1.ents (F1.free S2 q):=by
  rw[hL',hS2e];unfold F1.close;rw[hpq,hX];congr 5;rcases Nat.eq_zero_or_pos t with h|h
  · subst h;simp
  · rw[if_neg (by omega)]
 have hwq:IntKind.u64.wrap ((p:Int)-1)=(q:Int):=by rw[IntKind.wrap_u64];omega
 have hwp:IntKind.u64.wrap ((p:Int)+1)=(p:Int)+1:=by rw[IntKind.wrap_u64];omega
 have hql:q<18446744073709551616:=by omega
 have hpl:p<18446744073709551616:=by omega
 have hhist:=fun W' (hsf':SF F bs W' (F1.ents S))=>history_c hS hql hsf'
 obtain⟨hr,hhr⟩:∃hr,hr=(F1.hist S q).1:=⟨_,rfl⟩
 rw[<-hhr]at hhist hb hS2e
 have hset:=fun W' A ck A2 n2 c2 (h1:SF F bs W' (F1.ents S)) h2 h3 h4 h5=>set_hist (bs:=bs) (F:=F) (w:=W') (r:=hr+X) (c:=1) (A:=A) (ck:=ck) (A2:=A2) (n2:=n2) (c2:=c2) hS hpl (F1.nb_le (k:=255) (zqL hb (by decide))) h1 h2 h3 h4 h5
 have hHV:=zqH hov;have HH:=zqH hhist;have HSET:=zqH hset;have HB:=zqH (And.intro b5 (And.intro b6 b7));have HN:=zqH hn;have S3:=zqH hs;have HSF:=zqH h
 have HFREE:=zqH (fun F' W' (hsf':SF F' bs W' (F1.ents S2))=>free_c hS2 hql hsf')
 have HOF:=zqH (fun b (hb:w.heap.size<=b)=>h.off_new hb);have HL2:=zqH hL2;have HS2E:=zqH hS2e;have HXB:=zqH (zqL hb (@zbj 30 1000 (by omega)));have HXF:=zqH hb
 have HBS:=zqH h.bs_lt
 have l7:=zaa b5 7 _ rfl;have l1:=zaa b5 1 _ rfl
 clear hov hhist hset b5 b6 b7 hn hs h hL2 hS2e hb hL' hX hq hpq hhr hS hS2 ht hp0 hpc
 have HEZ:=zqH hez;have HCO:=zqH (And.intro (hcur.new HN.out) (fun h=>(hout h).new HN.out))
 clear hez hcur hout
 go_enter Tryz.func27,Tryz.ntmps27
 go_upto_region 1 with fail
 rw[<-hW1,<-hW2,<-hW3]
 clear hW1 hW2 hW3
 obtain⟨tb,htb⟩:∃tb,(ez != 0)=tb:=⟨_,rfl⟩
 have HTB:=zqH htb
 go_upto_if 22 with(go_at_call 39;refine hHV.out.mono ?_;rintro e w4 ⟨R,m,d,rfl,hr4,hn4⟩;have H4:=zqH (And.intro hr4 hn4);clear hHV hr4 hn4)
 obtain⟨W5,hW5⟩:∃W5,W5=w4.alloc (.cells #[.slice R m d] 26):=⟨_,rfl⟩
 obtain⟨U6,hU6⟩:∃U6,U6=W5.alloc (.cells #[.slice none 0 0] 26):=⟨_,rfl⟩
 have s5:W5.heap.size=w4.heap.size+1:=by rw[hW5];exact zad _ _
 rw[<-hW5,<-s5,<-hU6]
 have s6:U6.heap.size=W5.heap.size+1:=by rw[hU6];exact zad _ _
 have n5:New w4 W5:=by rw[hW5];exact Upd.alloc _ _ _
 have n6:New W5 U6:=by rw[hU6];exact Upd.alloc _ _ _
 have b8:=Ex.alloc_new w4 (.cells #[.slice R m d] 26)
 rw[<-hW5]at b8
 replace b8:=(n6.block _ (by omega) id).trans b8
 have b10:=Ex.alloc_new W5 (.cells #[.slice none 0 0] 26)
 rw[<-hU6]at b10
 obtain⟨hr4,hn4⟩:=H4.out
 have n36:New W3 U6:=hn4.trans (n5.trans n6)
 have hr6:LN (fun x=>W3.heap.size<=x/\x<w4.heap.size) U6 R m d X:=(hr4.mono (fun x hx hq=>⟨hq,hx⟩)).new (n5.trans n6)
 have hs3:=S3.out
 have hs4:=hn4.size
 have k5:=(n36.block w.heap.size (by omega) id).trans HB.out.1
 have k6:=(n36.block (w.heap.size+1) (by omega) id).trans HB.out.2.1
 have k7:=(n36.block (w.heap.size+1+1) (by omega) id).trans HB.out.2.2
 have H6:=zqH (And.intro (HN.out.trans n36) (And.intro hr6 (And.intro k5 (And.intro k6 (And.intro k7 (And.intro b8 b10))))))
 have N36:=zqH n36
 have SZ:=zqH (show W3.heap.size=w.heap.size+1+1+1/\W3.heap.size<=w4.heap.size/\U6.heap.size=w4.heap.size+1+1/\W5.heap.size=w4.heap.size+1 from⟨hs3,hs4,by omega,s5⟩)
 clear s5 s6 hs3 hs4 hW5 hU6 n5 n6 b8 b10 hr4 hn4 hr6 k5 k6 k7 n36 H4 HB l7 l1
 clear htb
 go_cut [] (fun wx=>∃(B8:Option Addr) (o8 e8:Nat) (Ap:Option Addr) (np cp:Nat),Hid (New w wx/\LN (NB W3) wx R m d X/\wx.heap[w.heap.size]?=some (.cells #[.int .u64 (r:Int),.int .u64 (t:Int),.slice A2 n2 c2,.bool j,.int .u64 (u:Int),.bool b,.int .u64 (p:Int),.slice A7 n7 c7,.slice B8 o8 e8,.slice A9 n9 c9] 28 (0,0))/\wx.heap[w.heap.size+1]?=some (.cells #[.int .u64 0,.int .u64 0,.slice none 0 0,.bool false,.int .u64 0,.bool false,.int .u64 0,.slice none 0 0,.slice none 0 0,.slice none 0 0] 28 (0,0))/\wx.heap[w.heap.size+1+1]?=some (.cells #[.slice none 0 0] 26 (0,0))/\wx.heap[w4.heap.size]?=some (.cells #[.slice R m d] 26 (0,0))/\wx.heap[W5.heap.size]?=some (.cells #[.slice Ap np cp] 26 (0,0))/\U6.heap.size<=wx.heap.size/\(0<t->B8=A8/\o8=n8/\e8=c8/\Ap=none/\np=0/\cp=0)/\(t=0->Ap=A7/\np=n7/\cp=c7/\LN (NB U6) wx B8 o8 e8 (out-cur))))
 case first=>
  obtain⟨hnu,hr6,k5,k6,k7,b8,b10⟩:=H6.out
  by_cases h0:t=0
  · have htb:tb=true:=by rw[<-HTB.out,HEZ.out,h0];rfl
    subst htb
    have s10:=SZ.out
    have x7:=zaa k5 7 _ rfl
    have x10:=zaa b10 0 _ rfl
    have z10:=zac b10 0
    obtain⟨V1,hV1⟩:∃V1,V1=U6.setCell ⟨W5.heap.size,0,none⟩ (.slice A7 n7 c7):=⟨_,rfl⟩
    have uv:Upd (fun x=>x=W5.heap.size) U6 V1:=by rw[hV1];exact Upd.setCell U6 _ rfl
    have kv:V1.heap[W5.heap.size]?=some (.cells #[.slice A7 n7 c7] 26 (0,0)):=by rw[hV1,zab b10];rfl
    have k5v:=(uv.block w.heap.size (zqA.1 k5).1 (by omega)).trans k5
    have x8:(U6.setCell ⟨W5.heap.size,0,none⟩ (.slice A7 n7 c7)).cell? ⟨w.heap.size,8,none⟩=some (.slice A8 n8 c8):=by rw[<-hV1];exact zaa k5v 8 _ rfl
    have xp:(U6.setCell ⟨W5.heap.size,0,none⟩ (.slice A7 n7 c7)).cell? ⟨W5.heap.size,0,none⟩=some (.slice A7 n7 c7):=by rw[<-hV1];exact zaa kv 0 _ rfl
    have hlA:LQ (fun x=>x<W3.heap.size) V1 A8 n8 c8 out:=(((HCO.out.2 h0).mono (fun x hx _=>hx)).new N36.out).upd uv (fun x hx e=>by omega)
    have hlB:LQ (fun x=>x<W3.heap.size) V1 A7 n7 c7 cur:=((HCO.out.1.mono (fun x hx _=>hx)).new N36.out).upd uv (fun x hx e=>by omega)
    have hmi:=minus_any hlA hlB
    have HMI:=zqH hmi;have HUV:=zqH (And.intro uv (And.intro kv k5v));have HV1:=zqH hV1
    have H0:=zqH h0
    clear hmi uv kv k5v hV1 hlA hlB s10 h0
    go_wp2_with (go_at_call 61;rw[<-HV1.out];refine HMI.out.mono ?_;rintro e w7 ⟨R8,m8,d8,rfl,hr7,hn7⟩;have k5w:=(hn7.block w.heap.size (zqA.1 HUV.out.2.2).1 id).trans HUV.out.2.2;have y8:=zaa k5w 8 _ rfl;have zz8:=zac k5w 8;have HW7:=zqH (And.intro hr7 (And.intro hn7 k5w));clear hr7 hn7 k5w)
    go_meet
    have s10:=SZ.out
    have h0:=H0.out
    obtain⟨hr7,hn7,k5w⟩:=HW7.out
    obtain⟨uv,kv,k5v⟩:=HUV.out
    have hst:Upd (fun x=>x=w.heap.size) w7 (w7.setCell ⟨w.heap.size,8,none⟩ (.slice R8 m8 d8)):=Upd.setCell w7 _ rfl
    have k5x:=zab k5w (.slice R8 m8 d8) (i:=8)
    simp only[List.setIfInBounds_toArray,List.set_cons_succ,List.set_cons_zero]at k5x
    have hz1:=uv.size
    have hz2:=hn7.size
    have hz3:=hst.size
    have hkk:∀x o,U6.heap[x]?=some o->x≠W5.heap.size->x≠w.heap.size → (w7.setCell ⟨w.heap.size,8,none⟩ (.slice R8 m8 d8)).heap[x]?=some o:=fun x o ho h1 h2=>
     (hst.block x (by have:=(zqA.1 ho).1;omega) h2).trans ((hn7.block x (by have:=(zqA.1 ho).1;omega) id).trans ((uv.block x (zqA.1 ho).1 h1).trans ho))
    have hnn:New w (w7.setCell ⟨w.heap.size,8,none⟩ (.slice R8 m8 d8)):=(((hnu.then uv (fun x hx e=>by have e:x=W5.heap.size:=e;omega)).trans hn7)).then hst (fun x hx e=>by have e:x=w.heap.size:=e;omega)
    refine⟨R8,m8,d8,A7,n7,c7,zqH ⟨hnn,?_,k5x,hkk _ _ k6 (by omega) (by omega),hkk _ _ k7 (by omega) (by omega),hkk _ _ b8 (by omega) (by omega),?_,by omega,fun h=>by omega,fun _=>⟨rfl,rfl,rfl,?_⟩⟩⟩
    · exact((hr6.upd uv (fun x hx e=>by omega)).new hn7 |>.upd hst (fun x hx e=>by omega)).mono (fun x _ hx=>hx.1)
    · exact(hst.block _ (by omega) (by omega)).trans ((hn7.block _ (by omega) id).trans kv)
    · exact(hr7.upd hst (fun x hx e=>by omega)).mono (fun x _ hx=>by show U6.heap.size<=x;omega)
  · have htb:tb=false:=by rw[<-HTB.out,HEZ.out,erz_pos (by omega)];rfl
    subst htb
    have H0:=zqH h0
    clear h0
    go_wp2
    go_meet
    exact⟨A8,n8,c8,none,0,0,zqH ⟨hnu,hr6.mono (fun x _ hx=>hx.1),k5,k6,k7,b8,b10,Nat.le_refl _,fun _=>⟨rfl,rfl,rfl,rfl,rfl,rfl⟩,fun h=>absurd h H0.out⟩⟩
 case rest=>
  obtain⟨B8,o8,e8,Ap,np,cp,hcc⟩:=hcut
  obtain⟨W6,hW6e⟩:∃W6,W6=wc:=⟨_,rfl⟩
  subst hW6e
  obtain⟨nw6,hr6,k5,k6,k7,b8,b10,hs6,hp1,hp2⟩:=hcc.out
  have H66:=zqH (And.intro nw6 (And.intro hr6 (And.intro k5 (And.intro k6 (And.intro k7 (And.intro b8 b10))))))
  clear H6
  have H6:=H66
  clear H66
  have HPP:=zqH (And.intro hs6 (And.intro hp1 hp2))
  have SZ0:=SZ
  clear SZ
  have hs5:=SZ0.out.2.2.2
  have e6:=zaa k5 6 _ rfl
  have e8':=zaa b8 0 _ rfl
  have HSF6:=zqH (HSF.out.new nw6)
  have hk:∀W',Upd (fun b=>b=bs) W6 W'->W'.cell? ⟨w.heap.size,6,none⟩=some (.int .u64 (p:Int))/\W'.cell? ⟨w4.heap.size,0,none⟩=some (.slice R m d):=fun W' hu=>
   ⟨(hu.cell (a:=⟨w.heap.size,6,none⟩) (zqB W6 _ e6) (by show ¬w.heap.size=bs;have:=HBS.out;omega)).trans e6,(hu.cell (a:=⟨w4.heap.size,0,none⟩) (zqB W6 _ e8') (by show ¬w4.heap.size=bs;have:=HBS.out;have:=SZ0.out;omega)).trans e8'⟩
  have HK:=zqH hk
  have SZ:=zqH (show W3.heap.size=w.heap.size+1+1+1/\W3.heap.size<=w4.heap.size/\w4.heap.size+1+1<=W6.heap.size/\W5.heap.size=w4.heap.size+1 from⟨SZ0.out.1,SZ0.out.2.1,by have:=SZ0.out.2.2.1;omega,hs5⟩)
  clear nw6 hr6 k5 k6 k7 b8 b10 hs6 hp1 hp2 hk hcc hs5 HSF HCO HEZ
  go_upto_region 6 with fail
  go_cut [11] (fun s11 wx=>∃g:Nat,s11=.pointer (some ⟨g,0,none⟩)/\Hid (∃Rs ms ds,ClA F bs W6 wx (F1.ents S) g Rs ms ds (hr+X)))
  case first=>
   go_region_held (fun w'=>w'.cell? ⟨w.heap.size,6,none⟩=some (.int .u64 (p:Int))/\w'.cell? ⟨w4.heap.size,0,none⟩=some (.slice R m d)) (go_keep) (first
    | (go_at_call 58
       obtain⟨w0,hw0⟩:∃w0,w0=W6.alloc (.cells #[.slice none 0 0,.int .u64 0] 120):=⟨_,rfl⟩
       rw[<-hw0]
       obtain⟨al,n0⟩:=AL6.make (W:=W6) hw0 (Nat.le_refl _)
       refine(HH.out _ (HSF6.out.new (n0.trans (Upd.refl _ w0).drew))).mono ?_
       rintro e w7 ⟨R1,m1,d1,rfl,hr7,hsf7,hu7⟩
       have u7:Upd (fun b=>b=bs) W6 w7:=((n0.trans (Upd.refl _ w0).drew).mono (fun _ _ h=>h.elim)).trans hu7
       obtain⟨f6,f8⟩:=HK.out _ u7
       have hfl:=fun W'=>field120 W' R1 m1 d1 ((F1.hist S q).2:Int)
       have E7:=zqH (And.intro (hr7.lq.mono (Q':=NB W6) (fun b _ hb=>Nat.le_trans n0.size hb)) (And.intro hsf7 u7))
       have AL:=zqH (al.next (((Upd.refl (fun b=>b=bs) w0).drew).trans hu7) (by have:=HBS.out;have:=al.2;have:=SZ.out;omega))
       clear hr7 hsf7 hu7 u7 al n0 hw0)
    | (go_at_call 58
       refine(HH.out _ (HSF6.out.new (Upd.refl _ W6).drew)).mono ?_
       rintro e w7 ⟨R1,m1,d1,rfl,hr7,hsf7,hu7⟩
       have u7:Upd (fun b=>b=bs) W6 w7:=((Upd.refl _ W6).drew).trans hu7
       obtain⟨f6,f8⟩:=HK.out _ u7
       have hfl:=fun W'=>field120 W' R1 m1 d1 ((F1.hist S q).2:Int)
       have E7:=zqH (And.intro (hr7.lq.mono (Q':=NB W6) (fun b _ hb=>hb)) (And.intro hsf7 u7))
       clear hr7 hsf7 hu7 u7)
    | (go_at_call 36
       obtain⟨w0,hw0⟩:∃w0,w0=w7.alloc (.cells #[.slice none 0 0,.int .u64 0] 120):=⟨_,rfl⟩
       rw[<-hw0]
       obtain⟨al,n0⟩:=AL6.make (W:=W6) hw0 E7.out.2.2.size
       have hrr:LQ (NB W3) w7 R m d X:=(H6.out.2.1.lq).upd E7.out.2.2 (fun b hb e=>by have hb:W3.heap.size<=b:=hb;have e:b=bs:=e;have:=HBS.out;have:=SZ.out;omega)
       refine(dadd_c (E7.out.1.new n0) (hrr.new n0) HXB.out).mono ?_
       rintro e w8 ⟨Rs,ms,ds,rfl,hr8,hn8⟩
       have u8':Upd (fun b=>b=bs) W6 w8:=E7.out.2.2.trans ((n0.trans hn8).mono (fun _ _ h=>h.elim))
       obtain⟨i6,i8⟩:=HK.out _ u8'
       have ALE:=zqH (And.intro (al.next (bs:=bs) (hn8.mono (fun _ _ h=>h.elim)) (by have:=HBS.out;have:=al.2;have:=SZ.out;omega)) al.lt)
       have E8:=zqH (And.intro (hr8.mono (Q':=NB w0) (fun b _ hb=>hb)) (And.intro (E7.out.2.1.new (n0.trans hn8)) (And.intro u8' (Nat.le_trans E7.out.2.2.size n0.size))))
       obtain⟨c0,z0,c1,z1,g6,g8,x6,x8,hx⟩:=ALE.out.1.facts i6 i8 (by have:=SZ.out;omega) (by have:=SZ.out;omega) (.slice Rs ms ds) (.int .u64 1)
       have HX:=zqH hx
       clear hr8 hn8 u8' al n0 hw0 hrr hx)
    | (go_at_call 36
       have AL0:=AL
       clear AL
       have hrr:LQ (NB W3) w7 R m d X:=(H6.out.2.1.lq).upd E7.out.2.2 (fun b hb e=>by have hb:W3.heap.size<=b:=hb;have e:b=bs:=e;have:=HBS.out;have:=SZ.out;omega)
       refine(dadd_c E7.out.1 hrr HXB.out).mono ?_
       rintro e w8 ⟨Rs,ms,ds,rfl,hr8,hn8⟩
       have u8':Upd (fun b=>b=bs) W6 w8:=E7.out.2.2.trans (hn8.mono (fun _ _ h=>h.elim))
       obtain⟨i6,i8⟩:=HK.out _ u8'
       have ALE:=zqH (And.intro (AL0.out.next (bs:=bs) (hn8.mono (fun _ _ h=>h.elim)) (by have:=HBS.out;have:=AL0.out.2;have:=SZ.out;omega)) AL0.out.lt)
       have E8:=zqH (And.intro (hr8.mono (Q':=NB w7) (fun b _ hb=>hb)) (And.intro (E7.out.2.1.new hn8) (And.intro u8' E7.out.2.2.size)))
       obtain⟨c0,z0,c1,z1,g6,g8,x6,x8,hx⟩:=ALE.out.1.facts i6 i8 (by have:=SZ.out;omega) (by have:=SZ.out;omega) (.slice Rs ms ds) (.int .u64 1)
       have HX:=zqH hx
       clear hr8 hn8 u8' AL0 hrr hx)
    | (go_at_call 36
       have hrr:LQ (NB W3) w7 R m d X:=(H6.out.2.1.lq).upd E7.out.2.2 (fun b hb e=>by have hb:W3.heap.size<=b:=hb;have e:b=bs:=e;have:=HBS.out;have:=SZ.out;omega)
       refine(dadd_c E7.out.1 hrr HXB.out).mono ?_
       rintro e w8 ⟨Rs,ms,ds,rfl,hr8,hn8⟩
       have u8':Upd (fun b=>b=bs) W6 w8:=E7.out.2.2.trans (hn8.mono (fun _ _ h=>h.elim))
       obtain⟨i6,i8⟩:=HK.out _ u8'
       have E8:=zqH (And.intro (hr8.mono (Q':=NB w7) (fun b _ hb=>hb)) (And.intro (E7.out.2.1.new hn8) (And.intro u8' E7.out.2.2.size)))
       obtain⟨al,n9⟩:=AL6.make (W:=W6) (w:=w8) rfl u8'.size
       obtain⟨p6,p8⟩:=HK.out _ (u8'.trans (n9.mono (fun _ _ h=>h.elim)))
       obtain⟨c0,z0,c1,z1,g6,g8,x6,x8,hx⟩:=al.facts p6 p8 (by have:=SZ.out;omega) (by have:=SZ.out;omega) (.slice Rs ms ds) (.int .u64 1)
       have HX:=zqH (And.intro hx (And.intro al n9))
       clear hr8 hn8 u8' hrr hx al n9))
   all_goals go_wp2
   all_goals go_meet
   · exact⟨_,rfl,zqH ⟨Rs,ms,ds,clA_new E8.out⟩⟩
   all_goals exact⟨_,rfl,zqH ⟨Rs,ms,ds,clA_set ALE.out E8.out HX.out (fun y hy=>(HSF6.out.lt hy).1) HSF6.out.bs_lt⟩⟩
  case rest=>
   obtain⟨g,rfl,hC⟩:=hcut
   obtain⟨Rs,ms,ds,hc⟩:=hC.out
   clear hC
   obtain⟨a6,a8⟩:=HK.out _ hc.upd
   have v0:=zaa hc.blk 0 _ rfl
   have v1:=zaa hc.blk 1 _ rfl
   have hgl:=(zqA.1 hc.blk).1
   have hkk:∀W' T,Upd T wc W'->¬T w.heap.size->¬T g->W'.cell? ⟨w.heap.size,6,none⟩=some (.int .u64 (p:Int))/\W'.cell? ⟨g,0,none⟩=some (.slice Rs ms ds)/\W'.cell? ⟨g,1,none⟩=some (.int .u64 1):=fun W' T hu h1 h2=>
    ⟨(hu.cell (a:=⟨w.heap.size,6,none⟩) (zqB wc _ a6) h1).trans a6,(hu.cell (a:=⟨g,0,none⟩) hgl h2).trans v0,(hu.cell (a:=⟨g,1,none⟩) hgl h2).trans v1⟩
   have HKK:=zqH hkk
   have hoff:(¬F w.heap.size/\w.heap.size≠bs)/\(¬F g/\g≠bs):=⟨HOF.out _ (Nat.le_refl _),HOF.out _ (by have:=hc.ge;have:=SZ.out;omega)⟩
   have HOG:=zqH hoff
   have h79:∀W',New wc W'->Calls Tryz.prog 79 #[.agg #[.slice Rs ms ds,.int .u64 1]] W' _:=fun W' hn=>puthist_c (y:=1) (hc.num.lq.new hn) (F1.nb_le (k:=255) (zqL HXF.out (by decide))) (by decide)
   have H79:=zqH h79
   have HC:=zqH hc
   have HBW:=zqH (show bs<wc.heap.size from hc.sf.bs_lt)
   clear hkk hoff h79 hc hgl a8 e6 e8'
   go_upto_region 7 with fail
   go_region_held (fun w'=>w'.cell? ⟨w.heap.size,6,none⟩=some (.int .u64 (p:Int))/\w'.cell? ⟨g,0,none⟩=some (.slice Rs ms ds)/\w'.cell? ⟨g,1,none⟩=some (.int .u64 1)) (go_keep) (first
    | (go_at_call 78
       refine(keyH p hpl).mono ?_
       rintro e Wa ⟨Ak,ck,rfl,hk,hna,hat⟩
       have na:New wc Wa:=(Upd.refl _ wc).drew.trans hna
       obtain⟨d0,d1,d2⟩:=HKK.out _ _ na id id
       have HA:=zqH (And.intro hk (And.intro na (fun(a:Addr) (ha:Ak=some a)=>(by have h1:=hat a ha;have h2:=HBW.out;have h3:wc.drew.heap.size=wc.heap.size:=rfl;omega:a.block≠bs))))
       clear hk hna hat na)
    | (go_at_call 79
       refine(H79.out Wa HA.out.2.1).mono ?_
       rintro e Wb ⟨Av,nv,cv,rfl,hv,hnb,hatb⟩
       have nb:New wc Wb:=HA.out.2.1.trans hnb
       obtain⟨i0,i1,i2⟩:=HKK.out _ _ nb id id
       have HBB:=zqH (And.intro hv (And.intro nb (And.intro (HA.out.1.new hnb) (fun(a:Addr) (ha:Av=some a)=>(by have h1:=hatb a ha;have h2:=HBW.out;have h3:=HA.out.2.1.size;omega:a.block≠bs)))))
       clear hv hnb hatb nb)
    | (go_at_call 77
       refine(HSET.out Wb Ak ck Av nv cv (HC.out.sf.new HBB.out.2.1) HBB.out.2.2.1 HA.out.2.2 HBB.out.1 HBB.out.2.2.2).mono ?_
       rintro e Wd ⟨⟨_,rfl⟩,F',hsfd,std⟩
       have ud:Upd (fun b=>F b\/b=bs) wc Wd:=(HBB.out.2.1.mono (fun _ _ h=>h.elim)).trans std.upd
       obtain⟨k0,k1,k2⟩:=HKK.out _ _ ud (fun h=>h.elim HOG.out.1.1 HOG.out.1.2) (fun h=>h.elim HOG.out.2.1 HOG.out.2.2)
       rw[<-HS2E.out]at hsfd
       have hfree:=HFREE.out F' Wd hsfd
       have HD:=zqH (And.intro hsfd (And.intro ((Step.of_new HBB.out.2.1).trans std) ud))
       clear hsfd std ud))
   clear a6 v0 v1 d0 d1 d2 i0 i1 i2 k1 k2
   go_upto_region 9 with(go_at_call 80;refine hfree.mono ?_;rintro e We ⟨rfl,F'',hsfe,ste⟩;have HE:=zqH (And.intro hsfe ste);clear hfree hsfe ste)
   obtain⟨hwn,hr6,b5,b6,b7,b8,b10⟩:=H6.out
   have hkeep:∀x o,W6.heap[x]?=some o->w.heap.size<=x->We.heap[x]?=some o:=fun x o hx hge=>by
    have hlt:=(zqA.1 hx).1
    have o1:=HOF.out x hge
    have z1:=HC.out.upd.size
    have z2:=HD.out.2.2.size
    have e1:=(HC.out.upd.block x hlt o1.2).trans hx
    have e2:=(HD.out.2.2.block x (by omega) (fun h=>h.elim o1.1 o1.2)).trans e1
    have o2:¬F' x:=fun hf=>(HD.out.2.1.sub x hf).elim o1.1 (fun h=>by omega)
    exact(HE.out.2.block (by omega) o2 o1.2).trans e2
   have hsz:=SZ.out
   have c5:=hkeep _ _ b5 (Nat.le_refl _)
   have HCC:=zqH (And.intro (hkeep _ _ b6 (by omega)) (And.intro (hkeep _ _ b7 (by omega)) (hkeep _ _ b10 (by omega))))
   have x6:=zaa c5 6 _ rfl
   have z6:=zac c5 6
   have d5:=zab c5 (.int .u64 ((p:Int)+1)) (i:=6)
   simp only[List.setIfInBounds_toArray,List.set_cons_succ,List.set_cons_zero]at d5
   have x7:=zaa d5 7 _ rfl
   have z7:=zac d5 7
   have f5:=zab d5 (.slice none 0 0) (i:=7)
   simp only[List.setIfInBounds_toArray,List.set_cons_succ,List.set_cons_zero]at f5
   have F5:=zqH f5
   clear c5 d5 f5 hkeep hsz hwn hr6 b5 b6 b7 b8 b10 k0
   go_upto_region 11 with fail
   obtain⟨Wf,hWf⟩:∃Wf,Wf=(We.setCell ⟨w.heap.size,6,none⟩ (.int .u64 ((p:Int)+1))).setCell ⟨w.heap.size,7,none⟩ (.slice none 0 0):=⟨_,rfl⟩
   have f5:=F5.out
   rw[<-hWf]at f5 ⊢
   have huf:Upd (fun b=>b=w.heap.size) We Wf:=by rw[hWf];exact(Upd.setCell (S:=fun b=>b=w.heap.size) We _ rfl).trans (Upd.setCell _ _ rfl)
   obtain⟨c6,c7,c10⟩:=HCC.out
   have hsz:=SZ.out
   replace c6:=(huf.block _ (zqA.1 c6).1 (by omega)).trans c6
   replace c7:=(huf.block _ (zqA.1 c7).1 (by omega)).trans c7
   replace c10:=(huf.block _ (zqA.1 c10).1 (by omega)).trans c10
   obtain⟨l0,l1,l2,l3,l4,l5,l6,l7,l8,l9⟩:=zqC f5
   have m10:=zaa c10 0 _ rfl
   obtain⟨g0,y0,g1,y1,g2,y2,g3,y3,g4,y4,g5,y5,g6,y6,g7,y7,g8,y8,g9,y9,hh,hset⟩:=put10 c6 (.int .u64 (r:Int)) (.int .u64 (t:Int)) (.slice A2 n2 c2) (.bool j) (.int .u64 (u:Int)) (.bool b) (.int .u64 ((p:Int)+1)) (.slice none 0 0) (.slice B8 o8 e8) (.slice A9 n9 c9)
   have j7:=(hset.block _ (zqA.1 c7).1 (by omega)).trans c7
   have j10:=(hset.block _ (zqA.1 c10).1 (by omega)).trans c10
   have i7:=zaa j7 0 _ rfl
   have o7:=zac j7 0
   have i10:=zaa j10 0 _ rfl
   have hst7:=zab j7 (.slice Ap np cp) (i:=0)
   have hu7:=Upd.setCell (S:=fun x=>x=w.heap.size+1+1) (a:=⟨w.heap.size+1+1,0,none⟩) (((((((((((Wf.setCell ⟨w.heap.size+1,0,none⟩ (.int .u64 (r:Int))).setCell ⟨w.heap.size+1,1,none⟩ (.int .u64 (t:Int))).setCell ⟨w.heap.size+1,2,none⟩ (.slice A2 n2 c2)).setCell ⟨w.heap.size+1,3,none⟩ (.bool j)).setCell ⟨w.heap.size+1,4,none⟩ (.int .u64 (u:Int))).setCell ⟨w.heap.size+1,5,none⟩ (.bool b)).setCell ⟨w.heap.size+1,6,none⟩ (.int .u64 ((p:Int)+1))).setCell ⟨w.heap.size+1,7,none⟩ (.slice none 0 0)).setCell ⟨w.heap.size+1,8,none⟩ (.slice B8 o8 e8)).setCell ⟨w.heap.size+1,9,none⟩ (.slice A9 n9 c9))) (.slice Ap np cp) rfl
   have hh2:=(hu7.block _ (zqA.1 hh).1 (by omega)).trans hh
   obtain⟨WW,hWW⟩:∃WW,WW=((((((((((Wf.setCell ⟨w.heap.size+1,0,none⟩ (.int .u64 (r:Int))).setCell ⟨w.heap.size+1,1,none⟩ (.int .u64 (t:Int))).setCell ⟨w.heap.size+1,2,none⟩ (.slice A2 n2 c2)).setCell ⟨w.heap.size+1,3,none⟩ (.bool j)).setCell ⟨w.heap.size+1,4,none⟩ (.int .u64 (u:Int))).setCell ⟨w.heap.size+1,5,none⟩ (.bool b)).setCell ⟨w.heap.size+1,6,none⟩ (.int .u64 ((p:Int)+1))).setCell ⟨w.heap.size+1,7,none⟩ (.slice none 0 0)).setCell ⟨w.heap.size+1,8,none⟩ (.slice B8 o8 e8)).setCell ⟨w.heap.size+1,9,none⟩ (.slice A9 n9 c9)).setCell ⟨w.heap.size+1+1,0,none⟩ (.slice Ap np cp):=⟨_,rfl⟩
   have huw:=(huf.mono (S':=fun x=>x=w.heap.size\/x=w.heap.size+1\/x=w.heap.size+1+1) (fun _ _ e=>.inl e)).trans ((hset.mono (fun _ _ e=>.inr (.inl e))).trans (hu7.mono (fun _ _ e=>.inr (.inr e))))
   rw[<-hWW]at hh2 hst7 huw
   have q0:WW.drew.cell? _=_:=zaa hh2 0 _ rfl;have q1:WW.drew.cell? _=_:=zaa hh2 1 _ rfl;have q2:WW.drew.cell? _=_:=zaa hh2 2 _ rfl;have q3:WW.drew.cell? _=_:=zaa hh2 3 _ rfl;have q4:WW.drew.cell? _=_:=zaa hh2 4 _ rfl;have q5:WW.drew.cell? _=_:=zaa hh2 5 _ rfl;have q6:WW.drew.cell? _=_:=zaa hh2 6 _ rfl;have q7:WW.drew.cell? _=_:=zaa hh2 7 _ rfl;have q8:WW.drew.cell? _=_:=zaa hh2 8 _ rfl;have q9:WW.drew.cell? _=_:=zaa hh2 9 _ rfl
   have qq:WW.drew.cell? _=_:=zaa hst7 0 _ rfl
   have QQ:=zqH (And.intro q0 (And.intro q1 (And.intro q2 (And.intro q3 (And.intro q4 (And.intro q5 (And.intro q6 (And.intro q7 (And.intro q8 (And.intro q9 qq))))))))))
   have HH2:=zqH (And.intro huw hWW)
   clear q0 q1 q2 q3 q4 q5 q6 q7 q8 q9 qq hh hh2 hset hu7 huw hWW hst7 j7 j10 c6 c7 c10 hsz huf f5 hWf x6 z6 x7 z7
   go_region
   all_goals go_wp2
   all_goals
    obtain⟨huw,hWW⟩:=HH2.out
    rw[<-hWW]
    obtain⟨q0,q1,q2,q3,q4,q5,q6,q7,q8,q9,qq⟩:=QQ.out
    clear g0 y0 g1 y1 g2 y2 g3 y3 g4 y4 g5 y5 g6 y6 g7 y7 g8 y8 g9 y9 i7 o7 i10 l0 l1 l2 l3 l4 l5 l6 l7 l8 l9 m10 hWW
    refine bodyPost_ret (by simp[results,Tryz.results27,go_sem,q0,q1,q2,q3,q4,q5,q6,q7,q8,q9,qq];try rfl) rfl ?_
    obtain⟨hsfe,ste⟩:=HE.out
    have z0:=H6.out.1.size
    have z1:=HC.out.upd.size
    have z2:=HD.out.2.2.size
    have z3:=ste.upd.size
    have hsz:=SZ.out
    have hof3:∀x,(x=w.heap.size\/x=w.heap.size+1\/x=w.heap.size+1+1)->¬F'' x/\x≠bs:=fun x hx=>by
     have o1:=HOF.out x (by omega)
     have o2:¬F' x:=fun hf=>(HD.out.2.1.sub x hf).elim o1.1 (fun h=>by omega)
     exact⟨fun hf=>(ste.sub x hf).elim o2 (fun h=>by omega),o1.2⟩
    obtain⟨hs6,hp1,hp2⟩:=HPP.out
    have hwe:Upd (fun x=>F x\/x=bs) W6 We:=((HC.out.upd.mono (fun x _ e=>.inr e)).trans HD.out.2.2).then ste.upd (fun x hx h=>h.elim (fun hf=>(HD.out.2.1.sub x hf).elim .inl (fun h=>by omega)) .inr)
    refine⟨B8,o8,e8,Ap,np,cp,rfl,hp1,F'',?_,?_,fun h0=>?_⟩
    · rw[HL2.out]
      exact(hsfe.upd_off huw (fun x hx e=>(hof3 x e).1 hx) (fun e=>(hof3 bs e).2 rfl)).new (Upd.refl _ _).drew
    · have sA:Step F F' bs w Wd:=((Step.of_new (H6.out.1)).trans (⟨fun b hb=>.inl hb,HC.out.upd.mono (fun b _ e=>.inr e)⟩:Step F F bs W6 wc)).trans HD.out.2.1
      exact((sA.trans ste).off huw (fun x e=>by omega)).off (T:=fun _=>False) ((Upd.refl _ _).drew) (fun x e=>e.elim)
    · obtain⟨u1,u2,u3,u4⟩:=hp2 h0
      refine⟨u1,u2,u3,?_⟩
      have hU:=SZ0.out.2.2.1
      have hf:∀x,U6.heap.size<=x->x<W6.heap.size->¬F'' x/\x≠bs/\¬F x:=fun x g1 g2=>by
       have o1:=HOF.out x (by omega)
       have o2:¬F' x:=fun hf=>(HD.out.2.1.sub x hf).elim o1.1 (fun h=>by omega)
       exact⟨fun hf=>(ste.sub x hf).elim o2 (fun h=>by omega),o1.2,o1.1⟩
      exact((((u4.mono (Q':=fun x=>U6.heap.size<=x/\x<W6.heap.size) (fun x hx hq=>⟨hq,hx⟩)).upd hwe (fun x hx h=>h.elim (hf x hx.1 hx.2).2.2 (hf x hx.1 hx.2).2.1)).upd huw (fun x hx h=>by omega)).new ((Upd.refl _ _).drew)).mono (fun x _ hx=>⟨⟨(hf x hx.1 hx.2).1,(hf x hx.1 hx.2).2.1⟩,by show w.heap.size<=x;omega⟩)
theorem close_c {Q F:Nat->Prop} {bs cur:Nat} {w:World} {S:F1.Sta} (V:Val) (hS:Okay S) (h:SF F bs w (F1.ents S)) (hcur:LQ Q w V.A7 V.n7 V.c7 cur) (ht0:0<V.t) (ht:V.t<18446744073709551616) (hp0:0<V.p) (hp:V.p+1<18446744073709551616) (hb:(F1.hist S (V.p-1)).1+cur / V.t<Gn.B ^ 30) (hS2:Okay { S with h:=F1.putR S.h (V.p,(F1.hist S (V.p-1)).1+cur / V.t,1) }):
 Calls Tryz.prog 27 #[.pointer (some ⟨bs,0,none⟩),.int .u64 16,V.v] w (StartR F bs w (F1.ents (F1.close S V.p V.t cur)) (.tuple #[({ V with p:=V.p+1,A7:=none,n7:=0,c7:=0 }:Val).v,.agg #[.slice none 0 0]])):=by
 refine(close_any (Q':=fun _=>True) (out:=0) V hS h hcur (fun h=>by omega) ht hp0 hp hb hS2).mono ?_
 rintro e w' ⟨A8,n8,c8,Ap,np,cp,rfl,h1,F',h2,h3,_⟩
 obtain⟨rfl,rfl,rfl,rfl,rfl,rfl⟩:=h1 ht0
 exact⟨rfl,F',h2,h3⟩
end Go.Proofs.YtbhnjkegkadodaaGreatDoor

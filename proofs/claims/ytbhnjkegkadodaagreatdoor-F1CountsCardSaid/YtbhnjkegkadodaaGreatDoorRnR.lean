/- Part of the proof. -/
import Derived.Test.YtbhnjkegkadodaaGreatDoorG43
set_option linter.all false
set_option maxRecDepth 100000
set_option maxHeartbeats 8000000
section
open Go.Proofs.YtbhnjkegkadodaaGreatDoor
namespace Gz
open Go Go.RowKit Go.Proofs Gl
open List (getElem_toArray getElem_cons_succ getElem_cons_zero)
theorem dump0 {W:World} {F:Nat->Prop} {bs:Nat} (hs:SF F bs W []):Calls Tryz.prog 17 #[.pointer (some ⟨bs,0,none⟩)] W fun e w'=>∃A c,e=.returned (.slice A 0 c)/\New W w':=by
 obtain⟨base,bm,D,A,n,c,vs,ps,h1,h2,h3,h4,h5,h6⟩:=hs;refine(dump_c h1 h2 (by rw[h6];decide) (by rw[h6];intro e he;cases he)).mono ?_
 rintro e w' ⟨A',n',c',cells,rfl,hn,_,_,hw,_⟩;rw[h6]at hn;obtain rfl:n'=0:=hn;exact⟨A',c',rfl,hw⟩
theorem counts_c {w:World} {tok n1 c1:Nat} {A1:Option Addr} (htok:tok<18446744073709551616) (hl:Laid3 w) (hg:Stp w A1 n1):
 Calls Tryz.prog 5 #[.int .u64 (tok:Int),.slice A1 n1 c1] w fun e w'=>e=.returned (.bool true)/\New w w':=by
 have d7:=zqH (known_c hl);have HG:=zqH hg;have d8:=zqH htok;clear hl hg htok;go_enter Tryz.func5,Tryz.ntmps5
 go_upto_region 3 with(go_at_call 9;refine d7.out.mono ?_;rintro e W1 ⟨rfl,f2⟩;have b7:=zqH f2;clear d7 f2)
 have b8:=HG.out.new b7.out
 go_upto_if 13 with(go_at_call 10;refine(light_c b8).mono ?_;rintro e W2 ⟨⟨b,rfl,hb⟩,rfl⟩)
 cases b
 case false=>
  clear hb b8;go_wp2;go_ret;exact⟨rfl,b7.out⟩
 case true=>
  obtain⟨hn,L,hL,e6⟩:=hb.1 rfl;have g0:=zqH e6;have HL:=zqH hL;clear hb b8 e6 hL
  go_upto_region 6 with(go_at_call 32;refine(begun_c d8.out).mono ?_;rintro e W4 ⟨bs,bx,bd,bh,F,R,m,d,E,me,de,rfl,f4⟩;have d9:=zqH (runAt0 f4);clear f4)
  go_wp2
  go_loopw [6] (fun t6 wr=>∃j:Nat,j<=n1/\t6=.int .i64 (j:Int)/\Hid (∃F l S x,RunAt W2 bs bx bd bh j F l S x wr)) (fun t6 _=>n1-(intOf t6).toNat)
  case atStart=>exact⟨0,by omega,rfl,zqH ⟨F,_,_,_,d9.out⟩⟩
  case round=>
   obtain⟨j,hj,rfl,HI⟩:=hrel;obtain⟨j5,l1,S1,x1,hr⟩:=HI.out;have HR:=zqH hr;clear HI hr d9;by_cases hjn:j<n1
   case pos=>
    obtain⟨s,hs⟩:∃s,L[j]?=some s:=⟨_,zG (by have:=HL.out;omega)⟩
    obtain⟨D,md,cd,a6,g8,e7⟩:=g0.out j s hs;obtain⟨b,off,rfl,e8⟩:∃b off,A1=some ⟨b,off,none⟩/\True:=(by obtain⟨b,off,e,_⟩:=a6;exact⟨b,off,e,trivial⟩);have e0:=stp_range (a6.new HR.out.ra.nw);have e1:=does_c HR.out.ra HR.out.bk HR.out.gd (HR.out.sm (by omega)) (by have:=HR.out.q;omega) (s:=s) (D:=D) (m:=md) (c:=cd) (by obtain⟨_,_,_,_,_,_,_,h1,h2,h3⟩:=a6;exact h1) (by obtain⟨_,_,_,_,_,_,_,h1,h2,h3⟩:=a6;exact h2) (by obtain⟨_,_,_,_,_,_,_,h1,h2,h3⟩:=a6;exact h3) (lq_lt e7 HR.out.ra.nw);have e2:=zqH e1;have e3:=zqH e0;clear e1 e0 a6 e7 g8 hs e8
    go_upto_region 10 with(first|(refine wpList_load_mid rfl 48 (.tmp 25) rfl b (off+j*4) rfl [.int .i64 s.wh,.int .i64 s.at_,.int .u64 (s.n:Int),.slice D md cd] _ e3.out Tryz.underlying48 rfl (by kernel_rfl) ?_)|(go_at_call 33;refine e2.out.mono ?_;rintro e W5 hd5;obtain⟨rfl,F2,l2,S2,x2,c6⟩:=HR.out.ofDoes hd5;have a5:=zqH c6;have c0:=zaa c6.ra.xb 0 (.pointer (some ⟨bs,0,none⟩)) rfl;clear hd5 c6 e2))
    obtain⟨bm,hm⟩:=a5.out.ra.sf.m;have e4:=count_c (okay_run a5.out.bk a5.out.gd (a5.out.sm (by omega))) hm
    go_upto_region 11 with(go_at_call 21;refine e4.mono ?_;rintro e W6 ⟨rfl,f5,f6⟩;have a3:=zqH (a5.out.bsd f6 f5.sf);clear f5 f6)
    have a8:=a3.out.bk.counts;obtain⟨kc,b0⟩:=zE x2.C.length;obtain⟨nh,d0⟩:=zE S2.h.length;obtain⟨ho,b6⟩:=zE x2.hold;rw[<-b0,<-d0,<-b6]at a8;have e5:=a8.1;have b9:=a3.out.ra.xb;rw[<-b0]at b9;rw[e5,<-d0];have h5:1<=nh:=a8.2.1;have h6:(nh:Int)<=1+(ho:Int)+(kc:Int):=(by have:=a8.2.2;omega);have h7:ho<=4:=(by rw[b6,<-a3.out.d];exact F1.tot_one_le (fun d:F1.Del=>d.on) x2.ds);have h8:kc<=200:=(by rw[b0];have:=a3.out.c;omega);have h9:nh<=300:=(by omega);have j3:IntKind.i64.wrap (1+(ho:Int))=1+(ho:Int):=(by rw[IntKind.wrap_i64];omega);have j4:IntKind.i64.wrap (1+(ho:Int)+(kc:Int))=1+(ho:Int)+(kc:Int):=(by rw[IntKind.wrap_i64];omega);have g1:(1:Int)<=(nh:Int):=(by omega);have a4:=fun W (h1:W.heap[bx]?=some (.cells (xc bs bd bh l2 x2.n x2.q kc) 77 (0,0))) (h2:W.heap[bh]?=_)=>holding_c (w:=W) (ds:=x2.ds) h1 rfl h2 a3.out.d;rw[show F1.tot (fun d=>F1.one d.on) x2.ds=ho from b6.symm]at a4;have a1:=zqH (zN b9 a3.out.ra.hb);have g2:=zqH a4;clear a8 e5 b9 b0 d0 b6 a4 e4 hm c0 a5 HR e3;refine beginM 18 (fun w'=>w'.heap[bx]?=some (.cells (xc bs bd bh l2 x2.n x2.q kc) 77 (0,0))/\w'.heap[bh]?=some (.cells ((x2.ds.map fun d=>Value.bool d.on).toArray) 4 (0,0))) (by kernel_rfl) (fun hcl1=>?_);refine pureP (b:=?act1) [(0,.int .i64 (kc:Int)),(1,.pointer (some ⟨bx,0,none⟩)),(2,.pointer (some ⟨bx,0,none⟩)),(3,.pointer (some ⟨bx,13,none⟩))] hcl1 a1.out (fun w'=>?hy1) (fun hcl2=>?_)
    case hy1=>
     iterate 4 (refine RunsM.cons rfl rfl (by go_simp) ?_;simp only[Act.put,getElem_toArray,getElem_cons_succ,getElem_cons_zero,gA,gB,gC])
     exact rfl
    refine takeD 4 [17,6,5,4] (v:=.int .i64 (kc:Int)) rfl hcl2 a1.out (fun w' hk=>by have g3:=zaa hk.1 13 (.int .i64 (kc:Int)) rfl;go_simp) (fun hcl3=>?_);simp only[Act.put,getElem_toArray,getElem_cons_succ,getElem_cons_zero,gA,gB,gC];refine pureP (b:=?act3) [(5,.bool false),(6,.bool false),(7,.int .i64 (nh:Int)),(8,.pointer (some ⟨bx,0,none⟩)),(11,.pointer (some ⟨bx,0,none⟩)),(12,.pointer (some ⟨bx,0,none⟩)),(13,.pointer (some ⟨bx,13,none⟩))] hcl3 a1.out (fun w'=>?hy3) (fun hcl4=>?_)
    case hy3=>
     iterate 7 (refine RunsM.cons rfl rfl (by go_simp) ?_;simp only[Act.put,getElem_toArray,getElem_cons_succ,getElem_cons_zero,gA,gB,gC])
     exact rfl
    refine takeD 14 [17,16,15,14] (v:=.int .i64 (kc:Int)) rfl hcl4 a1.out (fun w' hk=>by have g3:=zaa hk.1 13 (.int .i64 (kc:Int)) rfl;go_simp) (fun hcl5=>?_);simp only[Act.put,getElem_toArray,getElem_cons_succ,getElem_cons_zero,gA,gB,gC];refine oneP 9 rfl hcl5 (fun K hK=>?_);go_simp;refine(g2.out W6.drew a1.out.1 a1.out.2).mono ?_
    rintro e W7 ⟨rfl,rfl⟩;refine hK _ _ (fun _=>a1.out) (fun hcl6=>?_);refine pureP (b:=?act5) [(10,.int .i64 (1+(ho:Int))),(15,.int .i64 (1+(ho:Int)+(kc:Int))),(16,.bool false),(17,.bool false)] hcl6 a1.out (fun w'=>?hy5) (fun hcl7=>?_)
    case hy5=>
     iterate 4 (refine RunsM.cons rfl rfl (by go_simp) ?_;simp only[Act.put,getElem_toArray,getElem_cons_succ,getElem_cons_zero,gA,gB,gC])
     exact rfl
    refine oneP 18 rfl hcl7 (fun K hK=>?_);go_simp;refine hK _ _ (offM (by kernel_rfl)) (fun hcl8=>?_);refine pureQ (b:=?act6) [(19,.int .i64 (nh:Int)),(20,.bool false),(21,.bool false)] hcl8 (fun w'=>?hy6) (fun hcl9=>?_)
    case hy6=>
     iterate 3 (refine RunsM.cons rfl rfl (by go_simp) ?_;simp only[Act.put,getElem_toArray,getElem_cons_succ,getElem_cons_zero,gA,gB,gC])
     exact rfl
    refine doneM (by kernel_rfl) ?_ _;go_wp2;exact⟨⟨j+1,by omega,by congr 1,zqH ⟨F2,l2,S2,x2,a3.out.new (Upd.refl _ _).drew⟩⟩,by simp[intOf];omega⟩
   case neg=>
    obtain rfl:j=n1:=(by omega);have c0:=zaa HR.out.ra.xb 0 (.pointer (some ⟨bs,0,none⟩)) rfl;have g4:=gone_c (okay_run HR.out.bk HR.out.gd (HR.out.sm (by omega))) HR.out.ra.sf
    go_upto_region 14 with(go_at_call 35;refine g4.mono ?_;rintro e W5 ⟨rfl,F2,f7,f8⟩;have c5:=zqH (HR.out.ra.step (S':=⟨[],[]⟩) f8 f7);have c0:=zaa c5.out.xb 0 (.pointer (some ⟨bs,0,none⟩)) rfl;clear f7 f8)
    have g5:=dump0 c5.out.sf
    go_wp2_with (go_at_call 17;refine g5.mono ?_;rintro e W6 ⟨Ad,cd,rfl,f9⟩;have g6:=zqH f9;clear f9)
    go_ret
    exact⟨rfl,b7.out.trans (c5.out.nw.trans g6.out)⟩
end Gz
end

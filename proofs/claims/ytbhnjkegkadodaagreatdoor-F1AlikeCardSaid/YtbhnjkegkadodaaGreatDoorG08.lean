/- Part of the proof. -/
import Derived.Test.YtbhnjkegkadodaaGreatDoorG07
import Derived.Deep.RegionHeld3
import Derived.Deep.DeepCutAuto
set_option linter.all false
set_option maxRecDepth 100000
set_option maxHeartbeats 8000000
namespace Go.Proofs.YtbhnjkegkadodaaGreatDoor
open Go Go.RowKit Go.Proofs Gn
theorem lim_parts {P X S:List Nat} (h:Lim (P ++ X ++ S)):Lim P/\Lim X/\Lim S:=
 ⟨fun x hx=>h x (by simp[hx]),fun x hx=>h x (by simp[hx]),fun x hx=>h x (by simp[hx])⟩
theorem long_c {A A':Option Addr} {N c n c':Nat} {a b:List Nat} {w:World} (ha:NatV 22 w A N c a) (hb:NatV 22 w A' n c' b) (hnb:Gn.Norm b) (hn:2<=n) (hNn:n<=N) (hN:N<=134217728):
 Calls Tryz.prog 206 #[.slice A N c,.slice A' n c'] w fun e w'=>∃R m d l R' m' d' l',e=.returned (.tuple #[.slice R m d,.slice R' m' d'])/\NatV 22 w' R m d l/\Gn.Norm l/\val l=val a / val b/\NatV 22 w' R' m' d' l'/\Gn.Norm l'/\val l'=val a % val b/\Below w.heap.size w w'/\NewA w R/\NewA w R':=by
 obtain⟨i0,hi0,hz0,hz1,hz2⟩:=info_parts info22
 obtain⟨M,hM⟩:∃M,M=N-n:=⟨_,rfl⟩
 have hMN:(N:Int)-(n:Int)=(M:Int):=by omega
 have hmk:∀W:World,(Instr.makeSlice 24 (.int .i64 ((M:Int)+1)) (.int .i64 ((M:Int)+1))).run Tryz.prog W=.ok (.slice (some ⟨W.heap.size,0,none⟩) (M+1) (M+1)) (W.alloc (.cells ((List.replicate (M+1) 0).map Gn.u64).toArray 22)):=fun W=>
  run_make_limbs (P:=Tryz.prog) 24 22 i0 Tryz.underlying24 hi0 hz0 hz1 hz2 (M+1) (by omega) W
 have lenb:=hb.len
 have hne:b≠[]:=fun e=>by rw[e]at lenb;simp at lenb;omega
 obtain⟨x,hx⟩:∃x,x=b[n-1]'(by omega):=⟨_,rfl⟩
 have hxl:x=b.getLast hne:=by rw[hx,List.getLast_eq_getElem];congr 1;omega
 have hx0:0<x:=by have:=hnb hne;omega
 have hxB:x<B:=hx▸hb.lim.get _ (by omega)
 obtain⟨bb,bo,rfl,_⟩:=hb.row (by omega)
 have hcx:=hb.cell rfl (n-1) (by omega)
 rw[<-hx]at hcx
 simp only[Gn.u64]at hcx
 obtain⟨s,hs⟩:∃s,s=64-Lib.bitLen x:=⟨_,rfl⟩
 have hbl:=zbd hx0 hxB
 have hs63:s<=63:=by omega
 obtain⟨hl1,hl2⟩:=lead_bounds hx0 hxB
 rw[<-hs]at hl1 hl2
 have hsI:(64:Int)-(Lib.bitLen x:Int)=(s:Int):=by omega
 have hi:((n:Int)-1).toNat=n-1:=by omega
 have C:=Lib.hid (show ∀W,Calls Tryz.prog 245 #[.int .u64 (x:Int)] W fun e w'=>e=.returned (.int .i64 (s:Int))/\W=w' from fun W=>(Tryz.bits_LeadingZeros64 x W (by omega) (by unfold B at hxB;omega)).mono fun e w' h=>⟨by rw[h.1,Int.toNat_natCast,hsI],h.2.symm⟩)
 have Ha:=Lib.hid ha;have Hb:=Lib.hid hb;have L1:=Lib.hid hl1;have L2:=Lib.hid hl2;have HXl:=Lib.hid (show ∃h:n-1<b.length,b[n-1]=x from⟨by omega,hx.symm⟩);have LenB:=Lib.hid lenb
 clear hxl hx hne hnb lenb ha hb hl1 hl2 hs hbl hsI hM
 go_enter Tryz.func206,Tryz.ntmps206
 go_wp2_with (go_at_call 245;refine(C.out _).mono ?_;rintro e w' ⟨rfl,rfl⟩)
 refine(left_c Ha.out hs63 (by omega)).mono ?_
 rintro e w1 ⟨g1,o1,rfl,hg1,hlb1,hl1,hm1,hv1,hbw1⟩
 have hb1:=Lib.hid (Hb.out.below hbw1)
 go_wp2_with fail
 refine(left_c hb1.out hs63 (by omega)).mono ?_
 rintro e w2 ⟨g2,o2,rfl,hg2,hlb2,hl2,hm2,hv2,hbw2⟩
 have hlb1':=hlb1.below hbw2 hlb1.lt
 have HL:=Lib.hid hlb1';have HL2:=Lib.hid hlb2
 have F1:=Lib.hid (And.intro hl1 (And.intro hm1 hv1));have F2:=Lib.hid (And.intro hl2 (And.intro hm2 hv2))
 have G1:=Lib.hid hg1;have G2:=Lib.hid hg2;have GL:=Lib.hid hlb1.lt
 have BW:=Lib.hid (hbw1.trans (hbw2.mono hbw1.size))
 clear hlb1 hlb1' hlb2 hl1 hm1 hv1 hl2 hm2 hv2 hg1 hg2 hbw1 hbw2 hb1 hcx
 have hn1:n<=n+1:=by omega
 go_wp2
 clear hmk C
 have hMn:M+n=N:=by omega
 have HMN:=Lib.hid hMn
 have BY:=Lib.hid (by_facts LenB.out (by omega) Hb.out.lim HXl.out.2 F2.out.1 F2.out.2.2 L1.out (by omega) F2.out.2.1)
 obtain⟨Y,hY⟩:∃Y,Y=val (o2.take n):=⟨_,rfl⟩
 have hlen2:=F2.out.1
 have hyl:(o2.take n).length=n:=List.length_take_of_le (by omega)
 have htop:B<=2*(o2.take n)[n-1]'(by omega):=by
  rw[List.getElem_take];have h1:=BY.out.2;have h2:=L2.out;omega
 have HY:=Lib.hid hY
 have HTOP:=Lib.hid (show ∃h:n-1<(o2.take n).length,B<=2*(o2.take n)[n-1] from⟨by omega,htop⟩)
 have ST:=Lib.hid (show val (o1.drop (M+1))<Y by rw[hY];exact start_lt Ha.out.len Ha.out.lim F1.out.1 F1.out.2.1 F1.out.2.2 hyl (by omega) hMn htop hs63)
 clear hY htop hyl hlen2 hMn
 have hMn1:M+n<=N:=by have:=HMN.out;omega
 have hg12:g1<g2:=by have h1:=GL.out;have h2:=G2.out;omega
 have hg23:g2<w2.heap.size:=HL2.out.lt
 have hwg1:w.heap.size<=g1:=G1.out
 go_loopw [11] (fun i wr=>∃(k:Nat) (p q:List Nat),k<=M+1/\i=.int .i64 ((k:Int)-1)/\LB 22 wr g1 p/\LB 22 wr g2 o2/\LB 22 wr w2.heap.size q/\Hid (p.length=N+1/\Lim p/\q.length=M+1/\Lim q) /\
  Hid (val p+Y*(B ^ k*val (q.drop k))=val a*2 ^ s/\val (p.drop k)<Y)/\Below w.heap.size w wr) (fun i _=>(intOf i+1).toNat)
 case atStart=>
  have hb0:=BW.out
  refine⟨M+1,o1,List.replicate (M+1) 0,Nat.le_refl _,by go_num,HL.out.alloc _,HL2.out.alloc _,LB.zeros _ _ _,Lib.hid ⟨F1.out.1,F1.out.2.1,by simp,Lim.zeros _⟩,Lib.hid ⟨?_,ST.out⟩,hb0.alloc hb0.size _⟩
  rw[List.drop_eq_nil_of_le (by simp),val_nil,Nat.mul_zero,Nat.mul_zero,Nat.add_zero];exact F1.out.2.2
 case round=>
  obtain⟨k,p,q,hk,rfl,hl1,hl2,hl3,hlen,hv,hbw⟩:=hrel
  by_cases h0:0<k
  · obtain⟨j,rfl⟩:∃j,k=j+1:=⟨k-1,by omega⟩
    rw[show(((j+1:Nat):Int)-1)=(j:Int) by omega]
    obtain⟨P,X,S,hp,hP,hX⟩:∃P X S,p=P ++ X ++ S/\P.length=j/\X.length=n+1:=by
     refine⟨p.take j,(p.drop j).take (n+1),(p.drop j).drop (n+1),?_,?_,?_⟩
     · rw[List.append_assoc,List.take_append_drop,List.take_append_drop]
     · rw[List.length_take_of_le (by have:=hlen.out.1;omega)]
     · rw[List.length_take_of_le (by rw[List.length_drop];have:=hlen.out.1;omega)]
    subst hp
    have hXm:=(lim_parts hlen.out.2.1).2.1
    obtain⟨t2,ht2⟩:∃t,t=X[n]'(by omega):=⟨_,rfl⟩
    obtain⟨t1,ht1⟩:∃t,t=X[n-1]'(by omega):=⟨_,rfl⟩
    obtain⟨t0,ht0⟩:∃t,t=X[n-2]'(by omega):=⟨_,rfl⟩
    have hc2:=win_cell hl1 n (by omega)
    have hc1:=win_cell hl1 (n-1) (by omega)
    have hc0:=win_cell hl1 (n-2) (by omega)
    rw[hP,<-ht2]at hc2
    rw[hP,<-ht1,show j+(n-1)=j+n-1 by omega]at hc1
    rw[hP,<-ht0,show j+(n-2)=j+n-2 by omega]at hc0
    have hlen2:=F2.out.1
    obtain⟨y1,hy1⟩:∃t,t=o2[n-1]'(by omega):=⟨_,rfl⟩
    obtain⟨y0,hy0⟩:∃t,t=o2[n-2]'(by omega):=⟨_,rfl⟩
    have hd1:=hl2.cell (n-1) (by omega)
    have hd0:=hl2.cell (n-2) (by omega)
    rw[<-hy1]at hd1;rw[<-hy0]at hd0
    simp only[Gn.u64]at hc2 hc1 hc0 hd1 hd0
    have hj0:((j:Int)+(n:Int)).toNat=j+n:=by omega
    have hj1:((j:Int)+(n:Int)-1).toNat=j+n-1:=by omega
    have hj2:((j:Int)+(n:Int)-2).toNat=j+n-2:=by omega
    have hn1':((n:Int)-1).toNat=n-1:=by omega
    have hn2':((n:Int)-2).toNat=n-2:=by omega
    have hyl:(o2.take n).length=n:=List.length_take_of_le (by omega)
    have hY:=HY.out
    have hYn:Y<B ^ n:=by have:=val_lt (F2.out.2.1.take n);rw[hyl,<-hY]at this;exact this
    have Htop:=HTOP.out.2
    rw[List.getElem_take,<-hy1]at Htop
    have hy1p:0<y1:=by have:=B_pos;omega
    have hjn:j+n<=N:=by omega
    have hS:=hv.out.2
    rw[<-hP]at hS
    obtain⟨hS0,hRY⟩:=round_R hX hYn hXm hS
    have hYp:0<Y:=by
     rcases Nat.eq_zero_or_pos Y with h|h
     · rw[h]at hRY;omega
     · exact h
    have ht2y:t2<=y1:=by
     have h1:=top_le hX hyl (by omega) (F2.out.2.1.take n) (by rw[<-hY];exact hRY)
     rw[List.getElem_take,<-hy1,<-ht2]at h1;exact h1
    have YC:=Lib.hid (show(∃h:n-1<o2.length,o2[n-1]=y1)/\(∃h:n-2<o2.length,o2[n-2]=y0) from⟨⟨by omega,hy1.symm⟩,⟨by omega,hy0.symm⟩⟩)
    obtain⟨Z,hZ⟩:∃Z,Z=min (B-1) (((t2*B+t1)*B+t0) / (y1*B+y0)):=⟨_,rfl⟩
    have hrnd:=long_round (Z:=Z) hX hyl hn hXm (F2.out.2.1.take n) (by rw[<-hY];exact hRY) (by rw[List.getElem_take,<-hy1];exact Htop)
     (by simp only[List.getElem_take];rw[<-ht2,<-ht1,<-ht0,<-hy1,<-hy0];exact hZ)
    rw[<-hY]at hrnd
    have hZB:Z<B:=Nat.lt_of_le_of_lt (hZ▸Nat.min_le_left _ _) (Nat.sub_lt B_pos (by decide))
    have CG:=Lib.hid (guess_c t2 t1 t0 y1 y0 Z ht2y (ht1▸hXm.get _ _) (ht0▸hXm.get _ _) (hy1▸F2.out.2.1.get _ _) (hy0▸F2.out.2.1.get _ _) hy1p hZ)
    have RND:=Lib.hid hrnd;have S0:=Lib.hid hS0;have YP:=Lib.hid hYp;have ZB:=Lib.hid hZB;have HP:=Lib.hid hP;have HX:=Lib.hid hX;have XM:=Lib.hid hXm;have YY:=Lib.hid hY;have YL:=Lib.hid hyl
    clear hrnd hS0 hYp hZB hP hX hXm hY hyl hZ ht2y hRY hS hYn Htop ht2 ht1 ht0 hy1 hy0 hlen2
    have hsz1:g1<wr.heap.size:=hl1.lt
    have hsz2:g2<wr.heap.size:=hl2.lt
    have a2:∀o,(wr.alloc o).cell? ⟨g1,j+n,none⟩=some (.int .u64 (t2:Int)):=fun o=>(World.cell?_alloc_lt _ _ _ hsz1).trans hc2
    have a1:∀o,(wr.alloc o).cell? ⟨g1,j+n-1,none⟩=some (.int .u64 (t1:Int)):=fun o=>(World.cell?_alloc_lt _ _ _ hsz1).trans hc1
    have a0:∀o,(wr.alloc o).cell? ⟨g1,j+n-2,none⟩=some (.int .u64 (t0:Int)):=fun o=>(World.cell?_alloc_lt _ _ _ hsz1).trans hc0
    have q0:IntKind.i64.wrap ((j:Int)+(n:Int))=(j:Int)+(n:Int):=IntWalk.i64_in _ (by omega)
    have q1:IntKind.i64.wrap ((j:Int)+(n:Int)-1)=(j:Int)+(n:Int)-1:=IntWalk.i64_in _ (by omega)
    have q2:IntKind.i64.wrap ((j:Int)+(n:Int)-2)=(j:Int)+(n:Int)-2:=IntWalk.i64_in _ (by omega)
    have q3:IntKind.i64.wrap ((n:Int)-1)=(n:Int)-1:=IntWalk.i64_in _ (by omega)
    have q4:IntKind.i64.wrap ((n:Int)-2)=(n:Int)-2:=IntWalk.i64_in _ (by omega)
    have r0:(0:Int)<=(j:Int)+(n:Int)/\(j:Int)+(n:Int)<(N:Int)+1:=by omega
    have r1:(0:Int)<=(j:Int)+(n:Int)-1/\(j:Int)+(n:Int)-1<(N:Int)+1:=by omega
    have r2:(0:Int)<=(j:Int)+(n:Int)-2/\(j:Int)+(n:Int)-2<(N:Int)+1:=by omega
    have r3:(0:Int)<=(n:Int)-1/\(n:Int)-1<(n:Int):=by omega
    have r4:(0:Int)<=(n:Int)-2/\(n:Int)-2<(n:Int):=by omega
    have GG:=Lib.hid (show LB 22 wr g1 (P ++ X ++ S)/\LB 22 wr g2 o2/\LB 22 wr w2.heap.size q/\Below w.heap.size w wr from⟨hl1,hl2,hl3,hbw⟩)
    clear hl1 hl2 hl3 hbw
    go_upto_region 9 with fail
    go_cut [12] (fun s12 wx=>∃g4:Nat,s12=.pointer (some ⟨g4,0,none⟩)/\Hid (wx.heap[g4]?=some (.cells #[.int .u64 (t2:Int),.int .u64 (t1:Int),.int .u64 (t0:Int)] 336 (0,0))) /\
     Hid (LB 22 wx g1 (P ++ X ++ S)/\LB 22 wx g2 o2/\LB 22 wx w2.heap.size q/\Below w.heap.size w wx))
    case first=>
     go_region
     all_goals
      go_wp2_with fail
      go_meet
      have hl1:=GG.out.1;have hl2:=GG.out.2.1;have hl3:=GG.out.2.2.1
      exact⟨wr.heap.size,rfl,Lib.hid (heap_alloc_new wr _),Lib.hid ⟨(hl1.alloc _).drew,(hl2.alloc _).drew,(hl3.alloc _).drew,below_drewN (GG.out.2.2.2.alloc GG.out.2.2.2.size _) 1⟩⟩
    case rest=>
     obtain⟨g4,rfl,hg4,hG⟩:=hcut
     clear q0 q1 q2 r0 r1 r2 a0 a1 a2 hc0 hc1 hc2 hj1 hj2 hd1 hd0 hsz1 hsz2 GG
     have hd1:=hG.out.2.1.cell (n-1) (by have:=F2.out.1;omega)
     have hd0:=hG.out.2.1.cell (n-2) (by have:=F2.out.1;omega)
     rw[YC.out.1.2]at hd1;rw[YC.out.2.2]at hd0
     simp only[Gn.u64]at hd1 hd0
     have tc0:wc.cell? ⟨g4,0,none⟩=some (.int .u64 (t2:Int)):=by rw[cell_of_row wc g4 0 _ _ _ hg4.out];rfl
     have tc1:wc.cell? ⟨g4,1,none⟩=some (.int .u64 (t1:Int)):=by rw[cell_of_row wc g4 1 _ _ _ hg4.out];rfl
     have tc2:wc.cell? ⟨g4,2,none⟩=some (.int .u64 (t0:Int)):=by rw[cell_of_row wc g4 2 _ _ _ hg4.out];rfl
     go_wp2_with fail
     go_cut [13] (fun s13 wx=>s13=.int .u64 (Z:Int)/\Hid (LB 22 wx g1 (P ++ X ++ S)/\LB 22 wx g2 o2/\LB 22 wx w2.heap.size q/\Below w.heap.size w wx))
     case first=>
      have v1:(1:Int)<=(n:Int):=by omega
      have v2:(2:Int)<=(n:Int):=by omega
      have v3:1<=n:=by omega
      have v4:0<n:=by omega
      have v5:(n:Int)-2<(n:Int):=by omega
      have v6:(n:Int)-1<(n:Int):=by omega
      go_still_tail 12,(by kernel_rfl)
      change wpList _ _ _ _ _ wc.drew
      generalize hwd:wc.drew=wd
      have HWD:=Lib.hid hwd;clear hwd
      go_wp2_with (go_at_call 247;refine(CG.out _).mono ?_;rintro e w3 ⟨rfl,hb3⟩)
      go_meet
      have hl1:=hG.out.1;have hl2:=hG.out.2.1;have hl3:=hG.out.2.2.1
      obtain rfl:wc.drew=wd:=HWD.out
      exact⟨rfl,Lib.hid ⟨(hl1.drew).below hb3 hl1.lt,(hl2.drew).below hb3 hl2.lt,(hl3.drew).below hb3 hl3.lt,(below_drewN hG.out.2.2.2 1).trans (hb3.mono (below_drewN hG.out.2.2.2 1).size)⟩⟩
     case rest=>
      rename_i wc1
      obtain⟨rfl,hG1⟩:=hcut
      have r5:(j:Int)+(n:Int)+1<=(N:Int)+1:=by omega
      have r6:(0:Int)<=(j:Int):=by omega
      have r7:(j:Int)<=(j:Int)+(n:Int)+1:=by omega
      have r8:((j:Int)+(n:Int)+1).toNat=j+n+1:=by omega
      have r9:j+n+1-j=n+1:=by omega
      go_wp2_with fail
      have hyv:NatV 22 wc (some ⟨g2,0,none⟩) n n (o2.take n):=(hG1.out.2.1.natV F2.out.2.1 F2.out.1 (Nat.le_refl _) (by simp[maxLen];omega)).take (by omega) (Nat.le_refl _) (by simp[maxLen];omega)
      have YV:val (o2.take n)=Y:=YY.out.symm
      refine(take_c (c:=n+1) hG1.out.1 HP.out HX.out XM.out hyv (by omega) (by omega) (fun b off e=>by injection e with e;injection e with e;omega) ZB.out (by rw[YV];exact digit_le RND.out.2)).mono ?_
      rintro e w3 ⟨r,X',rfl,hlbX,hX'l,hX'm,hft,hff,hg3⟩
      rw[YV]at hft hff
      have hL:=Lib.hid (show LB 22 w3 g1 (P ++ X' ++ S)/\LB 22 w3 g2 o2/\LB 22 w3 w2.heap.size q/\Below w.heap.size w w3 from
       ⟨hlbX,hG1.out.2.1.only hg3 (by simp;omega),hG1.out.2.2.1.only hg3 (by simp;omega),hG1.out.2.2.2.grown hg3 hG1.out.2.2.2.size (fun k e=>by injection e with e;omega)⟩)
      have hjq:j<q.length:=by rw[hlen.out.2.2.1];omega
      have hcq:=hL.out.2.2.1.cell j hjq
      have hfq:=hL.out.2.2.1.frozen j
      have hszq:w2.heap.size<w3.heap.size:=hL.out.2.2.1.lt
      simp only[Gn.u64]at hcq
      have FT:=Lib.hid hft;have FF:=Lib.hid hff
      clear hft hff hg3 hlbX hyv YV
      cases r with
      | true=>
        have DB:=ZB
        have hle':=(show val X'+Z*Y=val X/\val X'<Y from⟨FT.out rfl,digit_hit YP.out RND.out.1 (FT.out rfl)⟩)
        have hrl:=round_left (P:=P) (X:=X) (X':=X') (S:=S) (Y:=Y) (D:=Z) HX.out hX'l S0.out hle'.1 hle'.2
        have RL:=Lib.hid hrl
        clear hle' hrl
        go_wp2
        go_roundw
        case rel=>
         have hq:q.length=M+1:=hlen.out.2.2.1
         have hll:=hlen.out.1
         simp only[List.length_append]at hll
         refine⟨j,P ++ X' ++ S,q.set j (Z),by omega,by go_num,hL.out.1.far (by show w2.heap.size≠g1;omega) _,hL.out.2.1.far (by show w2.heap.size≠g2;omega) _,hL.out.2.2.1.set _ _,Lib.hid ⟨?_,?_,by simp[hq],hlen.out.2.2.2.set _ _ DB.out⟩,Lib.hid ⟨?_,?_⟩,hL.out.2.2.2.setCell (p:=⟨w2.heap.size,j,none⟩) (by show w.heap.size<=w2.heap.size;omega) _⟩
         · simp only[List.length_append,hX'l];have:=HX.out;omega
         · exact((lim_parts hlen.out.2.1).1.append hX'm).append (lim_parts hlen.out.2.1).2.2
         · rw[List.drop_eq_getElem_cons (show j<(q.set j (Z)).length by simp[hq];omega),List.getElem_set_self,List.drop_set_of_lt (by omega),val_cons]
           have h1:=hv.out.1
           rw[Nat.pow_succ]at h1
           have h2:=RL.out.1
           rw[HP.out]at h2
           exact long_alg h1 h2
         · have h2:=RL.out.2
           rwa [HP.out]at h2
        case measure=>simp[intOf]
      | false=>
        obtain⟨hz1,he1,he2⟩:=digit_miss YP.out RND.out.2 (FF.out rfl).1 (FF.out rfl).2
        obtain⟨D,hD⟩:∃D,D=Z-1:=⟨_,rfl⟩
        rw[<-hD]at he1
        have e21:(Z:Int)-1=(D:Int):=by omega
        have hDB:D<B:=by have:=ZB.out;omega
        have hZb:Z<=18446744073709551615:=by have:=ZB.out;unfold B at this;omega
        have DB:=Lib.hid hDB
        have E1:=Lib.hid (And.intro he1 he2)
        clear hD he1 he2 hDB
        have hle':=E1.out
        have hrl:=round_left (P:=P) (X:=X) (X':=X') (S:=S) (Y:=Y) (D:=D) HX.out hX'l S0.out hle'.1 hle'.2
        have RL:=Lib.hid hrl
        clear hle' hrl
        go_wp2
        go_roundw
        case rel=>
         have hq:q.length=M+1:=hlen.out.2.2.1
         have hll:=hlen.out.1
         simp only[List.length_append]at hll
         refine⟨j,P ++ X' ++ S,q.set j (D),by omega,by go_num,hL.out.1.far (by show w2.heap.size≠g1;omega) _,hL.out.2.1.far (by show w2.heap.size≠g2;omega) _,hL.out.2.2.1.set _ _,Lib.hid ⟨?_,?_,by simp[hq],hlen.out.2.2.2.set _ _ DB.out⟩,Lib.hid ⟨?_,?_⟩,hL.out.2.2.2.setCell (p:=⟨w2.heap.size,j,none⟩) (by show w.heap.size<=w2.heap.size;omega) _⟩
         · simp only[List.length_append,hX'l];have:=HX.out;omega
         · exact((lim_parts hlen.out.2.1).1.append hX'm).append (lim_parts hlen.out.2.1).2.2
         · rw[List.drop_eq_getElem_cons (show j<(q.set j (D)).length by simp[hq];omega),List.getElem_set_self,List.drop_set_of_lt (by omega),val_cons]
           have h1:=hv.out.1
           rw[Nat.pow_succ]at h1
           have h2:=RL.out.1
           rw[HP.out]at h2
           exact long_alg h1 h2
         · have h2:=RL.out.2
           rwa [HP.out]at h2
        case measure=>simp[intOf]
  · obtain rfl:k=0:=by omega
    have hv1:=hv.out.1
    have hv2:=hv.out.2
    simp only[Nat.pow_zero,Nat.one_mul,List.drop_zero]at hv1 hv2
    have nq:NatV 22 wr (some ⟨w2.heap.size,0,none⟩) (M+1) (M+1) q:=hl3.natV hlen.out.2.2.2 hlen.out.2.2.1 (Nat.le_refl _) (by simp[maxLen];omega)
    have np:NatV 22 wr (some ⟨g1,0,none⟩) (N+1) (N+1) p:=hl1.natV hlen.out.2.1 hlen.out.1 (Nat.le_refl _) (by simp[maxLen];omega)
    have htp:trimLen p<=N+1:=by have:=trimLen_le p;have:=hlen.out.1;omega
    have RC:=Lib.hid (right_c (s:=s) (hl1.lp_take (trimLen p)) (lim_trim hlen.out.2.1) (zaq p) hs63 (by omega) (Nat.le_refl _) (by simp[maxLen];omega))
    have NQ:=Lib.hid nq;have NP:=Lib.hid np;have V1:=Lib.hid hv1;have V2:=Lib.hid hv2;have BWW:=Lib.hid hbw
    clear nq np hv1 hv2 hl1 hl2 hl3 hbw htp
    go_wp2_with fail
    refine(zax NQ.out).mono ?_
    rintro e w3 ⟨rfl,rfl⟩
    go_wp2_with fail
    refine(zax NP.out).mono ?_
    rintro e w3 ⟨rfl,rfl⟩
    go_wp2_with fail
    refine RC.out.mono ?_
    rintro e w3 ⟨R,m,d,l,rfl,hR,hRn,hRv,hRg,hRb⟩
    go_wp2
    go_ret2
    have hpos:0<Y:=by
     rcases Nat.eq_zero_or_pos Y with h|h
     · have:=V2.out;rw[h]at this;omega
     · exact h
    have hYb:Y=val b*2 ^ s:=by rw[HY.out];exact BY.out.1
    have h2s:=two_pos s
    have hq:val q=val a / val b:=by
     have h1:=V1.out
     rw[<-div_shift (u:=val a) (y:=val b) h2s,<-hYb,<-h1,Nat.add_comm,Nat.mul_add_div hpos,Nat.div_eq_of_lt V2.out,Nat.add_zero]
    have hr:val p=val a % val b*2 ^ s:=by
     have h1:=V1.out
     rw[<-mod_shift,<-hYb,<-h1,Nat.add_comm,Nat.mul_add_mod,Nat.mod_eq_of_lt V2.out]
    refine⟨_,_,_,trim q,_,_,_,_,rfl,NQ.out.trim.grown hRg (fun b off _ e=>by injection e with e;injection e with e;simp;omega),norm_trim _,by rw[val_trim,hq],hR,hRn,?_,BWW.out.grown hRg BWW.out.size (fun k e=>by injection e with e;omega),NewA.mk (by omega),fun a e=>by rw[hRb a e];omega⟩
    rw[hRv,show p.take (trimLen p)=trim p from rfl,val_trim,hr,Nat.mul_div_cancel _ h2s]
theorem cmpI_ge {x y:Int} (h:¬x<y):0<=cmpI x y:=by
 unfold cmpI
 rw[if_neg h];split<;>omega
theorem Norm.ofL (x:Nat):Gn.Norm (ofL x):=by
 unfold Go.Proofs.YtbhnjkegkadodaaGreatDoor.ofL;split
 · exact Gn.Norm.nil
 · intro _;simpa
theorem val_ofL (x:Nat):val (ofL x)=x:=by
 unfold Go.Proofs.YtbhnjkegkadodaaGreatDoor.ofL;split
 · subst_vars;rfl
 · simp
def DivR (w:World) (x y:Nat) (e:Ending) (w':World):Prop:=
 ∃R m d l R' m' d' l',e=.returned (.tuple #[.slice R m d,.slice R' m' d',.int .i64 0])/\NatV 22 w' R m d l/\Gn.Norm l/\val l=x / y/\NatV 22 w' R' m' d' l'/\Gn.Norm l'/\val l'=x % y/\Below w.heap.size w w'/\NewA w R/\NewA w R'
theorem DivMod_c {A A':Option Addr} {n c n' c':Nat} {a b:List Nat} {w:World} (ha:NatV 22 w A n c a) (hb:NatV 22 w A' n' c' b) (h0:0<val b) (hn:n<=134217728):
 Calls Tryz.prog 140 #[.slice A n c,.slice A' n' c'] w (DivR w (val a) (val b)):=by
 obtain⟨N,hN⟩:∃N,N=trimLen a:=⟨_,rfl⟩
 obtain⟨M,hM⟩:∃M,M=trimLen b:=⟨_,rfl⟩
 have t1:=ha.trim;have t2:=hb.trim
 rw[<-hN]at t1;rw[<-hM]at t2
 have hNb:N<=134217728:=by have:=trimLen_le a;have:=ha.len;omega
 obtain⟨x,hx⟩:∃x,x=trim a:=⟨_,rfl⟩
 obtain⟨y,hy⟩:∃y,y=trim b:=⟨_,rfl⟩
 have hxn:Gn.Norm x:=hx▸norm_trim _
 have hyn:Gn.Norm y:=hy▸norm_trim _
 rw[<-hx]at t1;rw[<-hy]at t2
 have hxv:val x=val a:=hx▸val_trim _
 have hyv:val y=val b:=hy▸val_trim _
 have hyne:y≠[]:=fun e=>by rw[e]at hyv;simp at hyv;omega
 have hM0:0<M:=by have:=t2.len;have:=List.length_pos_iff.mpr hyne;omega
 have TA:Hid (Calls Tryz.prog 81 #[.slice A n c] w fun e w'=>e=.returned (.slice A N N)/\w=w'):=by have:=zax ha;rw[<-hN]at this;exact Lib.hid this
 have TB:Hid (Calls Tryz.prog 81 #[.slice A' n' c'] w fun e w'=>e=.returned (.slice A' M M)/\w=w'):=by have:=zax hb;rw[<-hM]at this;exact Lib.hid this
 have hMne:((M:Int) == 0)=false:=by rw[beq_eq_false_iff_ne];omega
 have C:=Lib.hid (Cmp_c t1 t2)
 rw[hxv,hyv]at C
 have HX:=Lib.hid t1;have HY:=Lib.hid t2;have Vx:=Lib.hid hxv;have Vy:=Lib.hid hyv;have Nx:=Lib.hid hxn;have Ny:=Lib.hid hyn
 clear ha hb hN hM hx hy t1 t2 hxv hyv hxn hyn hyne
 obtain⟨X,hX⟩:∃X,X=val a:=⟨_,rfl⟩
 obtain⟨Y,hY⟩:∃Y,Y=val b:=⟨_,rfl⟩
 rw[<-hX,<-hY]at C;rw[<-hX]at Vx ⊢;rw[<-hY]at Vy h0 ⊢
 clear hX hY
 go_enter Tryz.func140,Tryz.ntmps140
 go_wp2_with fail
 refine TA.out.mono ?_
 rintro e w3 ⟨rfl,rfl⟩
 go_wp2_with fail
 refine TB.out.mono ?_
 rintro e w3 ⟨rfl,rfl⟩
 by_cases hlt:X<Y
 · rw[cmpI_lt (by omega)]at C
   go_wp2_with fail
   refine C.out.mono ?_
   rintro e w3 ⟨rfl,q,rfl⟩
   go_wp2_with fail
   refine(Norm_c (HX.out.drewN q) (by omega)).mono ?_
   rintro e w4 ⟨R,d,rfl,hr,hg⟩
   go_wp2_with fail
   go_ret3
   refine⟨_,_,_,[],_,_,_,_,rfl,NatV.nil _ _,by intro h;exact absurd rfl h,by rw[Nat.div_eq_of_lt hlt];rfl,NatV.of_own hr (lim_trim HX.out.lim),norm_trim _,by rw[val_trim,Vx.out,Nat.mod_eq_of_lt hlt],(below_drewN (Below.refl _ _) q).trans hg,NewA.nil _,own_new hr⟩
 · have hcc:=cmpI_ge (x:=(X:Int)) (y:=(Y:Int)) (by omega)
   obtain⟨K,hK⟩:∃K,K=cmpI (X:Int) (Y:Int):=⟨_,rfl⟩
   rw[<-hK]at C hcc
   have hcl:decide (K<0)=false:=by rw[decide_eq_false_iff_not];omega
   clear hK
   go_wp2_with fail
   refine C.out.mono ?_
   rintro e w3 ⟨rfl,q,rfl⟩
   by_cases h1:M=1
   · subst h1
     obtain⟨bb,bo,rfl,_⟩:=HY.out.row (by omega)
     have hly:=HY.out.len
     obtain⟨v,hv⟩:∃v,v=y[0]'(by omega):=⟨_,rfl⟩
     have hcell:=HY.out.cell rfl 0 (by omega)
     rw[<-hv,Nat.add_zero]at hcell
     have hyv:y=[v]:=by
      match y,hly,hv with
      | [z],_,h=>rw[h];rfl
     have hvY:v=Y:=by have:=Vy.out;rw[hyv]at this;simpa using this
     have hvB:v<B:=hv▸HY.out.lim.get _ (by omega)
     rw[hvY]at hvB hcell
     clear hv hyv hvY
     simp only[Gn.u64]at hcell
     have SH:=Lib.hid (short_c (HX.out.drewN q) h0 hvB (by omega))
     rw[Vx.out]at SH
     have hcell':(w.drewN q).cell? ⟨bb,bo,none⟩=some (.int .u64 (Y:Int)):=hcell
     clear hcell
     go_wp2_with fail
     refine SH.out.mono ?_
     rintro e w4 ⟨R,m,d,l,rfl,hl,hln,hlv,hg,hgR⟩
     have hmod:X % Y<B:=Nat.lt_trans (Nat.mod_lt _ h0) hvB
     obtain⟨Z,hZ⟩:∃Z,Z=X % Y:=⟨_,rfl⟩
     rw[<-hZ]at hmod ⊢
     have HZ:=Lib.hid hZ;clear hZ
     go_wp2_with fail
     refine(Of_c (Z:Int) (by omega) (by unfold B at hmod;omega) w4).mono ?_
     rintro e w5 ⟨R',m',d',rfl,hr,hg2,hgR2⟩
     go_wp2_with fail
     go_ret3
     rw[Int.toNat_natCast]at hr
     exact⟨_,_,_,_,_,_,_,_,rfl,hl.below hg2,hln,hlv,hr,Norm.ofL _,by rw[val_ofL,HZ.out],((below_drewN (Below.refl _ _) q).trans hg).trans (hg2.mono hg.size),hgR,hgR2.mono hg.size⟩
   · have hM1:((M:Int) == 1)=false:=by rw[beq_eq_false_iff_ne];omega
     have hMN:M<=N:=by
      rw[<-HX.out.len,<-HY.out.len]
      refine Ny.out.len_le ?_
      have h1:val x<B ^ x.length:=val_lt HX.out.lim
      have h2:=Vx.out;have h3:=Vy.out
      omega
     have LG:=Lib.hid (long_c (HX.out.drewN q) (HY.out.drewN q) Ny.out (by omega) hMN hNb)
     rw[Vx.out,Vy.out]at LG
     go_wp2_with fail
     refine LG.out.mono ?_
     rintro e w4 ⟨R,m,d,l,R',m',d',l',rfl,h2,h3,h4,h5,h6,h7,h8,h9,h10⟩
     go_wp2_with fail
     go_ret3
     exact⟨_,_,_,_,_,_,_,_,rfl,h2,h3,h4,h5,h6,h7,(below_drewN (Below.refl _ _) q).trans h8,h9,h10⟩
theorem MulDiv_c {A A' A'':Option Addr} {n c n' c' n'' c'':Nat} {a b k:List Nat} {w:World} (ha:NatV 22 w A n c a) (hb:NatV 22 w A' n' c' b) (hk:NatV 22 w A'' n'' c'' k) (h0:0<val k) (hn:n+n'<=134217728):
 Calls Tryz.prog 144 #[.slice A n c,.slice A' n' c',.slice A'' n'' c''] w (DivR w (val a*val b) (val k)):=by
 have M:=Lib.hid (Mul_c ha hb (by omega) (by omega))
 have Hk:=Lib.hid hk
 have la:=Lib.hid ha.len;have lb:=Lib.hid hb.len;have LA:=Lib.hid ha.lim;have LB:=Lib.hid hb.lim
 clear ha hb hk
 obtain⟨X,hX⟩:∃X,X=val a*val b:=⟨_,rfl⟩
 rw[<-hX]at M ⊢
 have HX:=Lib.hid hX;clear hX
 obtain⟨Y,hY⟩:∃Y,Y=val k:=⟨_,rfl⟩
 rw[<-hY]at h0 ⊢
 have HY:=Lib.hid hY;clear hY
 go_enter Tryz.func144,Tryz.ntmps144
 go_wp2_with fail
 refine M.out.mono ?_
 rintro e w3 ⟨R,m,d,l,rfl,hl,hln,hlv,hg,hgR⟩
 have hm:m<=134217728:=by
  have h1:l.length<=a.length+b.length:=by
   refine hln.len_le ?_
   rw[hlv,HX.out,Nat.pow_add]
   rcases Nat.eq_zero_or_pos (val b) with h|h
   · rw[h,Nat.mul_zero];exact Nat.mul_pos (Nat.pow_pos B_pos) (Nat.pow_pos B_pos)
   · exact zqL (Nat.mul_lt_mul_of_pos_right (val_lt LA.out) h) (Nat.mul_le_mul_left _ (Nat.le_of_lt (val_lt LB.out)))
  have h2:=hl.len;have h3:=la.out;have h4:=lb.out
  omega
 have D:=Lib.hid (DivMod_c hl (Hk.out.below hg) (HY.out▸h0) hm)
 rw[hlv,<-HY.out]at D
 have HG:=Lib.hid hg
 clear hl hln hlv hg
 go_wp2_with fail
 refine D.out.mono ?_
 rintro e w4 ⟨R1,m1,d1,l1,R2,m2,d2,l2,rfl,h1,h2,h3,h4,h5,h6,h7,h8,h9⟩
 go_wp2_with fail
 go_ret3
 exact⟨_,_,_,_,_,_,_,_,rfl,h1,h2,h3,h4,h5,h6,HG.out.trans (h7.mono HG.out.size),h8.mono HG.out.size,h9.mono HG.out.size⟩
theorem Small_c {A:Option Addr} {n c:Nat} {a:List Nat} {w:World} (ha:NatV 22 w A n c a):
 Calls Tryz.prog 151 #[.slice A n c] w fun e w'=>e=.returned (.tuple #[.int .u64 ((if val a<B then val a else 0:Nat):Int),.bool (decide (val a<B))])/\w=w':=by
 obtain⟨N,hN⟩:∃N,N=trimLen a:=⟨_,rfl⟩
 have t1:=ha.trim
 rw[<-hN]at t1
 obtain⟨x,hx⟩:∃x,x=trim a:=⟨_,rfl⟩
 have hxn:Gn.Norm x:=hx▸norm_trim _
 rw[<-hx]at t1
 have hxv:val x=val a:=hx▸val_trim _
 have TA:Hid (Calls Tryz.prog 81 #[.slice A n c] w fun e w'=>e=.returned (.slice A N N)/\w=w'):=by have:=zax ha;rw[<-hN]at this;exact Lib.hid this
 rw[<-hxv]
 clear ha hN hx hxv
 have lx:=t1.len
 have lim:=t1.lim
 match x,lx,hxn with
 | [],lx,_=>
   simp at lx;subst lx
   clear t1 lim
   go_enter Tryz.func151,Tryz.ntmps151
   go_wp2_with fail
   refine TA.out.mono ?_
   rintro e w3 ⟨rfl,rfl⟩
   go_wp2_with fail
   go_ret2
   exact⟨rfl,rfl⟩
 | [y],lx,_=>
   simp at lx;subst lx
   obtain⟨bb,bo,rfl,_⟩:=t1.row (by omega)
   have hcell:=t1.cell rfl 0 (by simp)
   have hyB:y<B:=lim y (by simp)
   rw[Nat.add_zero]at hcell
   simp only[Gn.u64,List.getElem_cons_zero]at hcell
   have hv:val [y]=y:=by simp
   rw[hv,if_pos hyB,decide_eq_true hyB]
   clear t1 lim hv
   go_enter Tryz.func151,Tryz.ntmps151
   go_wp2_with fail
   refine TA.out.mono ?_
   rintro e w3 ⟨rfl,rfl⟩
   go_wp2_with fail
   go_ret2
   exact⟨rfl,rfl⟩
 | y :: z :: r,lx,hxn=>
   have hbig:¬val (y :: z :: r)<B:=by
     have:=hxn.le_val (by simp)
     have h2:B ^ 1<=B ^ ((y :: z :: r).length-1):=Nat.pow_le_pow_right B_pos (by simp)
     rw[Nat.pow_one]at h2;omega
   simp only[List.length_cons]at lx
   have h1:((N:Int) == 0)=false:=by rw[beq_eq_false_iff_ne];omega
   have h2:((N:Int) == 1)=false:=by rw[beq_eq_false_iff_ne];omega
   clear t1 lim
   rw[if_neg hbig,decide_eq_false hbig]
   go_enter Tryz.func151,Tryz.ntmps151
   go_wp2_with fail
   refine TA.out.mono ?_
   rintro e w3 ⟨rfl,rfl⟩
   go_wp2_with fail
   go_ret2
   exact⟨rfl,rfl⟩
def bitsN (v:Nat):Nat:=if v=0 then 0 else Nat.log2 v+1
theorem bitsN_of {v k:Nat} (h1:1<=k) (h2:2 ^ (k-1)<=v) (h3:v<2 ^ k):bitsN v=k:=by
 have h0:v≠0:=by have:=two_pos (k-1);omega
 unfold bitsN
 rw[if_neg h0]
 have a:=(Nat.le_log2 h0).2 h2
 have b:=(Nat.log2_lt h0).2 h3
 omega
theorem bits_top {l:List Nat} {y:Nat} (hl:Lim l) (hy:0<y) (hyB:y<B):bitsN (val (l ++ [y]))=64*l.length+Go.Lib.bitLen y:=by
 obtain⟨a,b,c,d⟩:=zbd hy hyB
 have hv:val (l ++ [y])=val l+B ^ l.length*y:=by rw[val_append];simp
 have hp:B ^ l.length=2 ^ (64*l.length):=by rw[Nat.pow_mul];rfl
 have hl2:=val_lt hl
 rw[hp]at hv hl2
 refine bitsN_of (by omega) ?_ ?_
 · rw[hv,show 64*l.length+Go.Lib.bitLen y-1=64*l.length+(Go.Lib.bitLen y-1) by omega,Nat.pow_add]
   exact Nat.le_trans (Nat.mul_le_mul_left _ a) (Nat.le_add_left _ _)
 · rw[hv,Nat.pow_add]
   have:2 ^ (64*l.length)*(y+1)<=2 ^ (64*l.length)*2 ^ Go.Lib.bitLen y:=Nat.mul_le_mul_left _ b
   rw[Nat.mul_add,Nat.mul_one]at this
   omega
theorem Bits_c {A:Option Addr} {n c:Nat} {a:List Nat} {w:World} (ha:NatV 22 w A n c a) (hn:n<=1073741824):
 Calls Tryz.prog 76 #[.slice A n c] w fun e w'=>e=.returned (.int .i64 ((bitsN (val a):Nat):Int))/\w=w':=by
 obtain⟨N,hN⟩:∃N,N=trimLen a:=⟨_,rfl⟩
 have t1:=ha.trim
 rw[<-hN]at t1
 have hNb:N<=1073741824:=by have:=trimLen_le a;have:=ha.len;omega
 obtain⟨x,hx⟩:∃x,x=trim a:=⟨_,rfl⟩
 have hxn:Gn.Norm x:=hx▸norm_trim _
 rw[<-hx]at t1
 have hxv:val x=val a:=hx▸val_trim _
 have TA:Hid (Calls Tryz.prog 81 #[.slice A n c] w fun e w'=>e=.returned (.slice A N N)/\w=w'):=by have:=zax ha;rw[<-hN]at this;exact Lib.hid this
 rw[<-hxv]
 clear ha hN hx hxv
 have lx:=t1.len
 rcases Decidable.em (x=[]) with hx|hx
 · subst hx
   simp at lx;subst lx
   clear t1
   go_enter Tryz.func76,Tryz.ntmps76
   go_wp2_with fail
   refine TA.out.mono ?_
   rintro e w3 ⟨rfl,rfl⟩
   go_wp2_with fail
   go_ret
   exact⟨rfl,rfl⟩
 · obtain⟨l,y,rfl⟩:∃l y,x=l ++ [y]:=⟨_,_,(List.dropLast_concat_getLast hx).symm⟩
   have hy0:0<y:=by have:=hxn hx;simp at this;omega
   have hyB:y<B:=t1.lim y (by simp)
   obtain⟨bb,bo,rfl,_⟩:=t1.row (by simp at lx;omega)
   simp at lx
   have hcell:=t1.cell rfl l.length (by simp)
   have hlen:l.length=N-1:=by omega
   simp only[Gn.u64,List.getElem_concat_length]at hcell
   rw[bits_top (fun z hz=>t1.lim z (by simp[hz])) hy0 hyB]
   obtain⟨_,_,hb1,hb2⟩:=zbd hy0 hyB
   have L:=Lib.hid (Tryz.bits_Len64 (y:Int) w (by omega) (by unfold B at hyB;omega))
   rw[Int.toNat_natCast]at L
   obtain⟨k,hk⟩:∃k,k=Go.Lib.bitLen y:=⟨_,rfl⟩
   rw[<-hk]at L hb1 hb2 ⊢
   obtain⟨M,hM⟩:∃M,M=l.length:=⟨_,rfl⟩
   rw[<-hM]at hcell lx ⊢
   have e1:(N:Int)-1=(M:Int):=by omega
   have e0:((N:Int) == 0)=false:=by rw[beq_eq_false_iff_ne];omega
   have e3:64*(M:Int)+(k:Int)=((64*M+k:Nat):Int):=by omega
   have hMN:M<N:=by omega
   have HE:=Lib.hid e3
   have w1:IntKind.i64.wrap (64*(M:Int))=64*(M:Int):=by simp only[IntKind.wrap_i64];omega
   have w2:IntKind.i64.wrap (64*(M:Int)+(k:Int))=64*(M:Int)+(k:Int):=by simp only[IntKind.wrap_i64];omega
   clear hk hM t1 hxn hlen lx e3
   go_enter Tryz.func76,Tryz.ntmps76
   go_wp2_with fail
   refine TA.out.mono ?_
   rintro e w3 ⟨rfl,rfl⟩
   go_wp2_with fail
   refine L.out.mono ?_
   rintro e w3 ⟨rfl,rfl⟩
   go_wp2_with fail
   go_ret
   exact⟨congrArg (fun z:Int=>Ending.returned (.int .i64 z)) HE.out,rfl⟩
def unitL:List Nat:=[12919594847110692864,54210108624275221]
theorem val_unit:val unitL=10 ^ 36:=by decide
theorem unit_c (w:World):
 Calls Tryz.prog 113 #[] w fun e w'=>e=.returned (.slice (some ⟨w.heap.size,0,none⟩) 2 2)/\w'=w.alloc (.cells (unitL.map Gn.u64).toArray 22):=by
 go_enter Tryz.func113,Tryz.ntmps113
 go_wp2
 go_ret
 exact⟨rfl,rfl⟩
theorem DZero_c {A:Option Addr} {n c:Nat} {a:List Nat} {w:World} (ha:NatV 22 w A n c a) (hn:n<=1073741824):
 Calls Tryz.prog 26 #[.agg #[.slice A n c]] w fun e w'=>e=.returned (.bool (decide (val a=0)))/\Below w.heap.size w w':=by
 have HA:=Lib.hid ha
 clear ha
 go_enter Tryz.func26,Tryz.ntmps26
 go_wp2_with fail
 refine(Bits_c (HA.out.below ((Below.refl _ _).alloc (Nat.le_refl _) _)) hn).mono ?_
 rintro e w3 ⟨rfl,rfl⟩
 go_wp2_with fail
 go_ret
 refine⟨?_,(Below.refl _ _).alloc (Nat.le_refl _) _⟩
 congr 2
 rw[bitsN];split<;>simp_all
 omega
end Go.Proofs.YtbhnjkegkadodaaGreatDoor

/- Part of the proof. -/
import Derived.Test.YtbhnjkegkadodaaGreatDoorG06
import Derived.Deep.RegionHeld3
import Derived.Deep.DeepCutAuto
set_option linter.all false
set_option maxRecDepth 100000
set_option maxHeartbeats 8000000
namespace Gz
open Go Go.RowKit Go.Proofs Gn
theorem lim_parts {P X S:List Nat} (h:Lim (P ++ X ++ S)):Lim P/\Lim X/\Lim S:=
 ⟨fun x hx=>h x (by simp[hx]),fun x hx=>h x (by simp[hx]),fun x hx=>h x (by simp[hx])⟩
theorem long_c {A A':Option Addr} {N c n c':Nat} {a b:List Nat} {w:World} (ha:NatV 22 w A N c a) (hb:NatV 22 w A' n c' b) (hnb:Gn.Norm b) (hn:2<=n) (hNn:n<=N) (hN:N<=134217728):
 Calls Tryz.prog 206 #[.slice A N c,.slice A' n c'] w fun e w'=>∃R m d l R' m' d' l',e=.returned (.tuple #[.slice R m d,.slice R' m' d'])/\NatV 22 w' R m d l/\Gn.Norm l/\val l=val a / val b/\NatV 22 w' R' m' d' l'/\Gn.Norm l'/\val l'=val a % val b/\Below w.heap.size w w'/\NewA w R/\NewA w R':=by
 obtain⟨i0,q7,q8,l7,q9⟩:=info_parts info22;obtain⟨M,hM⟩:=zE (N-n);have w7:(N:Int)-(n:Int)=(M:Int):=by omega
 have o4:∀W:World,(Instr.makeSlice 24 (.int .i64 ((M:Int)+1)) (.int .i64 ((M:Int)+1))).run Tryz.prog W=.ok (.slice (some ⟨W.heap.size,0,none⟩) (M+1) (M+1)) (W.alloc (.cells ((List.replicate (M+1) 0).map Gn.u64).toArray 22)):=fun W=>
  run_make_limbs (P:=Tryz.prog) 24 22 i0 Tryz.underlying24 q7 q8 l7 q9 (M+1) (by omega) W
 have b6:=hb.len;have h6:b≠[]:=fun e=>by rw[e]at b6;simp at b6;omega
 obtain⟨x,hx⟩:=zE (b[n-1]'(by omega));have o5:x=b.getLast h6:=by rw[hx,List.getLast_eq_getElem];congr 1;omega
 have j6:0<x:=by have:=hnb h6;omega
 have h7:x<B:=hx▸hb.lim.get _ (by omega);obtain⟨bb,bo,rfl,_⟩:=hb.row (by omega);have h8:=hb.cell rfl (n-1) (by omega);rw[<-hx]at h8;simp only[Gn.u64]at h8;obtain⟨s,hs⟩:=zE (64-Lib.bitLen x);have o6:=zbg j6 h7;have b7:s<=63:=by omega
 obtain⟨a4,a5⟩:=lead_bounds j6 h7;rw[<-hs]at a4 a5;have j7:(64:Int)-(Lib.bitLen x:Int)=(s:Int):=by omega
 have hi:((n:Int)-1).toNat=n-1:=by omega
 have C:=Lib.hid (show ∀W,Calls Tryz.prog 245 #[.int .u64 (x:Int)] W fun e w'=>e=.returned (.int .i64 (s:Int))/\W=w' from fun W=>(Tryz.bits_LeadingZeros64 x W (by omega) (by unfold B at h7;omega)).mono fun e w' h=>⟨by rw[h.1,Int.toNat_natCast,j7],h.2.symm⟩);have Ha:=Lib.hid ha;have Hb:=Lib.hid hb;have L1:=Lib.hid a4;have L2:=Lib.hid a5;have o8:=Lib.hid (show ∃h:n-1<b.length,b[n-1]=x from⟨by omega,hx.symm⟩);have j8:=Lib.hid b6;clear o5 hx h6 hnb b6 ha hb a4 a5 hs o6 j7 hM;go_enter Tryz.func206,Tryz.ntmps206
 go_wp2_with (go_at_call 245;refine(C.out _).mono ?_;rintro e w' ⟨rfl,rfl⟩)
 refine(left_c Ha.out b7 (by omega)).mono ?_
 rintro e w1 ⟨g1,o1,rfl,m5,d0,a4,m6,e0,d5⟩;have j9:=Lib.hid (Hb.out.below d5)
 go_wp2_with fail
 refine(left_c j9.out b7 (by omega)).mono ?_
 rintro e w2 ⟨g2,o2,rfl,m7,h3,a5,m8,e1,f3⟩;have e3:=d0.below f3 d0.lt;have HL:=Lib.hid e3;have k0:=Lib.hid h3;have F1:=Lib.hid (zN a4 (zN m6 e0));have F2:=Lib.hid (zN a5 (zN m8 e1));have G1:=Lib.hid m5;have G2:=Lib.hid m7;have GL:=Lib.hid d0.lt;have BW:=Lib.hid (d5.trans (f3.mono d5.size));clear d0 e3 h3 a4 m6 e0 a5 m8 e1 m5 m7 d5 f3 j9 h8;have x5:n<=n+1:=by omega
 go_wp2
 clear o4 C;have h9:M+n=N:=by omega
 have o9:=Lib.hid h9;have BY:=Lib.hid (by_facts j8.out (by omega) Hb.out.lim o8.out.2 F2.out.1 F2.out.2.2 L1.out (by omega) F2.out.2.1);obtain⟨Y,hY⟩:=zE (val (o2.take n));have b5:=F2.out.1;have a9:(o2.take n).length=n:=List.length_take_of_le (by omega);have e4:B<=2*(o2.take n)[n-1]'(by omega):=by
  rw[List.getElem_take];have h1:=BY.out.2;have h2:=L2.out;omega
 have HY:=Lib.hid hY;have k2:=Lib.hid (show ∃h:n-1<(o2.take n).length,B<=2*(o2.take n)[n-1] from⟨by omega,e4⟩);have ST:=Lib.hid (show val (o1.drop (M+1))<Y by rw[hY];exact start_lt Ha.out.len Ha.out.lim F1.out.1 F1.out.2.1 F1.out.2.2 a9 (by omega) h9 e4 b7);clear hY e4 a9 b5 h9;have t7:M+n<=N:=by have:=o9.out;omega
 have t8:g1<g2:=by have h1:=GL.out;have h2:=G2.out;omega
 have t9:g2<w2.heap.size:=k0.out.lt;have u0:w.heap.size<=g1:=G1.out
 go_loopw [11] (fun i wr=>∃(k:Nat) (p q:List Nat),k<=M+1/\i=.int .i64 ((k:Int)-1)/\LB 22 wr g1 p/\LB 22 wr g2 o2/\LB 22 wr w2.heap.size q/\Hid (p.length=N+1/\Lim p/\q.length=M+1/\Lim q) /\
  Hid (val p+Y*(B ^ k*val (q.drop k))=val a*2 ^ s/\val (p.drop k)<Y)/\Below w.heap.size w wr) (fun i _=>(intOf i+1).toNat)
 case atStart=>
  have k3:=BW.out;refine⟨M+1,o1,List.replicate (M+1) 0,zR _,by go_num,HL.out.alloc _,k0.out.alloc _,LB.zeros _ _ _,Lib.hid ⟨F1.out.1,F1.out.2.1,by simp,Lim.zeros _⟩,Lib.hid ⟨?_,ST.out⟩,k3.alloc k3.size _⟩;rw[List.drop_eq_nil_of_le (by simp),val_nil,Nat.mul_zero,Nat.mul_zero,Nat.add_zero];exact F1.out.2.2
 case round=>
  obtain⟨k,p,q,hk,rfl,a4,a5,a7,a3,hv,f8⟩:=hrel;by_cases h0:0<k
  · obtain⟨j,rfl⟩:∃j,k=j+1:=⟨k-1,by omega⟩
    rw[show(((j+1:Nat):Int)-1)=(j:Int) by omega];obtain⟨P,X,S,hp,hP,hX⟩:∃P X S,p=P ++ X ++ S/\P.length=j/\X.length=n+1:=by
     refine⟨p.take j,(p.drop j).take (n+1),(p.drop j).drop (n+1),?_,?_,?_⟩
     · rw[List.append_assoc,List.take_append_drop,List.take_append_drop]
     · rw[List.length_take_of_le (by have:=a3.out.1;omega)]
     · rw[List.length_take_of_le (by rw[List.length_drop];have:=a3.out.1;omega)]
    subst hp;have d7:=(lim_parts a3.out.2.1).2.1;obtain⟨t2,f9⟩:∃t,t=X[n]'(by omega):=⟨_,rfl⟩
    obtain⟨t1,g0⟩:∃t,t=X[n-1]'(by omega):=⟨_,rfl⟩
    obtain⟨t0,g3⟩:∃t,t=X[n-2]'(by omega):=⟨_,rfl⟩
    have f5:=win_cell a4 n (by omega);have f6:=win_cell a4 (n-1) (by omega);have f7:=win_cell a4 (n-2) (by omega);rw[hP,<-f9]at f5;rw[hP,<-g0,show j+(n-1)=j+n-1 by omega]at f6;rw[hP,<-g3,show j+(n-2)=j+n-2 by omega]at f7;have b5:=F2.out.1;obtain⟨y1,b0⟩:∃t,t=o2[n-1]'(by omega):=⟨_,rfl⟩
    obtain⟨y0,f0⟩:∃t,t=o2[n-2]'(by omega):=⟨_,rfl⟩
    have d8:=a5.cell (n-1) (by omega);have d9:=a5.cell (n-2) (by omega);rw[<-b0]at d8;rw[<-f0]at d9;simp only[Gn.u64]at f5 f6 f7 d8 d9;have x6:((j:Int)+(n:Int)).toNat=j+n:=(by omega);have p0:((j:Int)+(n:Int)-1).toNat=j+n-1:=(by omega);have p1:((j:Int)+(n:Int)-2).toNat=j+n-2:=(by omega);have u1:((n:Int)-1).toNat=n-1:=(by omega);have u2:((n:Int)-2).toNat=n-2:=(by omega);have a9:(o2.take n).length=n:=List.length_take_of_le (by omega);have hY:=HY.out;have k4:Y<B ^ n:=(by have:=val_lt (F2.out.2.1.take n);rw[a9,<-hY]at this;exact this);have e6:=k2.out.2;rw[List.getElem_take,<-b0]at e6;have k5:0<y1:=(by have:=B_pos;omega);have x7:j+n<=N:=(by omega);have hS:=hv.out.2;rw[<-hP]at hS;obtain⟨m3,g5⟩:=round_R hX k4 d7 hS;have k6:0<Y:=by
     rcases Nat.eq_zero_or_pos Y with h|h
     · rw[h]at g5;omega
     · exact h
    have g9:t2<=y1:=by
     have h1:=top_le hX a9 (by omega) (F2.out.2.1.take n) (by rw[<-hY];exact g5);rw[List.getElem_take,<-b0,<-f9]at h1;exact h1
    have YC:=Lib.hid (show(∃h:n-1<o2.length,o2[n-1]=y1)/\(∃h:n-2<o2.length,o2[n-2]=y0) from⟨⟨by omega,b0.symm⟩,⟨by omega,f0.symm⟩⟩);obtain⟨Z,hZ⟩:=zE (min (B-1) (((t2*B+t1)*B+t0) / (y1*B+y0)));have e7:=long_round (Z:=Z) hX a9 hn d7 (F2.out.2.1.take n) (by rw[<-hY];exact g5) (by rw[List.getElem_take,<-b0];exact e6)
     (by simp only[List.getElem_take];rw[<-f9,<-g0,<-g3,<-b0,<-f0];exact hZ)
    rw[<-hY]at e7;have k7:Z<B:=Nat.lt_of_le_of_lt (hZ▸Nat.min_le_left _ _) (Nat.sub_lt B_pos (by decide));have CG:=Lib.hid (guess_c t2 t1 t0 y1 y0 Z g9 (g0▸d7.get _ _) (g3▸d7.get _ _) (b0▸F2.out.2.1.get _ _) (f0▸F2.out.2.1.get _ _) k5 hZ);have i1:=Lib.hid e7;have S0:=Lib.hid m3;have YP:=Lib.hid k6;have ZB:=Lib.hid k7;have HP:=Lib.hid hP;have HX:=Lib.hid hX;have XM:=Lib.hid d7;have YY:=Lib.hid hY;have YL:=Lib.hid a9;clear e7 m3 k6 k7 hP hX d7 hY a9 hZ g9 g5 hS k4 e6 f9 g0 g3 b0 f0 b5;have c5:g1<wr.heap.size:=a4.lt;have l0:g2<wr.heap.size:=a5.lt;have a2:∀o,(wr.alloc o).cell? ⟨g1,j+n,none⟩=some (.int .u64 (t2:Int)):=fun o=>(World.cell?_alloc_lt _ _ _ c5).trans f5;have a1:∀o,(wr.alloc o).cell? ⟨g1,j+n-1,none⟩=some (.int .u64 (t1:Int)):=fun o=>(World.cell?_alloc_lt _ _ _ c5).trans f6;have a0:∀o,(wr.alloc o).cell? ⟨g1,j+n-2,none⟩=some (.int .u64 (t0:Int)):=fun o=>(World.cell?_alloc_lt _ _ _ c5).trans f7;have q0:IntKind.i64.wrap ((j:Int)+(n:Int))=(j:Int)+(n:Int):=IntWalk.i64_in _ (by omega);have q1:IntKind.i64.wrap ((j:Int)+(n:Int)-1)=(j:Int)+(n:Int)-1:=IntWalk.i64_in _ (by omega);have q2:IntKind.i64.wrap ((j:Int)+(n:Int)-2)=(j:Int)+(n:Int)-2:=IntWalk.i64_in _ (by omega);have q3:IntKind.i64.wrap ((n:Int)-1)=(n:Int)-1:=IntWalk.i64_in _ (by omega);have q4:IntKind.i64.wrap ((n:Int)-2)=(n:Int)-2:=IntWalk.i64_in _ (by omega);have r0:(0:Int)<=(j:Int)+(n:Int)/\(j:Int)+(n:Int)<(N:Int)+1:=(by omega);have r1:(0:Int)<=(j:Int)+(n:Int)-1/\(j:Int)+(n:Int)-1<(N:Int)+1:=(by omega);have r2:(0:Int)<=(j:Int)+(n:Int)-2/\(j:Int)+(n:Int)-2<(N:Int)+1:=(by omega);have r3:(0:Int)<=(n:Int)-1/\(n:Int)-1<(n:Int):=(by omega);have r4:(0:Int)<=(n:Int)-2/\(n:Int)-2<(n:Int):=(by omega);have GG:=Lib.hid (show LB 22 wr g1 (P ++ X ++ S)/\LB 22 wr g2 o2/\LB 22 wr w2.heap.size q/\Below w.heap.size w wr from⟨a4,a5,a7,f8⟩);clear a4 a5 a7 f8
    go_upto_region 9 with fail
    go_cut [12] (fun s12 wx=>∃g4:Nat,s12=.pointer (some ⟨g4,0,none⟩)/\Hid (wx.heap[g4]?=some (.cells #[.int .u64 (t2:Int),.int .u64 (t1:Int),.int .u64 (t0:Int)] 336 (0,0))) /\
     Hid (LB 22 wx g1 (P ++ X ++ S)/\LB 22 wx g2 o2/\LB 22 wx w2.heap.size q/\Below w.heap.size w wx))
    case first=>
     go_region
     all_goals
      go_wp2_with fail
      go_meet
      have a4:=GG.out.1;have a5:=GG.out.2.1;have a7:=GG.out.2.2.1;exact⟨wr.heap.size,rfl,Lib.hid (heap_alloc_new wr _),Lib.hid ⟨(a4.alloc _).drew,(a5.alloc _).drew,(a7.alloc _).drew,below_drewN (GG.out.2.2.2.alloc GG.out.2.2.2.size _) 1⟩⟩
    case rest=>
     obtain⟨g4,rfl,i5,hG⟩:=hcut;clear q0 q1 q2 r0 r1 r2 a0 a1 a2 f7 f6 f5 p0 p1 d8 d9 c5 l0 GG;have d8:=hG.out.2.1.cell (n-1) (by have:=F2.out.1;omega);have d9:=hG.out.2.1.cell (n-2) (by have:=F2.out.1;omega);rw[YC.out.1.2]at d8;rw[YC.out.2.2]at d9;simp only[Gn.u64]at d8 d9;have z1:wc.cell? ⟨g4,0,none⟩=some (.int .u64 (t2:Int)):=(by rw[cell_of_row wc g4 0 _ _ _ i5.out];rfl);have z2:wc.cell? ⟨g4,1,none⟩=some (.int .u64 (t1:Int)):=(by rw[cell_of_row wc g4 1 _ _ _ i5.out];rfl);have z3:wc.cell? ⟨g4,2,none⟩=some (.int .u64 (t0:Int)):=by rw[cell_of_row wc g4 2 _ _ _ i5.out];rfl
     go_wp2_with fail
     go_cut [13] (fun s13 wx=>s13=.int .u64 (Z:Int)/\Hid (LB 22 wx g1 (P ++ X ++ S)/\LB 22 wx g2 o2/\LB 22 wx w2.heap.size q/\Below w.heap.size w wx))
     case first=>
      have v1:(1:Int)<=(n:Int):=(by omega);have v2:(2:Int)<=(n:Int):=(by omega);have v3:1<=n:=(by omega);have v4:0<n:=(by omega);have v5:(n:Int)-2<(n:Int):=(by omega);have v6:(n:Int)-1<(n:Int):=by omega
      go_still_tail 12,(by kernel_rfl)
      change wpList _ _ _ _ _ wc.drew
      generalize hwd:wc.drew=wd;have p6:=Lib.hid hwd;clear hwd
      go_wp2_with (go_at_call 247;refine(CG.out _).mono ?_;rintro e w3 ⟨rfl,g7⟩)
      go_meet
      have a4:=hG.out.1;have a5:=hG.out.2.1;have a7:=hG.out.2.2.1;obtain rfl:wc.drew=wd:=p6.out;exact⟨rfl,Lib.hid ⟨(a4.drew).below g7 a4.lt,(a5.drew).below g7 a5.lt,(a7.drew).below g7 a7.lt,(below_drewN hG.out.2.2.2 1).trans (g7.mono (below_drewN hG.out.2.2.2 1).size)⟩⟩
     case rest=>
      rename_i wc1
      obtain⟨rfl,e2⟩:=hcut;have r5:(j:Int)+(n:Int)+1<=(N:Int)+1:=(by omega);have r6:(0:Int)<=(j:Int):=(by omega);have r7:(j:Int)<=(j:Int)+(n:Int)+1:=(by omega);have r8:((j:Int)+(n:Int)+1).toNat=j+n+1:=(by omega);have r9:j+n+1-j=n+1:=by omega
      go_wp2_with fail
      have l1:NatV 22 wc (some ⟨g2,0,none⟩) n n (o2.take n):=(e2.out.2.1.natV F2.out.2.1 F2.out.1 (zR _) (by simp[maxLen];omega)).take (by omega) (zR _) (by simp[maxLen];omega);have YV:val (o2.take n)=Y:=YY.out.symm;refine(take_c (c:=n+1) e2.out.1 HP.out HX.out XM.out l1 (by omega) (by omega) (fun b off e=>by injection e with e;injection e with e;omega) ZB.out (by rw[YV];exact digit_le i1.out.2)).mono ?_
      rintro e w3 ⟨r,X',rfl,h4,d6,h5,i9,j0,g8⟩;rw[YV]at i9 j0;have hL:=Lib.hid (show LB 22 w3 g1 (P ++ X' ++ S)/\LB 22 w3 g2 o2/\LB 22 w3 w2.heap.size q/\Below w.heap.size w w3 from
       ⟨h4,e2.out.2.1.only g8 (by simp;omega),e2.out.2.2.1.only g8 (by simp;omega),e2.out.2.2.2.grown g8 e2.out.2.2.2.size (fun k e=>by injection e with e;omega)⟩)
      have p8:j<q.length:=(by rw[a3.out.2.2.1];omega);have p9:=hL.out.2.2.1.cell j p8;have z4:=hL.out.2.2.1.frozen j;have u6:w2.heap.size<w3.heap.size:=hL.out.2.2.1.lt;simp only[Gn.u64]at p9;have FT:=Lib.hid i9;have FF:=Lib.hid j0;clear i9 j0 g8 h4 l1 YV;cases r with
      | true=>
        have DB:=ZB;have a6:=(show val X'+Z*Y=val X/\val X'<Y from⟨FT.out rfl,digit_hit YP.out i1.out.1 (FT.out rfl)⟩)
        have e9:=round_left (P:=P) (X:=X) (X':=X') (S:=S) (Y:=Y) (D:=Z) HX.out d6 S0.out a6.1 a6.2;have RL:=Lib.hid e9;clear a6 e9;go_wp2
        go_roundw
        case rel=>
         have hq:q.length=M+1:=a3.out.2.2.1;have i4:=a3.out.1;simp only[List.length_append]at i4;refine⟨j,P ++ X' ++ S,q.set j (Z),by omega,by go_num,hL.out.1.far (by show w2.heap.size≠g1;omega) _,hL.out.2.1.far (by show w2.heap.size≠g2;omega) _,hL.out.2.2.1.set _ _,Lib.hid ⟨?_,?_,by simp[hq],a3.out.2.2.2.set _ _ DB.out⟩,Lib.hid ⟨?_,?_⟩,hL.out.2.2.2.setCell (p:=⟨w2.heap.size,j,none⟩) (by show w.heap.size<=w2.heap.size;omega) _⟩
         · simp only[List.length_append,d6];have:=HX.out;omega
         · exact((lim_parts a3.out.2.1).1.append h5).append (lim_parts a3.out.2.1).2.2
         · rw[List.drop_eq_getElem_cons (show j<(q.set j (Z)).length by simp[hq];omega),List.getElem_set_self,List.drop_set_of_lt (by omega),val_cons];have h1:=hv.out.1;rw[Nat.pow_succ]at h1;have h2:=RL.out.1;rw[HP.out]at h2;exact long_alg h1 h2
         · have h2:=RL.out.2
           rwa [HP.out]at h2
        case measure=>simp[intOf]
      | false=>
        obtain⟨l7,i7,m4⟩:=digit_miss YP.out i1.out.2 (FF.out rfl).1 (FF.out rfl).2;obtain⟨D,hD⟩:=zE (Z-1);rw[<-hD]at i7;have z5:(Z:Int)-1=(D:Int):=(by omega);have l2:D<B:=(by have:=ZB.out;omega);have z6:Z<=18446744073709551615:=(by have:=ZB.out;unfold B at this;omega);have DB:=Lib.hid l2;have E1:=Lib.hid (zN i7 m4);clear hD i7 m4 l2;have a6:=E1.out;have e9:=round_left (P:=P) (X:=X) (X':=X') (S:=S) (Y:=Y) (D:=D) HX.out d6 S0.out a6.1 a6.2;have RL:=Lib.hid e9;clear a6 e9;go_wp2
        go_roundw
        case rel=>
         have hq:q.length=M+1:=a3.out.2.2.1;have i4:=a3.out.1;simp only[List.length_append]at i4;refine⟨j,P ++ X' ++ S,q.set j (D),by omega,by go_num,hL.out.1.far (by show w2.heap.size≠g1;omega) _,hL.out.2.1.far (by show w2.heap.size≠g2;omega) _,hL.out.2.2.1.set _ _,Lib.hid ⟨?_,?_,by simp[hq],a3.out.2.2.2.set _ _ DB.out⟩,Lib.hid ⟨?_,?_⟩,hL.out.2.2.2.setCell (p:=⟨w2.heap.size,j,none⟩) (by show w.heap.size<=w2.heap.size;omega) _⟩
         · simp only[List.length_append,d6];have:=HX.out;omega
         · exact((lim_parts a3.out.2.1).1.append h5).append (lim_parts a3.out.2.1).2.2
         · rw[List.drop_eq_getElem_cons (show j<(q.set j (D)).length by simp[hq];omega),List.getElem_set_self,List.drop_set_of_lt (by omega),val_cons];have h1:=hv.out.1;rw[Nat.pow_succ]at h1;have h2:=RL.out.1;rw[HP.out]at h2;exact long_alg h1 h2
         · have h2:=RL.out.2
           rwa [HP.out]at h2
        case measure=>simp[intOf]
  · obtain rfl:k=0:=(by omega);have e0:=hv.out.1;have e1:=hv.out.2;simp only[Nat.pow_zero,Nat.one_mul,List.drop_zero]at e0 e1;have nq:NatV 22 wr (some ⟨w2.heap.size,0,none⟩) (M+1) (M+1) q:=a7.natV a3.out.2.2.2 a3.out.2.2.1 (zR _) (by simp[maxLen];omega);have np:NatV 22 wr (some ⟨g1,0,none⟩) (N+1) (N+1) p:=a4.natV a3.out.2.1 a3.out.1 (zR _) (by simp[maxLen];omega);have q5:trimLen p<=N+1:=(by have:=trimLen_le p;have:=a3.out.1;omega);have RC:=Lib.hid (right_c (s:=s) (a4.lp_take (trimLen p)) (lim_trim a3.out.2.1) (zau p) b7 (by omega) (zR _) (by simp[maxLen];omega));have NQ:=Lib.hid nq;have NP:=Lib.hid np;have V1:=Lib.hid e0;have V2:=Lib.hid e1;have l3:=Lib.hid f8;clear nq np e0 e1 a4 a5 a7 f8 q5
    go_wp2_with fail
    refine(zbb NQ.out).mono ?_
    rintro e w3 ⟨rfl,rfl⟩
    go_wp2_with fail
    refine(zbb NP.out).mono ?_
    rintro e w3 ⟨rfl,rfl⟩
    go_wp2_with fail
    refine RC.out.mono ?_
    rintro e w3 ⟨R,m,d,l,rfl,hR,s8,s9,m9,t3⟩;go_wp2
    go_ret2
    have l4:0<Y:=by
     rcases Nat.eq_zero_or_pos Y with h|h
     · have:=V2.out;rw[h]at this;omega
     · exact h
    have l5:Y=val b*2 ^ s:=(by rw[HY.out];exact BY.out.1);have l6:=two_pos s;have hq:val q=val a / val b:=by
     have h1:=V1.out;rw[<-div_shift (u:=val a) (y:=val b) l6,<-l5,<-h1,Nat.add_comm,Nat.mul_add_div l4,Nat.div_eq_of_lt V2.out,Nat.add_zero]
    have hr:val p=val a % val b*2 ^ s:=by
     have h1:=V1.out;rw[<-mod_shift,<-l5,<-h1,Nat.add_comm,Nat.mul_add_mod,Nat.mod_eq_of_lt V2.out]
    refine⟨_,_,_,trim q,_,_,_,_,rfl,NQ.out.trim.grown m9 (fun b off _ e=>by injection e with e;injection e with e;simp;omega),norm_trim _,by rw[val_trim,hq],hR,s8,?_,l3.out.grown m9 l3.out.size (fun k e=>by injection e with e;omega),NewA.mk (by omega),fun a e=>by rw[t3 a e];omega⟩;rw[s9,show p.take (trimLen p)=trim p from rfl,val_trim,hr,Nat.mul_div_cancel _ l6]
theorem cmpI_ge {x y:Int} (h:¬x<y):0<=cmpI x y:=by
 unfold cmpI;rw[if_neg h];split<;>omega
theorem Norm.ofL (x:Nat):Gn.Norm (ofL x):=by
 unfold Gz.ofL;split
 · exact Gn.Norm.nil
 · intro _;simpa
theorem val_ofL (x:Nat):val (ofL x)=x:=by
 unfold Gz.ofL;split
 · subst_vars;rfl
 · simp
def DivR (w:World) (x y:Nat) (e:Ending) (w':World):Prop:=
 ∃R m d l R' m' d' l',e=.returned (.tuple #[.slice R m d,.slice R' m' d',.int .i64 0])/\NatV 22 w' R m d l/\Gn.Norm l/\val l=x / y/\NatV 22 w' R' m' d' l'/\Gn.Norm l'/\val l'=x % y/\Below w.heap.size w w'/\NewA w R/\NewA w R'
theorem DivMod_c {A A':Option Addr} {n c n' c':Nat} {a b:List Nat} {w:World} (ha:NatV 22 w A n c a) (hb:NatV 22 w A' n' c' b) (h0:0<val b) (hn:n<=134217728):
 Calls Tryz.prog 140 #[.slice A n c,.slice A' n' c'] w (DivR w (val a) (val b)):=by
 obtain⟨N,hN⟩:=zE (trimLen a);obtain⟨M,hM⟩:=zE (trimLen b);have t1:=ha.trim;have t2:=hb.trim;rw[<-hN]at t1;rw[<-hM]at t2;have e0:N<=134217728:=by have:=trimLen_le a;have:=ha.len;omega
 obtain⟨x,hx⟩:=zE (trim a);obtain⟨y,hy⟩:=zE (trim b);have b5:Gn.Norm x:=hx▸norm_trim _;have b6:Gn.Norm y:=hy▸norm_trim _;rw[<-hx]at t1;rw[<-hy]at t2;have a5:val x=val a:=hx▸val_trim _;have a2:val y=val b:=hy▸val_trim _;have a3:y≠[]:=fun e=>by rw[e]at a2;simp at a2;omega
 have g0:0<M:=by have:=t2.len;have:=List.length_pos_iff.mpr a3;omega
 have TA:Hid (Calls Tryz.prog 81 #[.slice A n c] w fun e w'=>e=.returned (.slice A N N)/\w=w'):=by have:=zbb ha;rw[<-hN]at this;exact Lib.hid this
 have TB:Hid (Calls Tryz.prog 81 #[.slice A' n' c'] w fun e w'=>e=.returned (.slice A' M M)/\w=w'):=by have:=zbb hb;rw[<-hM]at this;exact Lib.hid this
 have f4:((M:Int) == 0)=false:=by rw[beq_eq_false_iff_ne];omega
 have C:=Lib.hid (Cmp_c t1 t2);rw[a5,a2]at C;have HX:=Lib.hid t1;have HY:=Lib.hid t2;have Vx:=Lib.hid a5;have Vy:=Lib.hid a2;have Nx:=Lib.hid b5;have Ny:=Lib.hid b6;clear ha hb hN hM hx hy t1 t2 a5 a2 b5 b6 a3;obtain⟨X,hX⟩:=zE (val a);obtain⟨Y,hY⟩:=zE (val b);rw[<-hX,<-hY]at C;rw[<-hX]at Vx ⊢;rw[<-hY]at Vy h0 ⊢;clear hX hY;go_enter Tryz.func140,Tryz.ntmps140
 go_wp2_with fail
 refine TA.out.mono ?_
 rintro e w3 ⟨rfl,rfl⟩
 go_wp2_with fail
 refine TB.out.mono ?_
 rintro e w3 ⟨rfl,rfl⟩;by_cases hlt:X<Y
 · rw[cmpI_lt (by omega)]at C
   go_wp2_with fail
   refine C.out.mono ?_
   rintro e w3 ⟨rfl,q,rfl⟩
   go_wp2_with fail
   refine(Norm_c (HX.out.drewN q) (by omega)).mono ?_
   rintro e w4 ⟨R,d,rfl,hr,hg⟩
   go_wp2_with fail
   go_ret3
   refine⟨_,_,_,[],_,_,_,_,rfl,NatV.nil _ _,by intro h;exact absurd rfl h,by rw[Nat.div_eq_of_lt hlt];rfl,NatV.of_own hr (lim_trim HX.out.lim),norm_trim _,by rw[val_trim,Vx.out,Nat.mod_eq_of_lt hlt],(below_drewN (Below.refl _ _) q).trans hg,NewA.nil _,own_new hr⟩
 · have e1:=cmpI_ge (x:=(X:Int)) (y:=(Y:Int)) (by omega);obtain⟨K,hK⟩:=zE (cmpI (X:Int) (Y:Int));rw[<-hK]at C e1;have g3:decide (K<0)=false:=by rw[decide_eq_false_iff_not];omega
   clear hK
   go_wp2_with fail
   refine C.out.mono ?_
   rintro e w3 ⟨rfl,q,rfl⟩;by_cases h1:M=1
   · subst h1;obtain⟨bb,bo,rfl,_⟩:=HY.out.row (by omega);have e2:=HY.out.len;obtain⟨v,hv⟩:=zE (y[0]'(by omega));have a1:=HY.out.cell rfl 0 (by omega);rw[<-hv,Nat.add_zero]at a1;have a2:y=[v]:=by
      match y,e2,hv with
      | [z],_,h=>rw[h];rfl
     have b8:v=Y:=(by have:=Vy.out;rw[a2]at this;simpa using this);have a6:v<B:=hv▸HY.out.lim.get _ (by omega);rw[b8]at a6 a1;clear hv a2 b8;simp only[Gn.u64]at a1;have SH:=Lib.hid (short_c (HX.out.drewN q) h0 a6 (by omega));rw[Vx.out]at SH;have d6:(w.drewN q).cell? ⟨bb,bo,none⟩=some (.int .u64 (Y:Int)):=a1;clear a1
     go_wp2_with fail
     refine SH.out.mono ?_
     rintro e w4 ⟨R,m,d,l,rfl,hl,e9,f0,hg,f2⟩;have a4:X % Y<B:=Nat.lt_trans (Nat.mod_lt _ h0) a6;obtain⟨Z,hZ⟩:=zE (X % Y);rw[<-hZ]at a4 ⊢;have HZ:=Lib.hid hZ;clear hZ
     go_wp2_with fail
     refine(Of_c (Z:Int) (by omega) (by unfold B at a4;omega) w4).mono ?_
     rintro e w5 ⟨R',m',d',rfl,hr,c6,d0⟩
     go_wp2_with fail
     go_ret3
     rw[Int.toNat_natCast]at hr;exact⟨_,_,_,_,_,_,_,_,rfl,hl.below c6,e9,f0,hr,Norm.ofL _,by rw[val_ofL,HZ.out],((below_drewN (Below.refl _ _) q).trans hg).trans (c6.mono hg.size),f2,d0.mono hg.size⟩
   · have g5:((M:Int) == 1)=false:=(by rw[beq_eq_false_iff_ne];omega);have e3:M<=N:=by
      rw[<-HX.out.len,<-HY.out.len];refine Ny.out.len_le ?_
      have h1:val x<B ^ x.length:=val_lt HX.out.lim;have h2:=Vx.out;have h3:=Vy.out;omega
     have LG:=Lib.hid (long_c (HX.out.drewN q) (HY.out.drewN q) Ny.out (by omega) e3 e0);rw[Vx.out,Vy.out]at LG
     go_wp2_with fail
     refine LG.out.mono ?_
     rintro e w4 ⟨R,m,d,l,R',m',d',l',rfl,h2,h3,h4,h5,h6,h7,h8,h9,f3⟩
     go_wp2_with fail
     go_ret3
     exact⟨_,_,_,_,_,_,_,_,rfl,h2,h3,h4,h5,h6,h7,(below_drewN (Below.refl _ _) q).trans h8,h9,f3⟩
theorem MulDiv_c {A A' A'':Option Addr} {n c n' c' n'' c'':Nat} {a b k:List Nat} {w:World} (ha:NatV 22 w A n c a) (hb:NatV 22 w A' n' c' b) (hk:NatV 22 w A'' n'' c'' k) (h0:0<val k) (hn:n+n'<=134217728):
 Calls Tryz.prog 144 #[.slice A n c,.slice A' n' c',.slice A'' n'' c''] w (DivR w (val a*val b) (val k)):=by
 have M:=Lib.hid (Mul_c ha hb (by omega) (by omega));have Hk:=Lib.hid hk;have la:=Lib.hid ha.len;have lb:=Lib.hid hb.len;have LA:=Lib.hid ha.lim;have LB:=Lib.hid hb.lim;clear ha hb hk;obtain⟨X,hX⟩:=zE (val a*val b);rw[<-hX]at M ⊢;have HX:=Lib.hid hX;clear hX;obtain⟨Y,hY⟩:=zE (val k);rw[<-hY]at h0 ⊢;have HY:=Lib.hid hY;clear hY;go_enter Tryz.func144,Tryz.ntmps144
 go_wp2_with fail
 refine M.out.mono ?_
 rintro e w3 ⟨R,m,d,l,rfl,hl,a2,a1,hg,d0⟩;have hm:m<=134217728:=by
  have h1:l.length<=a.length+b.length:=by
   refine a2.len_le ?_
   rw[a1,HX.out,Nat.pow_add];rcases Nat.eq_zero_or_pos (val b) with h|h
   · rw[h,Nat.mul_zero];exact Nat.mul_pos (Nat.pow_pos B_pos) (Nat.pow_pos B_pos)
   · exact zqL (Nat.mul_lt_mul_of_pos_right (val_lt LA.out) h) (Nat.mul_le_mul_left _ (Nat.le_of_lt (val_lt LB.out)))
  have h2:=hl.len;have h3:=la.out;have h4:=lb.out;omega
 have D:=Lib.hid (DivMod_c hl (Hk.out.below hg) (HY.out▸h0) hm);rw[a1,<-HY.out]at D;have HG:=Lib.hid hg;clear hl a2 a1 hg
 go_wp2_with fail
 refine D.out.mono ?_
 rintro e w4 ⟨R1,m1,d1,l1,R2,m2,d2,l2,rfl,h1,h2,h3,h4,h5,h6,h7,h8,h9⟩
 go_wp2_with fail
 go_ret3
 exact⟨_,_,_,_,_,_,_,_,rfl,h1,h2,h3,h4,h5,h6,HG.out.trans (h7.mono HG.out.size),h8.mono HG.out.size,h9.mono HG.out.size⟩
theorem Small_c {A:Option Addr} {n c:Nat} {a:List Nat} {w:World} (ha:NatV 22 w A n c a):
 Calls Tryz.prog 151 #[.slice A n c] w fun e w'=>e=.returned (.tuple #[.int .u64 ((if val a<B then val a else 0:Nat):Int),.bool (decide (val a<B))])/\w=w':=by
 obtain⟨N,hN⟩:=zE (trimLen a);have t1:=ha.trim;rw[<-hN]at t1;obtain⟨x,hx⟩:=zE (trim a);have a5:Gn.Norm x:=hx▸norm_trim _;rw[<-hx]at t1;have a6:val x=val a:=hx▸val_trim _;have TA:Hid (Calls Tryz.prog 81 #[.slice A n c] w fun e w'=>e=.returned (.slice A N N)/\w=w'):=by have:=zbb ha;rw[<-hN]at this;exact Lib.hid this
 rw[<-a6];clear ha hN hx a6;have lx:=t1.len;have lim:=t1.lim
 match x,lx,a5 with
 | [],lx,_=>
   simp at lx;subst lx;clear t1 lim;go_enter Tryz.func151,Tryz.ntmps151
   go_wp2_with fail
   refine TA.out.mono ?_
   rintro e w3 ⟨rfl,rfl⟩
   go_wp2_with fail
   go_ret2
   exact⟨rfl,rfl⟩
 | [y],lx,_=>
   simp at lx;subst lx;obtain⟨bb,bo,rfl,_⟩:=t1.row (by omega);have a1:=t1.cell rfl 0 (by simp);have a7:y<B:=lim y (by simp);rw[Nat.add_zero]at a1;simp only[Gn.u64,List.getElem_cons_zero]at a1;have hv:val [y]=y:=by simp
   rw[hv,if_pos a7,decide_eq_true a7];clear t1 lim hv;go_enter Tryz.func151,Tryz.ntmps151
   go_wp2_with fail
   refine TA.out.mono ?_
   rintro e w3 ⟨rfl,rfl⟩
   go_wp2_with fail
   go_ret2
   exact⟨rfl,rfl⟩
 | y :: z :: r,lx,a5=>
   have a4:¬val (y :: z :: r)<B:=by
     have:=a5.le_val (by simp);have h2:B ^ 1<=B ^ ((y :: z :: r).length-1):=Nat.pow_le_pow_right B_pos (by simp);rw[Nat.pow_one]at h2;omega
   simp only[List.length_cons]at lx;have h1:((N:Int) == 0)=false:=by rw[beq_eq_false_iff_ne];omega
   have h2:((N:Int) == 1)=false:=by rw[beq_eq_false_iff_ne];omega
   clear t1 lim;rw[if_neg a4,decide_eq_false a4];go_enter Tryz.func151,Tryz.ntmps151
   go_wp2_with fail
   refine TA.out.mono ?_
   rintro e w3 ⟨rfl,rfl⟩
   go_wp2_with fail
   go_ret2
   exact⟨rfl,rfl⟩
def bitsN (v:Nat):Nat:=if v=0 then 0 else Nat.log2 v+1
theorem bitsN_of {v k:Nat} (h1:1<=k) (h2:2 ^ (k-1)<=v) (h3:v<2 ^ k):bitsN v=k:=by
 have h0:v≠0:=by have:=two_pos (k-1);omega
 unfold bitsN;rw[if_neg h0];have a:=(Nat.le_log2 h0).2 h2;have b:=(Nat.log2_lt h0).2 h3;omega
theorem bits_top {l:List Nat} {y:Nat} (hl:Lim l) (hy:0<y) (hyB:y<B):bitsN (val (l ++ [y]))=64*l.length+Go.Lib.bitLen y:=by
 obtain⟨a,b,c,d⟩:=zbg hy hyB;have hv:val (l ++ [y])=val l+B ^ l.length*y:=by rw[val_append];simp
 have hp:B ^ l.length=2 ^ (64*l.length):=by rw[Nat.pow_mul];rfl
 have a2:=val_lt hl;rw[hp]at hv a2;refine bitsN_of (by omega) ?_ ?_
 · rw[hv,show 64*l.length+Go.Lib.bitLen y-1=64*l.length+(Go.Lib.bitLen y-1) by omega,Nat.pow_add];exact zT (Nat.mul_le_mul_left _ a) (Nat.le_add_left _ _)
 · rw[hv,Nat.pow_add];have:2 ^ (64*l.length)*(y+1)<=2 ^ (64*l.length)*2 ^ Go.Lib.bitLen y:=Nat.mul_le_mul_left _ b;rw[Nat.mul_add,Nat.mul_one]at this;omega
theorem Bits_c {A:Option Addr} {n c:Nat} {a:List Nat} {w:World} (ha:NatV 22 w A n c a) (hn:n<=1073741824):
 Calls Tryz.prog 76 #[.slice A n c] w fun e w'=>e=.returned (.int .i64 ((bitsN (val a):Nat):Int))/\w=w':=by
 obtain⟨N,hN⟩:=zE (trimLen a);have t1:=ha.trim;rw[<-hN]at t1;have c5:N<=1073741824:=by have:=trimLen_le a;have:=ha.len;omega
 obtain⟨x,hx⟩:=zE (trim a);have a6:Gn.Norm x:=hx▸norm_trim _;rw[<-hx]at t1;have a7:val x=val a:=hx▸val_trim _;have TA:Hid (Calls Tryz.prog 81 #[.slice A n c] w fun e w'=>e=.returned (.slice A N N)/\w=w'):=by have:=zbb ha;rw[<-hN]at this;exact Lib.hid this
 rw[<-a7];clear ha hN hx a7;have lx:=t1.len;rcases Decidable.em (x=[]) with hx|hx
 · subst hx;simp at lx;subst lx;clear t1;go_enter Tryz.func76,Tryz.ntmps76
   go_wp2_with fail
   refine TA.out.mono ?_
   rintro e w3 ⟨rfl,rfl⟩
   go_wp2_with fail
   go_ret
   exact⟨rfl,rfl⟩
 · obtain⟨l,y,rfl⟩:∃l y,x=l ++ [y]:=⟨_,_,(List.dropLast_concat_getLast hx).symm⟩
   have a8:0<y:=by have:=a6 hx;simp at this;omega
   have a4:y<B:=t1.lim y (by simp);obtain⟨bb,bo,rfl,_⟩:=t1.row (by simp at lx;omega);simp at lx;have a1:=t1.cell rfl l.length (by simp);have a9:l.length=N-1:=by omega
   simp only[Gn.u64,List.getElem_concat_length]at a1;rw[bits_top (fun z hz=>t1.lim z (by simp[hz])) a8 a4];obtain⟨_,_,b5,b6⟩:=zbg a8 a4;have L:=Lib.hid (Tryz.bits_Len64 (y:Int) w (by omega) (by unfold B at a4;omega));rw[Int.toNat_natCast]at L;obtain⟨k,hk⟩:=zE (Go.Lib.bitLen y);rw[<-hk]at L b5 b6 ⊢;obtain⟨M,hM⟩:=zE l.length;rw[<-hM]at a1 lx ⊢;have e1:(N:Int)-1=(M:Int):=by omega
   have e0:((N:Int) == 0)=false:=by rw[beq_eq_false_iff_ne];omega
   have e3:64*(M:Int)+(k:Int)=((64*M+k:Nat):Int):=by omega
   have c6:M<N:=by omega
   have HE:=Lib.hid e3;have w1:IntKind.i64.wrap (64*(M:Int))=64*(M:Int):=by simp only[IntKind.wrap_i64];omega
   have w2:IntKind.i64.wrap (64*(M:Int)+(k:Int))=64*(M:Int)+(k:Int):=by simp only[IntKind.wrap_i64];omega
   clear hk hM t1 a6 a9 lx e3;go_enter Tryz.func76,Tryz.ntmps76
   go_wp2_with fail
   refine TA.out.mono ?_
   rintro e w3 ⟨rfl,rfl⟩
   go_wp2_with fail
   refine L.out.mono ?_
   rintro e w3 ⟨rfl,rfl⟩
   go_wp2_with fail
   go_ret
   exact⟨congrArg (fun z:Int=>Ending.returned (.int .i64 z)) HE.out,rfl⟩
def unitL:List Nat:=[12919594847110692864,54210108624275221]
theorem val_unit:val unitL=10 ^ 36:=by decide
theorem unit_c (w:World):
 Calls Tryz.prog 113 #[] w fun e w'=>e=.returned (.slice (some ⟨w.heap.size,0,none⟩) 2 2)/\w'=w.alloc (.cells (unitL.map Gn.u64).toArray 22):=by
 go_enter Tryz.func113,Tryz.ntmps113
 go_wp2
 go_ret
 exact⟨rfl,rfl⟩
theorem DZero_c {A:Option Addr} {n c:Nat} {a:List Nat} {w:World} (ha:NatV 22 w A n c a) (hn:n<=1073741824):
 Calls Tryz.prog 26 #[.agg #[.slice A n c]] w fun e w'=>e=.returned (.bool (decide (val a=0)))/\Below w.heap.size w w':=by
 have HA:=Lib.hid ha;clear ha;go_enter Tryz.func26,Tryz.ntmps26
 go_wp2_with fail
 refine(Bits_c (HA.out.below ((Below.refl _ _).alloc (zR _) _)) hn).mono ?_
 rintro e w3 ⟨rfl,rfl⟩
 go_wp2_with fail
 go_ret
 refine⟨?_,(Below.refl _ _).alloc (zR _) _⟩
 congr 2
 rw[bitsN];split<;>simp_all
 omega
end Gz

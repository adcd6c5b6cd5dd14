/- A part of the proof of the statement of this seat: no condition. -/
import Derived.Test.YtbhnjkegkadodaaGreatDoorQ18
import Derived.Test.YtbhnjkegkadodaaGreatDoorKMok
import Derived.Deep.DeepCutAuto
set_option linter.unusedVariables false
set_option linter.unusedSimpArgs false
set_option maxRecDepth 100000
set_option maxHeartbeats 8000000
namespace Go.Proofs.YtbhnjkegkadodaaGreatDoor
open Go Go.RowKit Go.Proofs Gl
theorem gs_lt {w:World} {A:Option Addr} {gs:List Nat} (h:Gs w A gs):∀g ∈ gs,g<Gn.B ^ 4:=fun g hg=>by
 obtain⟨j,hj⟩:=List.getElem?_of_mem hg
 obtain⟨b,off,A,n,c,_,_,hn,hl⟩:=h j g hj
 exact Nat.lt_of_lt_of_le hl.lt (pow_le hn)
theorem sumq_le {n:Nat}:∀ {gs:List Nat},(∀g ∈ gs,g<Gn.B ^ 4)->sumq n gs<=gs.length*Gn.B ^ 4
 | [],_=>by simp[sumq]
 | g :: gs,h=>by
   have h1:=sumq_le (n:=n) (fun x hx=>h x (List.mem_cons_of_mem g hx))
   have h2:=h g List.mem_cons_self
   have h3:g / n<=g:=Nat.div_le_self _ _
   have e:sumq n (g :: gs)=g / n+sumq n gs:=by simp[sumq]
   rw[e,List.length_cons,Nat.add_mul]
   omega
theorem Gs.new {w w':World} {A:Option Addr} {gs:List Nat} (h:Gs w A gs) (hn:New w w'):Gs w' A gs:=fun j g hg=>by
 obtain⟨b,off,A,n,c,e,hc,h4,hl⟩:=h j g hg
 exact⟨b,off,A,n,c,e,(hn.cell (a:=⟨b,off+j,none⟩) (World.block_lt_of_cell? w _ hc) id).trans hc,h4,(hl.new hn).mono (fun b _ hb=>Nat.lt_of_lt_of_le hb hn.size)⟩
theorem split_c {w:World} {tok part n1 c1 n2 c2:Nat} {A1 A2:Option Addr} (htok:tok<18446744073709551616) (hpart:part<18446744073709551616) (hl:Laid3 w) (hg1:Giv w A1 n1) (hg2:Giv w A2 n2):
 Calls Tryz.prog 7 #[.int .u64 (tok:Int),.int .u64 (part:Int),.slice A1 n1 c1,.slice A2 n2 c2] w fun e w'=>e=.returned (.bool true)/\New w w':=by
 obtain⟨t3,ht3⟩:=hl
 have HKN:=Lib.hid (known_true w (t:=t3) ht3);have HG1:=Lib.hid hg1;have HG2:=Lib.hid hg2;have HTOK:=Lib.hid (And.intro htok hpart)
 clear ht3 hg1 hg2 htok hpart
 go_enter Tryz.func7,Tryz.ntmps7
 go_upto_region 3 with(go_at_call 9;refine HKN.out.mono ?_;rintro e W2 ⟨rfl,hf2⟩;have HN2:=Lib.hid (new_of_fresh hf2);clear HKN hf2)
 by_cases hP1:Short W2 A1 n1
 case neg=>
  have HS1:=Lib.hid (lshort_no (cg:=c1) (HG1.out.new HN2.out) hP1)
  go_wp2_with (go_at_call 38;refine HS1.out.mono ?_;rintro e w3 ⟨rfl,rfl⟩)
  go_ret
  exact⟨by simp,HN2.out⟩
 have HS1:=Lib.hid (lshort_yes (cg:=c1) (HG1.out.new HN2.out) hP1)
 by_cases hP2:Short W2 A2 n2
 case neg=>
  have HS2:=Lib.hid (lshort_no (cg:=c2) (HG2.out.new HN2.out) hP2)
  go_wp2_with (first
   | (go_at_call_of 38 (Value.slice A1 n1 c1);refine HS1.out.mono ?_;rintro e w3 ⟨rfl,rfl⟩)
   | (go_at_call_of 38 (Value.slice A2 n2 c2);refine HS2.out.mono ?_;rintro e w3 ⟨rfl,rfl⟩))
  go_ret
  exact⟨by simp,HN2.out⟩
 have HS2:=Lib.hid (lshort_yes (cg:=c2) (HG2.out.new HN2.out) hP2)
 have HP1:=Lib.hid hP1;have HP2:=Lib.hid hP2
 clear hP1 hP2 HG1 HG2
 go_upto_region 5 with(first
  | (go_at_call_of 38 (Value.slice A1 n1 c1);refine HS1.out.mono ?_;rintro e w3 ⟨rfl,rfl⟩)
  | (go_at_call_of 38 (Value.slice A2 n2 c2);refine HS2.out.mono ?_;rintro e w3 ⟨rfl,rfl⟩))
 obtain⟨n,hn⟩:∃n,n=1+tok % 1000000000000000000:=⟨_,rfl⟩
 have hn0:0<n:=by omega
 have hn64:n<18446744073709551616:=by have:=Nat.mod_lt tok (show 0<1000000000000000000 by decide);omega
 obtain⟨tt,htt⟩:∃tt,tt=1+part % 97:=⟨_,rfl⟩
 have htt2:tt<=97:=by have:=Nat.mod_lt part (show 0<97 by decide);omega
 have hni:1+(tok:Int) % 1000000000000000000=(n:Int):=by rw[hn];omega
 have htti:1+(part:Int) % 97=(tt:Int):=by rw[htt];omega
 have HNN:=Lib.hid (And.intro hn0 (And.intro hn64 htt2));have HTT:=Lib.hid htti
 have HNI:=Lib.hid hni
 clear hn hni hn0 hn64 htt htti htt2
 go_upto_region 6 with fail
 rw[HNI.out]
 clear HNI
 go_upto_region 8 with(first
  | (go_at_call 12;refine knew_f.mono ?_;rintro e w3 ⟨bs,F,rfl,hsf3,hn3',hF3,hbs3⟩;have H3:=Lib.hid (And.intro hsf3 (And.intro hn3' (And.intro hF3 hbs3)));clear hsf3 hn3' hF3 hbs3)
  | (go_at_call 24;refine(of_c (w:=w3) n HNN.out.2.1).mono ?_;rintro e w4 ⟨R2,m2,d2,rfl,hr4,hn4⟩;have H4:=Lib.hid (And.intro hr4 hn4);clear hr4 hn4)
  | (go_at_call 13;refine(start_led (H3.out.1.new H4.out.2)).mono ?_;rintro e w5 ⟨rfl,Fa1,hsf5,st5⟩;have H5:=Lib.hid (And.intro hsf5 st5);clear hsf5 st5))
 have HW:=Lib.hid (show New w w3/\(∀b,F b->w.heap.size<=b)/\w.heap.size<=bs from⟨HN2.out.trans H3.out.2.1,fun b hb=>Nat.le_trans HN2.out.size (H3.out.2.2.1 b hb),Nat.le_trans HN2.out.size H3.out.2.2.2⟩)
 have HWP:=Lib.hid (And.intro H3.out.2.2.1 (And.intro H3.out.2.2.2 H3.out.2.1))
 have HG:=Lib.hid ((LG.begin H3.out.1).nw H4.out.2)
 have N2:=Lib.hid (H4.out.1.po_of (LG.begin H3.out.1))
 obtain⟨W6,hW6⟩:∃W,W=w5.alloc (.cells #[.int .u64 0,.int .u64 (n:Int),.slice R2 m2 d2,.bool false,.int .u64 0,.bool false,.int .u64 1,.slice none 0 0,.slice none 0 0,.slice none 0 0] 28):=⟨_,rfl⟩
 rw[<-hW6]
 have g:=(HG.out.step H5.out.2 H5.out.1).alloc #[.int .u64 0,.int .u64 (n:Int),.slice R2 m2 d2,.bool false,.int .u64 0,.bool false,.int .u64 1,.slice none 0 0,.slice none 0 0,.slice none 0 0] 28
 rw[<-hW6]at g
 have qN2:=(N2.out.po_step H5.out.2).po_alloc #[.int .u64 0,.int .u64 (n:Int),.slice R2 m2 d2,.bool false,.int .u64 0,.bool false,.int .u64 1,.slice none 0 0,.slice none 0 0,.slice none 0 0] 28
 rw[<-hW6]at qN2
 clear hW6
 replace HG:=Lib.hid g
 clear g
 replace N2:=Lib.hid qN2
 clear qN2
 clear H3 H4 H5
 have hU:n*10 ^ 36<Gn.B ^ 30:=by
  have h1:n*10 ^ 36<18446744073709551616*10 ^ 36:=Nat.mul_lt_mul_of_pos_right HNN.out.2.1 (by decide)
  exact Nat.lt_of_lt_of_le h1 (by decide)
 have htb:tt<Gn.B ^ 30:=Nat.lt_of_le_of_lt HNN.out.2.2 (by decide)
 have HUT:=Lib.hid (pow5 hU htb)
 have hzb:n*10 ^ 36*tt / 100<Gn.B ^ 30:=by
  have h1:n*10 ^ 36*tt<=n*10 ^ 36*100:=Nat.mul_le_mul_left _ (by have:=HNN.out.2.2;omega)
  exact Nat.lt_of_le_of_lt (Nat.le_trans (Nat.div_le_div_right h1) (by rw[Nat.mul_div_cancel _ (by decide:0<100)];exact Nat.le_refl _)) hU
 obtain⟨z,hz⟩:∃z,z=n*10 ^ 36*tt / 100:=⟨_,rfl⟩
 rw[<-hz]at hzb
 have HZ:=Lib.hid hz;have HZB:=Lib.hid hzb
 clear hz hzb hU htb
 go_upto_region 9 with(first
  | (go_at_call 24;refine(of_c n HNN.out.2.1).mono ?_;rintro e w7 ⟨R7,m7,d7,rfl,hr7,hn7⟩;have H7:=Lib.hid (And.intro hr7 hn7);have hti:=HTT.out;clear hr7 hn7)
  | (go_at_call 40;(try rw[hti]);refine(times_c (w:=w7) (t:=tt) H7.out.1.lq (by have:=HNN.out.2.2;omega) HUT.out).mono ?_;rintro e w8 ⟨R8,m8,d8,rfl,hr8,hn8⟩;have H8:=Lib.hid (And.intro hr8 hn8);clear hr8 hn8)
  | (go_at_call 39;refine(over_c (w:=w8) (t:=100) H8.out.1.lq (by decide) (by decide)).mono ?_;rintro e w9 ⟨R9,m9,d9,rfl,hr9,hn9⟩;have H9:=Lib.hid (And.intro hr9 hn9);clear hr9 hn9))
 have n79:New W6 w9:=(H7.out.2.trans H8.out.2).trans H9.out.2
 have N9:Hid (LN (PO Fa1 bs _) w9 R9 m9 d9 z):=Lib.hid (HZ.out▸(H9.out.1.po_of (HG.out.nw (H7.out.2.trans H8.out.2))))
 replace HG:=Lib.hid (HG.out.nw n79)
 replace N2:=Lib.hid (N2.out.po_new n79)
 clear n79 H7 H8 H9
 obtain⟨WA,hWA⟩:∃W,W=w9.alloc (.cells #[.slice R9 m9 d9] 26):=⟨_,rfl⟩
 rw[<-hWA]
 have g:=(HG.out).alloc #[.slice R9 m9 d9] 26
 rw[<-hWA]at g
 have qN2:=(N2.out).po_alloc #[.slice R9 m9 d9] 26
 rw[<-hWA]at qN2
 have qN9:=(N9.out).po_alloc #[.slice R9 m9 d9] 26
 rw[<-hWA]at qN9
 clear hWA
 replace HG:=Lib.hid g
 clear g
 replace N2:=Lib.hid qN2
 clear qN2
 replace N9:=Lib.hid qN9
 clear qN9
 have HL:=Lib.hid led0
 have HC:Hid ((F1.refer ⟨[],[]⟩ 0).c=[]):=Lib.hid rfl
 have HBD:=Lib.hid (show(0:Nat)<=100000/\0<Gn.B ^ 30/\1<=100000/\1<=100000 from⟨by decide,by decide,by decide,by decide⟩)
 have kl:=HG.out.k (i:=1) rfl
 have l0:=cell_of kl 0 _ rfl;have l1:=cell_of kl 1 _ rfl;have l2:=cell_of kl 2 _ rfl;have l3:=cell_of kl 3 _ rfl;have l4:=cell_of kl 4 _ rfl;have l5:=cell_of kl 5 _ rfl;have l6:=cell_of kl 6 _ rfl;have l7:=cell_of kl 7 _ rfl;have l8:=cell_of kl 8 _ rfl;have l9:=cell_of kl 9 _ rfl
 clear kl
 have ky:=HG.out.k (i:=0) rfl
 have y0:=cell_of ky 0 _ rfl
 clear ky
 have HH:=Lib.hid (hold_v (dp:=0) (As:=none) (ns:=0) (cs:=0) 1 0 0 rfl rfl rfl HL.out HG.out.sf N2.out.lq N9.out.lq HNN.out.1 HNN.out.2.1 HZB.out HBD.out)
 go_upto_region 10 with(go_at_call 25;refine HH.out.mono ?_;rintro e w10 ⟨RB,mB,dB,rfl,Fa2,hsf10,st10,hB⟩;have H10:=Lib.hid (And.intro hsf10 (And.intro st10 hB));clear hsf10 st10 hB)
 clear l0 l1 l2 l3 l4 l5 l6 l7 l8 l9 y0 HH
 have NB_:=Lib.hid (H10.out.2.2.po_hold HG.out)
 obtain⟨WB,hWB⟩:∃W,W=w10.alloc (.cells #[.slice R9 m9 d9,.int .u64 0,.slice RB mB dB] 55):=⟨_,rfl⟩
 rw[<-hWB]
 have g:=(HG.out.step H10.out.2.1 H10.out.1).alloc #[.slice R9 m9 d9,.int .u64 0,.slice RB mB dB] 55
 rw[<-hWB]at g
 have qN2:=(N2.out.po_step H10.out.2.1).po_alloc #[.slice R9 m9 d9,.int .u64 0,.slice RB mB dB] 55
 rw[<-hWB]at qN2
 have qN9:=(N9.out.po_step H10.out.2.1).po_alloc #[.slice R9 m9 d9,.int .u64 0,.slice RB mB dB] 55
 rw[<-hWB]at qN9
 have qNB_:=NB_.out.po_alloc #[.slice R9 m9 d9,.int .u64 0,.slice RB mB dB] 55
 rw[<-hWB]at qNB_
 clear hWB
 replace HG:=Lib.hid g
 clear g
 replace N2:=Lib.hid qN2
 clear qN2
 replace N9:=Lib.hid qN9
 clear qN9
 replace NB_:=Lib.hid qNB_
 clear qNB_
 clear H10
 replace HL:=Lib.hid (HL.out.refer (p:=0) (Nat.le_refl _))
 replace HC:Hid ((F1.refer (F1.refer ⟨[],[]⟩ 0) 0).c=[]):=Lib.hid rfl
 replace HBD:=Lib.hid (show(0:Nat)<=100000/\0<Gn.B ^ 30/\1+1<=100000/\1+1<=100000 from⟨by decide,by decide,by decide,by decide⟩)
 have kl:=HG.out.k (i:=2) rfl
 have l0:=cell_of kl 0 _ rfl;have l1:=cell_of kl 1 _ rfl;have l2:=cell_of kl 2 _ rfl;have l3:=cell_of kl 3 _ rfl;have l4:=cell_of kl 4 _ rfl;have l5:=cell_of kl 5 _ rfl;have l6:=cell_of kl 6 _ rfl;have l7:=cell_of kl 7 _ rfl;have l8:=cell_of kl 8 _ rfl;have l9:=cell_of kl 9 _ rfl
 clear kl
 have ky:=HG.out.k (i:=1) rfl
 have y0:=cell_of ky 0 _ rfl
 clear ky
 have HH:=Lib.hid (hold_v (dp:=0) (As:=none) (ns:=0) (cs:=0) 1 0 0 rfl rfl rfl HL.out HG.out.sf N2.out.lq N9.out.lq HNN.out.1 HNN.out.2.1 HZB.out HBD.out)
 go_upto_region 11 with(go_at_call 25;refine HH.out.mono ?_;rintro e w11 ⟨RC,mC,dC,rfl,Fa3,hsf11,st11,hC⟩;have H11:=Lib.hid (And.intro hsf11 (And.intro st11 hC));clear hsf11 st11 hC)
 clear l0 l1 l2 l3 l4 l5 l6 l7 l8 l9 y0 HH
 have NC:=Lib.hid (H11.out.2.2.po_hold HG.out)
 obtain⟨WC,hWC⟩:∃W,W=w11.alloc (.cells #[.slice R9 m9 d9,.int .u64 0,.slice RC mC dC] 55):=⟨_,rfl⟩
 rw[<-hWC]
 have g:=(HG.out.step H11.out.2.1 H11.out.1).alloc #[.slice R9 m9 d9,.int .u64 0,.slice RC mC dC] 55
 rw[<-hWC]at g
 have qN2:=(N2.out.po_step H11.out.2.1).po_alloc #[.slice R9 m9 d9,.int .u64 0,.slice RC mC dC] 55
 rw[<-hWC]at qN2
 have qN9:=(N9.out.po_step H11.out.2.1).po_alloc #[.slice R9 m9 d9,.int .u64 0,.slice RC mC dC] 55
 rw[<-hWC]at qN9
 have qNB_:=(NB_.out.po_step H11.out.2.1).po_alloc #[.slice R9 m9 d9,.int .u64 0,.slice RC mC dC] 55
 rw[<-hWC]at qNB_
 have qNC:=NC.out.po_alloc #[.slice R9 m9 d9,.int .u64 0,.slice RC mC dC] 55
 rw[<-hWC]at qNC
 clear hWC
 replace HG:=Lib.hid g
 clear g
 replace N2:=Lib.hid qN2
 clear qN2
 replace N9:=Lib.hid qN9
 clear qN9
 replace NB_:=Lib.hid qNB_
 clear qNB_
 replace NC:=Lib.hid qNC
 clear qNC
 clear H11
 have hHeld:=HL.out.held
 replace HL:=Lib.hid (HL.out.refer (p:=0) (Nat.le_refl _))
 obtain⟨S3,hS3⟩:∃S,S=F1.refer (F1.refer (F1.refer ⟨[],[]⟩ 0) 0) 0:=⟨_,rfl⟩
 have hc3:S3.c=[]:=by rw[hS3];rfl
 rw[<-hS3]at HG HL hHeld
 clear hS3
 replace HC:=Lib.hid hc3
 have HHD:=Lib.hid hHeld
 clear hc3 hHeld HBD
 obtain⟨hn1,gs1,hl1,hgs1⟩:=HP1.out
 obtain⟨hn2,gs2,hl2,hgs2⟩:=HP2.out
 have HQ1:=Lib.hid (And.intro hn1 (And.intro hl1 hgs1));have HQ2:=Lib.hid (And.intro hn2 (And.intro hl2 hgs2))
 clear hn1 hl1 hgs1 hn2 hl2 hgs2 HP1 HP2
 have hB20:20*Gn.B ^ 4+20*Gn.B ^ 4<Gn.B ^ 30:=by decide
 have hB5:n1*Gn.B ^ 4<=20*Gn.B ^ 4:=Nat.mul_le_mul_right _ HQ1.out.1
 have hB6:n2*Gn.B ^ 4<=20*Gn.B ^ 4:=Nat.mul_le_mul_right _ HQ2.out.1
 obtain⟨r1,hr1⟩:∃r1,r1=sumq n gs1:=⟨_,rfl⟩
 obtain⟨r2,hr2⟩:∃r2,r2=r1+sumq n gs2:=⟨_,rfl⟩
 have hr1b:r1<=n1*Gn.B ^ 4:=by rw[hr1,<-HQ1.out.2.1];exact sumq_le (gs_lt HQ1.out.2.2)
 have hr2b:sumq n gs2<=n2*Gn.B ^ 4:=by rw[<-HQ2.out.2.1];exact sumq_le (gs_lt HQ2.out.2.2)
 have HRR:=Lib.hid (show 0+n1*Gn.B ^ 4<Gn.B ^ 30/\r1+n2*Gn.B ^ 4<Gn.B ^ 30/\r1<Gn.B ^ 30/\r2<Gn.B ^ 30/\r1<=r2 from⟨by omega,by omega,by omega,by omega,by omega⟩)
 have HR1:=Lib.hid hr1;have HR2:=Lib.hid hr2
 clear hB20 hB5 hB6 hr1 hr2 hr1b hr2b
 have kl:=HG.out.k (i:=3) rfl
 have l0:=cell_of kl 0 _ rfl;have l1:=cell_of kl 1 _ rfl;have l2:=cell_of kl 2 _ rfl;have l3:=cell_of kl 3 _ rfl;have l4:=cell_of kl 4 _ rfl;have l5:=cell_of kl 5 _ rfl;have l6:=cell_of kl 6 _ rfl;have l7:=cell_of kl 7 _ rfl;have l8:=cell_of kl 8 _ rfl;have l9:=cell_of kl 9 _ rfl
 clear kl
 have HPAY:=Lib.hid (pay_v (cg:=c1) (q2:=n1) 1 ((n1:Int)+1) (by omega) (by omega) rfl (HG.out.new HWP.out.2.2 HWP.out.1 HWP.out.2.1) (HG.out.gF HWP.out.2.2 HWP.out.1) HWP.out.2.1 HQ1.out.2.2 HQ1.out.2.1 HQ1.out.1 HL.out HG.out.sf HNN.out.1 HNN.out.2.1 (R:=R2) (m:=m2) (d:=d2) (by have:=HQ1.out.1;have:=HQ2.out.1;exact⟨by omega,by omega,by omega,by omega⟩) HRR.out.1)
 go_upto_region 12 with(go_at_call 41
                        refine HPAY.out.mono ?_
                        rintro e w12 ⟨rfl,Fa4,S4,hsf,st,hled,hcc,hheld⟩
                        have hg:=HG.out.step st hsf
                        have HG2:=Lib.hid hg
                        obtain⟨g0,y0,g1,y1,g2,y2,g3,y3,g4,y4,g5,y5,g6,y6,g7,y7,g8,y8,g9,y9,hh,hset⟩:=put10 (hg.k (i:=3) rfl) (.int .u64 0) (.int .u64 (n:Int)) (.slice R2 m2 d2) (.bool false) (.int .u64 0) (.bool false) (.int .u64 ((n1:Int)+1)) (.slice none 0 0) (.slice none 0 0) (.slice none 0 0)
                        have HH:=Lib.hid (And.intro hh hset)
                        have HST:=Lib.hid (And.intro st (And.intro hled (And.intro hcc hheld)))
                        clear HPAY hsf st hg hh hset hled hcc hheld)
 clear l0 l1 l2 l3 l4 l5 l6 l7 l8 l9 g0 y0 g1 y1 g2 y2 g3 y3 g4 y4 g5 y5 g6 y6 g7 y7 g8 y8 g9 y9
 obtain⟨hh,hset⟩:=HH.out
 obtain⟨WD,hWD,hh3,hset3⟩:=letW hh hset
 rw[hWD]
 have qN2:=(N2.out.po_step HST.out.1).po_set (cs':=#[.int .u64 0,.int .u64 (n:Int),.slice R2 m2 d2,.bool false,.int .u64 0,.bool false,.int .u64 ((n1:Int)+1),.slice none 0 0,.slice none 0 0,.slice none 0 0]) (i:=3) rfl hset3
 simp only[List.set_cons_succ,List.set_cons_zero]at qN2
 replace N2:=Lib.hid qN2
 clear qN2
 have qN9:=(N9.out.po_step HST.out.1).po_set (cs':=#[.int .u64 0,.int .u64 (n:Int),.slice R2 m2 d2,.bool false,.int .u64 0,.bool false,.int .u64 ((n1:Int)+1),.slice none 0 0,.slice none 0 0,.slice none 0 0]) (i:=3) rfl hset3
 simp only[List.set_cons_succ,List.set_cons_zero]at qN9
 replace N9:=Lib.hid qN9
 clear qN9
 have qNB_:=(NB_.out.po_step HST.out.1).po_set (cs':=#[.int .u64 0,.int .u64 (n:Int),.slice R2 m2 d2,.bool false,.int .u64 0,.bool false,.int .u64 ((n1:Int)+1),.slice none 0 0,.slice none 0 0,.slice none 0 0]) (i:=3) rfl hset3
 simp only[List.set_cons_succ,List.set_cons_zero]at qNB_
 replace NB_:=Lib.hid qNB_
 clear qNB_
 have qNC:=(NC.out.po_step HST.out.1).po_set (cs':=#[.int .u64 0,.int .u64 (n:Int),.slice R2 m2 d2,.bool false,.int .u64 0,.bool false,.int .u64 ((n1:Int)+1),.slice none 0 0,.slice none 0 0,.slice none 0 0]) (i:=3) rfl hset3
 simp only[List.set_cons_succ,List.set_cons_zero]at qNC
 replace NC:=Lib.hid qNC
 clear qNC
 have g:=HG2.out.set (i:=3) rfl hset3 hh3
 simp only[List.set_cons_succ,List.set_cons_zero]at g
 replace HG:=Lib.hid g
 clear g
 replace HL:=Lib.hid HST.out.2.1
 replace HHD:=Lib.hid (HST.out.2.2.2 _ _ (Nat.le_refl _) HHD.out)
 have HC2:=Lib.hid (HST.out.2.2.1.trans HC.out)
 replace HC:=HC2
 clear hh hset hh3 hset3 hWD HH HG2 HST HC2
 have hled:=HL.out
 rw[Nat.zero_add,<-HR1.out]at hled
 replace HL:=Lib.hid hled
 clear hled
 have kl:=HG.out.k (i:=3) rfl
 have l0:=cell_of kl 0 _ rfl;have l1:=cell_of kl 1 _ rfl;have l2:=cell_of kl 2 _ rfl;have l3:=cell_of kl 3 _ rfl;have l4:=cell_of kl 4 _ rfl;have l5:=cell_of kl 5 _ rfl;have l6:=cell_of kl 6 _ rfl;have l7:=cell_of kl 7 _ rfl;have l8:=cell_of kl 8 _ rfl;have l9:=cell_of kl 9 _ rfl
 clear kl
 have ky:=HG.out.k (i:=0) rfl
 have y0:=cell_of ky 0 _ rfl;have y1:=cell_of ky 1 _ rfl;have y2:=cell_of ky 2 _ rfl
 clear ky
 have HCL:=Lib.hid (claim_v (n:=n) (R:=R2) (m:=m2) (d:=d2) (A1:=R9) (n1:=m9) (c1:=d9) (dp:=0) ((n1:Int)+1) 0 rfl rfl HL.out HC.out HG.out.sf NC.out.po_off.lq HL.out.zero (Nat.zero_le _) (by have:=HQ1.out.1;omega) HZB.out (by have:=HQ1.out.1;have:=HQ2.out.1;exact⟨by omega,HRR.out.2.2.1,by omega,by omega⟩))
 go_upto_region 13 with(go_at_call 19;refine HCL.out.mono ?_;rintro e w13 ⟨RD,mRD,dRD,rfl,hsf,hu,hlr⟩;have HH:=Lib.hid (And.intro hsf (And.intro hu hlr));clear hsf hu hlr)
 clear l0 l1 l2 l3 l4 l5 l6 l7 l8 l9 y0 y1 y2 HCL
 have ND:=Lib.hid (HH.out.2.2.po_of HG.out)
 obtain⟨WE,hWE⟩:∃W,W=w13.alloc (.cells #[.slice RD mRD dRD] 26):=⟨_,rfl⟩
 rw[<-hWE]
 have g:=(HG.out.bsd HH.out.2.1 HH.out.1).alloc #[.slice RD mRD dRD] 26
 rw[<-hWE]at g
 have qN2:=(N2.out.po_bs HH.out.2.1).po_alloc #[.slice RD mRD dRD] 26
 rw[<-hWE]at qN2
 have qN9:=(N9.out.po_bs HH.out.2.1).po_alloc #[.slice RD mRD dRD] 26
 rw[<-hWE]at qN9
 have qNB_:=(NB_.out.po_bs HH.out.2.1).po_alloc #[.slice RD mRD dRD] 26
 rw[<-hWE]at qNB_
 have qNC:=(NC.out.po_bs HH.out.2.1).po_alloc #[.slice RD mRD dRD] 26
 rw[<-hWE]at qNC
 have qND:=ND.out.po_alloc #[.slice RD mRD dRD] 26
 rw[<-hWE]at qND
 clear hWE
 replace HG:=Lib.hid g
 clear g
 replace N2:=Lib.hid qN2
 clear qN2
 replace N9:=Lib.hid qN9
 clear qN9
 replace NB_:=Lib.hid qNB_
 clear qNB_
 replace NC:=Lib.hid qNC
 clear qNC
 replace ND:=Lib.hid qND
 clear qND
 clear HH
 have ky:=HG.out.k (i:=1) rfl
 have y0:=cell_of ky 0 _ rfl;have y1:=cell_of ky 1 _ rfl;have y2:=cell_of ky 2 _ rfl
 clear ky
 have HFR:=Lib.hid (free_v (p:=0) (B1:=R9) (x1:=m9) (y1:=d9) (B2:=RC) (x2:=mC) (y2:=dC) 0 rfl HL.out (by decide) (by have:=HQ1.out.1;have:=HQ2.out.1;exact⟨by omega,HRR.out.2.2.1,by omega,by omega⟩) HG.out.sf)
 go_upto_region 14 with(go_at_call 42;refine HFR.out.mono ?_;rintro e w14 ⟨rfl,Fa5,hsf,st⟩;have HH:=Lib.hid (And.intro hsf st);clear hsf st)
 clear y0 y1 y2 HFR
 replace HG:=Lib.hid (HG.out.step HH.out.2 HH.out.1)
 replace N2:=Lib.hid (N2.out.po_step HH.out.2)
 replace N9:=Lib.hid (N9.out.po_step HH.out.2)
 replace NB_:=Lib.hid (NB_.out.po_step HH.out.2)
 replace NC:=Lib.hid (NC.out.po_step HH.out.2)
 replace ND:=Lib.hid (ND.out.po_step HH.out.2)
 clear HH
 replace HL:=Lib.hid (HL.out.free (p:=0) (HHD.out.free (Nat.zero_le _)))
 have hcc:=(F1.free_cc S4 0).trans HC.out
 obtain⟨S5,hS5⟩:∃S,S=F1.free S4 0:=⟨_,rfl⟩
 rw[<-hS5]at HG HL hcc
 replace HC:=Lib.hid hcc
 clear hcc hS5 HHD
 have kl:=HG.out.k (i:=4) rfl
 have l0:=cell_of kl 0 _ rfl;have l1:=cell_of kl 1 _ rfl;have l2:=cell_of kl 2 _ rfl;have l3:=cell_of kl 3 _ rfl;have l4:=cell_of kl 4 _ rfl;have l5:=cell_of kl 5 _ rfl;have l6:=cell_of kl 6 _ rfl;have l7:=cell_of kl 7 _ rfl;have l8:=cell_of kl 8 _ rfl;have l9:=cell_of kl 9 _ rfl
 clear kl
 have ky:=HG.out.k (i:=1) rfl
 have y0:=cell_of ky 0 _ rfl;have y1:=cell_of ky 1 _ rfl;have y2:=cell_of ky 2 _ rfl
 clear ky
 have HH:=Lib.hid (hold_v (dp:=0) (As:=RC) (ns:=mC) (cs:=dC) ((n1:Int)+1) 0 (n1:Int) rfl rfl rfl HL.out HG.out.sf N2.out.lq N9.out.lq HNN.out.1 HNN.out.2.1 HZB.out (by have:=HQ1.out.1;have:=HQ2.out.1;exact⟨by omega,HRR.out.2.2.1,by omega,by omega⟩))
 go_upto_region 15 with(go_at_call 25
                        refine HH.out.mono ?_
                        rintro e w15 ⟨RE,mE,dE,rfl,Fa6,hsf,st,hE⟩
                        have hg:=HG.out.step st hsf
                        have HG2:=Lib.hid hg
                        have NE:=Lib.hid (hE.po_hold HG.out)
                        obtain⟨g0,z0,g1,z1,g2,z2,hh,hset⟩:=put3 (hg.k (i:=1) rfl) (.slice R9 m9 d9) (.int .u64 (n1:Int)) (.slice RE mE dE)
                        have HX:=Lib.hid (And.intro hh hset)
                        have HST:=Lib.hid st
                        clear HH hsf st hE hg hh hset)
 clear l0 l1 l2 l3 l4 l5 l6 l7 l8 l9 y0 y1 y2 g0 z0 g1 z1 g2 z2
 obtain⟨hh,hset⟩:=HX.out
 obtain⟨WF,hWF,hh3,hset3⟩:=letW hh hset
 rw[hWF]
 clear NC
 have qN2:=(N2.out.po_step HST.out).po_set (cs':=#[.slice R9 m9 d9,.int .u64 (n1:Int),.slice RE mE dE]) (i:=1) rfl hset3
 simp only[List.set_cons_succ,List.set_cons_zero]at qN2
 replace N2:=Lib.hid qN2
 clear qN2
 have qN9:=(N9.out.po_step HST.out).po_set (cs':=#[.slice R9 m9 d9,.int .u64 (n1:Int),.slice RE mE dE]) (i:=1) rfl hset3
 simp only[List.set_cons_succ,List.set_cons_zero]at qN9
 replace N9:=Lib.hid qN9
 clear qN9
 have qNB_:=(NB_.out.po_step HST.out).po_set (cs':=#[.slice R9 m9 d9,.int .u64 (n1:Int),.slice RE mE dE]) (i:=1) rfl hset3
 simp only[List.set_cons_succ,List.set_cons_zero]at qNB_
 replace NB_:=Lib.hid qNB_
 clear qNB_
 have qND:=(ND.out.po_step HST.out).po_set (cs':=#[.slice R9 m9 d9,.int .u64 (n1:Int),.slice RE mE dE]) (i:=1) rfl hset3
 simp only[List.set_cons_succ,List.set_cons_zero]at qND
 replace ND:=Lib.hid qND
 clear qND
 have qNE:=NE.out.po_set (cs':=#[.slice R9 m9 d9,.int .u64 (n1:Int),.slice RE mE dE]) (i:=1) rfl hset3
 simp only[List.set_cons_succ,List.set_cons_zero]at qNE
 replace NE:=Lib.hid qNE
 clear qNE
 have g:=HG2.out.set (i:=1) rfl hset3 hh3
 simp only[List.set_cons_succ,List.set_cons_zero]at g
 replace HG:=Lib.hid g
 clear g hh hset hh3 hset3 hWF HX HG2 HST
 have hHeld:=HL.out.held
 replace HL:=Lib.hid (HL.out.refer (p:=n1) (Nat.le_refl _))
 have hcc:(F1.refer S5 n1).c=[]:=HC.out
 obtain⟨S6,hS6⟩:∃S,S=F1.refer S5 n1:=⟨_,rfl⟩
 rw[<-hS6]at HG HL hHeld hcc
 replace HC:=Lib.hid hcc
 have HHD:=Lib.hid hHeld
 clear hcc hS6 hHeld
 obtain⟨q2,hq2⟩:∃q2,q2=n1+n2:=⟨_,rfl⟩
 have HQQ:=Lib.hid hq2
 clear hq2
 have kl:=HG.out.k (i:=4) rfl
 have l0:=cell_of kl 0 _ rfl;have l1:=cell_of kl 1 _ rfl;have l2:=cell_of kl 2 _ rfl;have l3:=cell_of kl 3 _ rfl;have l4:=cell_of kl 4 _ rfl;have l5:=cell_of kl 5 _ rfl;have l6:=cell_of kl 6 _ rfl;have l7:=cell_of kl 7 _ rfl;have l8:=cell_of kl 8 _ rfl;have l9:=cell_of kl 9 _ rfl
 clear kl
 have HPAY:=Lib.hid (pay_v (cg:=c2) (q2:=q2) ((n1:Int)+1) ((q2:Int)+1) (by omega) HQQ.out rfl (HG.out.new HWP.out.2.2 HWP.out.1 HWP.out.2.1) (HG.out.gF HWP.out.2.2 HWP.out.1) HWP.out.2.1 HQ2.out.2.2 HQ2.out.2.1 HQ2.out.1 HL.out HG.out.sf HNN.out.1 HNN.out.2.1 (R:=R2) (m:=m2) (d:=d2) (by have:=HQ1.out.1;have:=HQ2.out.1;exact⟨by omega,by omega,by omega,by omega⟩) HRR.out.2.1)
 go_upto_region 16 with(go_at_call 41
                        refine HPAY.out.mono ?_
                        rintro e w16 ⟨rfl,Fa7,S7,hsf,st,hled,hcc,hheld⟩
                        have hg:=HG.out.step st hsf
                        have HG2:=Lib.hid hg
                        obtain⟨g0,y0,g1,y1,g2,y2,g3,y3,g4,y4,g5,y5,g6,y6,g7,y7,g8,y8,g9,y9,hh,hset⟩:=put10 (hg.k (i:=4) rfl) (.int .u64 0) (.int .u64 (n:Int)) (.slice R2 m2 d2) (.bool false) (.int .u64 0) (.bool false) (.int .u64 ((q2:Int)+1)) (.slice none 0 0) (.slice none 0 0) (.slice none 0 0)
                        have HH:=Lib.hid (And.intro hh hset)
                        have HST:=Lib.hid (And.intro st (And.intro hled (And.intro hcc hheld)))
                        clear HPAY hsf st hg hh hset hled hcc hheld)
 clear l0 l1 l2 l3 l4 l5 l6 l7 l8 l9 g0 y0 g1 y1 g2 y2 g3 y3 g4 y4 g5 y5 g6 y6 g7 y7 g8 y8 g9 y9
 obtain⟨hh,hset⟩:=HH.out
 obtain⟨WG,hWG,hh3,hset3⟩:=letW hh hset
 rw[hWG]
 have qN2:=(N2.out.po_step HST.out.1).po_set (cs':=#[.int .u64 0,.int .u64 (n:Int),.slice R2 m2 d2,.bool false,.int .u64 0,.bool false,.int .u64 ((q2:Int)+1),.slice none 0 0,.slice none 0 0,.slice none 0 0]) (i:=4) rfl hset3
 simp only[List.set_cons_succ,List.set_cons_zero]at qN2
 replace N2:=Lib.hid qN2
 clear qN2
 have qN9:=(N9.out.po_step HST.out.1).po_set (cs':=#[.int .u64 0,.int .u64 (n:Int),.slice R2 m2 d2,.bool false,.int .u64 0,.bool false,.int .u64 ((q2:Int)+1),.slice none 0 0,.slice none 0 0,.slice none 0 0]) (i:=4) rfl hset3
 simp only[List.set_cons_succ,List.set_cons_zero]at qN9
 replace N9:=Lib.hid qN9
 clear qN9
 have qNB_:=(NB_.out.po_step HST.out.1).po_set (cs':=#[.int .u64 0,.int .u64 (n:Int),.slice R2 m2 d2,.bool false,.int .u64 0,.bool false,.int .u64 ((q2:Int)+1),.slice none 0 0,.slice none 0 0,.slice none 0 0]) (i:=4) rfl hset3
 simp only[List.set_cons_succ,List.set_cons_zero]at qNB_
 replace NB_:=Lib.hid qNB_
 clear qNB_
 have qND:=(ND.out.po_step HST.out.1).po_set (cs':=#[.int .u64 0,.int .u64 (n:Int),.slice R2 m2 d2,.bool false,.int .u64 0,.bool false,.int .u64 ((q2:Int)+1),.slice none 0 0,.slice none 0 0,.slice none 0 0]) (i:=4) rfl hset3
 simp only[List.set_cons_succ,List.set_cons_zero]at qND
 replace ND:=Lib.hid qND
 clear qND
 have qNE:=(NE.out.po_step HST.out.1).po_set (cs':=#[.int .u64 0,.int .u64 (n:Int),.slice R2 m2 d2,.bool false,.int .u64 0,.bool false,.int .u64 ((q2:Int)+1),.slice none 0 0,.slice none 0 0,.slice none 0 0]) (i:=4) rfl hset3
 simp only[List.set_cons_succ,List.set_cons_zero]at qNE
 replace NE:=Lib.hid qNE
 clear qNE
 have g:=HG2.out.set (i:=4) rfl hset3 hh3
 simp only[List.set_cons_succ,List.set_cons_zero]at g
 replace HG:=Lib.hid g
 clear g
 replace HL:=Lib.hid HST.out.2.1
 replace HHD:=Lib.hid (HST.out.2.2.2 _ _ (Nat.le_refl _) HHD.out)
 have HC2:=Lib.hid (HST.out.2.2.1.trans HC.out)
 replace HC:=HC2
 clear hh hset hh3 hset3 hWG HH HG2 HST HC2
 have hled:=HL.out
 rw[<-HR2.out]at hled
 replace HL:=Lib.hid hled
 clear hled
 have kl:=HG.out.k (i:=4) rfl
 have l0:=cell_of kl 0 _ rfl;have l1:=cell_of kl 1 _ rfl;have l2:=cell_of kl 2 _ rfl;have l3:=cell_of kl 3 _ rfl;have l4:=cell_of kl 4 _ rfl;have l5:=cell_of kl 5 _ rfl;have l6:=cell_of kl 6 _ rfl;have l7:=cell_of kl 7 _ rfl;have l8:=cell_of kl 8 _ rfl;have l9:=cell_of kl 9 _ rfl
 clear kl
 have ky:=HG.out.k (i:=1) rfl
 have y0:=cell_of ky 0 _ rfl;have y1:=cell_of ky 1 _ rfl;have y2:=cell_of ky 2 _ rfl
 clear ky
 have HCL:=Lib.hid (claim_v (n:=n) (R:=R2) (m:=m2) (d:=d2) (A1:=R9) (n1:=m9) (c1:=d9) (dp:=n1) ((q2:Int)+1) (n1:Int) rfl rfl HL.out HC.out HG.out.sf NE.out.po_off.lq HHD.out.1 HRR.out.2.2.2.2 (by have:=HQ1.out.1;omega) HZB.out (by have:=HQ1.out.1;have:=HQ2.out.1;have:=HQQ.out;exact⟨by omega,HRR.out.2.2.2.1,by omega,by omega⟩))
 go_upto_region 17 with(go_at_call 19;refine HCL.out.mono ?_;rintro e w17 ⟨RF,mRF,dRF,rfl,hsf,hu,hlr⟩;have HH:=Lib.hid (And.intro hsf (And.intro hu hlr));clear hsf hu hlr)
 clear l0 l1 l2 l3 l4 l5 l6 l7 l8 l9 y0 y1 y2 HCL
 have NF:=Lib.hid (HH.out.2.2.po_of HG.out)
 obtain⟨WH,hWH⟩:∃W,W=w17.alloc (.cells #[.slice RF mRF dRF] 26):=⟨_,rfl⟩
 rw[<-hWH]
 have g:=(HG.out.bsd HH.out.2.1 HH.out.1).alloc #[.slice RF mRF dRF] 26
 rw[<-hWH]at g
 have qN2:=(N2.out.po_bs HH.out.2.1).po_alloc #[.slice RF mRF dRF] 26
 rw[<-hWH]at qN2
 have qN9:=(N9.out.po_bs HH.out.2.1).po_alloc #[.slice RF mRF dRF] 26
 rw[<-hWH]at qN9
 have qNB_:=(NB_.out.po_bs HH.out.2.1).po_alloc #[.slice RF mRF dRF] 26
 rw[<-hWH]at qNB_
 have qND:=(ND.out.po_bs HH.out.2.1).po_alloc #[.slice RF mRF dRF] 26
 rw[<-hWH]at qND
 have qNE:=(NE.out.po_bs HH.out.2.1).po_alloc #[.slice RF mRF dRF] 26
 rw[<-hWH]at qNE
 have qNF:=NF.out.po_alloc #[.slice RF mRF dRF] 26
 rw[<-hWH]at qNF
 clear hWH
 replace HG:=Lib.hid g
 clear g
 replace N2:=Lib.hid qN2
 clear qN2
 replace N9:=Lib.hid qN9
 clear qN9
 replace NB_:=Lib.hid qNB_
 clear qNB_
 replace ND:=Lib.hid qND
 clear qND
 replace NE:=Lib.hid qNE
 clear qNE
 replace NF:=Lib.hid qNF
 clear qNF
 clear HH
 have kl:=HG.out.k (i:=5) rfl
 have l0:=cell_of kl 0 _ rfl;have l1:=cell_of kl 1 _ rfl;have l2:=cell_of kl 2 _ rfl;have l3:=cell_of kl 3 _ rfl;have l4:=cell_of kl 4 _ rfl;have l5:=cell_of kl 5 _ rfl;have l6:=cell_of kl 6 _ rfl;have l7:=cell_of kl 7 _ rfl;have l8:=cell_of kl 8 _ rfl;have l9:=cell_of kl 9 _ rfl
 clear kl
 have ky:=HG.out.k (i:=3) rfl
 have y0:=cell_of ky 0 _ rfl;have y1:=cell_of ky 1 _ rfl;have y2:=cell_of ky 2 _ rfl
 clear ky
 have HCL:=Lib.hid (claim_v (n:=n) (R:=R2) (m:=m2) (d:=d2) (A1:=R9) (n1:=m9) (c1:=d9) (dp:=0) ((q2:Int)+1) 0 rfl rfl HL.out HC.out HG.out.sf NB_.out.po_off.lq HL.out.zero (Nat.zero_le _) (by have:=HQ1.out.1;omega) HZB.out (by have:=HQ1.out.1;have:=HQ2.out.1;have:=HQQ.out;exact⟨by omega,HRR.out.2.2.2.1,by omega,by omega⟩))
 go_upto_region 18 with(go_at_call 19;refine HCL.out.mono ?_;rintro e w18 ⟨RG,mRG,dRG,rfl,hsf,hu,hlr⟩;have HH:=Lib.hid (And.intro hsf (And.intro hu hlr));clear hsf hu hlr)
 clear l0 l1 l2 l3 l4 l5 l6 l7 l8 l9 y0 y1 y2 HCL
 have NG:=Lib.hid (HH.out.2.2.po_of HG.out)
 obtain⟨WI,hWI⟩:∃W,W=w18.alloc (.cells #[.slice RG mRG dRG] 26):=⟨_,rfl⟩
 rw[<-hWI]
 have g:=(HG.out.bsd HH.out.2.1 HH.out.1).alloc #[.slice RG mRG dRG] 26
 rw[<-hWI]at g
 have qN2:=(N2.out.po_bs HH.out.2.1).po_alloc #[.slice RG mRG dRG] 26
 rw[<-hWI]at qN2
 have qN9:=(N9.out.po_bs HH.out.2.1).po_alloc #[.slice RG mRG dRG] 26
 rw[<-hWI]at qN9
 have qNB_:=(NB_.out.po_bs HH.out.2.1).po_alloc #[.slice RG mRG dRG] 26
 rw[<-hWI]at qNB_
 have qND:=(ND.out.po_bs HH.out.2.1).po_alloc #[.slice RG mRG dRG] 26
 rw[<-hWI]at qND
 have qNE:=(NE.out.po_bs HH.out.2.1).po_alloc #[.slice RG mRG dRG] 26
 rw[<-hWI]at qNE
 have qNF:=(NF.out.po_bs HH.out.2.1).po_alloc #[.slice RG mRG dRG] 26
 rw[<-hWI]at qNF
 have qNG:=NG.out.po_alloc #[.slice RG mRG dRG] 26
 rw[<-hWI]at qNG
 clear hWI
 replace HG:=Lib.hid g
 clear g
 replace N2:=Lib.hid qN2
 clear qN2
 replace N9:=Lib.hid qN9
 clear qN9
 replace NB_:=Lib.hid qNB_
 clear qNB_
 replace ND:=Lib.hid qND
 clear qND
 replace NE:=Lib.hid qNE
 clear qNE
 replace NF:=Lib.hid qNF
 clear qNF
 replace NG:=Lib.hid qNG
 clear qNG
 clear HH
 have hle:=F1.split_le z r1 r2 (10 ^ 36) HRR.out.2.2.2.2 (by decide)
 have hlt:=F1.split_lt z r1 r2 (10 ^ 36) HRR.out.2.2.2.2 (by decide)
 have hzr:z*(r2-0) / 10 ^ 36<Gn.B ^ 60:=by
  have h1:=Nat.mul_lt_mul'' HZB.out (show r2-0<Gn.B ^ 30 from HRR.out.2.2.2.1)
  rw[<-Nat.pow_add]at h1
  exact Nat.lt_of_le_of_lt (Nat.div_le_self _ _) h1
 obtain⟨xa,hxa⟩:∃xa,xa=z*(r1-0) / 10 ^ 36:=⟨_,rfl⟩
 obtain⟨xb,hxb⟩:∃xb,xb=z*(r2-r1) / 10 ^ 36:=⟨_,rfl⟩
 obtain⟨xc,hxc⟩:∃xc,xc=z*(r2-0) / 10 ^ 36:=⟨_,rfl⟩
 rw[<-hxa,<-hxb,<-hxc]at hle hlt
 rw[<-hxc]at hzr
 rw[<-hxa]at ND
 rw[<-hxb]at NF
 rw[<-hxc]at NG
 have h60:Gn.B ^ 60+1<=Gn.B ^ 1000:=Nat.le_trans (show Gn.B ^ 60+1<=Gn.B ^ 61 by decide) (@pow_le 61 1000 (by omega))
 have HX:=Lib.hid (show xa+xb<Gn.B ^ 1000/\xa+xb<=xc/\xc<=xa+xb+1/\xa+xb+1<Gn.B ^ 1000 from⟨by omega,hle,hlt,by omega⟩)
 clear hle hlt hzr hxa hxb hxc h60 HRR HR1 HR2
 clear N2
 clear N9
 clear NB_
 clear NE
 have kl:=HG.out.k (i:=2) rfl
 have l0:=cell_of kl 0 _ rfl
 clear kl
 have ky:=HG.out.k (i:=1) rfl
 have y0:=cell_of ky 0 _ rfl
 clear ky
 have HAD:=Lib.hid (dadd_c ND.out.lq NF.out.lq HX.out.1)
 go_upto_region 19 with(go_at_call 36;refine HAD.out.mono ?_;rintro e w19 ⟨RH,mRH,dRH,rfl,hlr,hn⟩;have HH:=Lib.hid (And.intro hlr hn);clear hlr hn)
 clear l0 y0 HAD
 have NH:=Lib.hid (HH.out.1.po_of HG.out)
 obtain⟨WJ,hWJ⟩:∃W,W=w19.alloc (.cells #[.slice RH mRH dRH] 26):=⟨_,rfl⟩
 rw[<-hWJ]
 have g:=(HG.out.nw HH.out.2).alloc #[.slice RH mRH dRH] 26
 rw[<-hWJ]at g
 have qND:=(ND.out.po_new HH.out.2).po_alloc #[.slice RH mRH dRH] 26
 rw[<-hWJ]at qND
 have qNF:=(NF.out.po_new HH.out.2).po_alloc #[.slice RH mRH dRH] 26
 rw[<-hWJ]at qNF
 have qNG:=(NG.out.po_new HH.out.2).po_alloc #[.slice RH mRH dRH] 26
 rw[<-hWJ]at qNG
 have qNH:=NH.out.po_alloc #[.slice RH mRH dRH] 26
 rw[<-hWJ]at qNH
 clear hWJ
 replace HG:=Lib.hid g
 clear g
 replace ND:=Lib.hid qND
 clear qND
 replace NF:=Lib.hid qNF
 clear qNF
 replace NG:=Lib.hid qNG
 clear qNG
 replace NH:=Lib.hid qNH
 clear qNH
 clear HH
 obtain⟨xs,hxs⟩:∃xs,xs=xa+xb:=⟨_,rfl⟩
 rw[<-hxs]at NH HX
 clear hxs
 obtain⟨D1,hD1⟩:∃D1,D1=cmpI (xs:Int) (xc:Int):=⟨_,rfl⟩
 obtain⟨D2,hD2⟩:∃D2,D2=cmpI (xc:Int) ((xs+1:Nat):Int):=⟨_,rfl⟩
 have hd1:decide (D1<=(0:Int))=true:=by rw[hD1];exact cmp_leq HX.out.2.1
 have hd2:decide (D2<=(0:Int))=true:=by rw[hD2];exact cmp_leq HX.out.2.2.1
 have hC1:=fun W' (hn:New WJ W')=>dcmp_c (NH.out.lq.new hn) (NG.out.lq.new hn)
 rw[<-hD1]at hC1
 have HC1:=Lib.hid hC1;have HD2:=Lib.hid hD2
 clear hC1 hD1 hD2
 have kb:=HG.out.k (i:=0) rfl
 have kc:=HG.out.k (i:=1) rfl
 have HKJ:=Lib.hid (fun W' (hn:New WJ W')=>(⟨(hn.cell (a:=⟨w19.heap.size,0,none⟩) (Array.getElem?_eq_some_iff.1 kb).1 id).trans (cell_of kb 0 _ rfl),(hn.cell (a:=⟨w18.heap.size,0,none⟩) (Array.getElem?_eq_some_iff.1 kc).1 id).trans (cell_of kc 0 _ rfl)⟩:W'.cell? ⟨w19.heap.size,0,none⟩=some (.slice RH mRH dRH)/\W'.cell? ⟨w18.heap.size,0,none⟩=some (.slice RG mRG dRG)))
 obtain⟨s1,s2⟩:=HKJ.out WJ (Upd.refl _ _)
 clear kb kc
 go_region_held (fun w'=>w'.cell? ⟨w19.heap.size,0,none⟩=some (.slice RH mRH dRH)/\w'.cell? ⟨w18.heap.size,0,none⟩=some (.slice RG mRG dRG)) (go_keep) (first
  | (go_at_call_of 37 (Value.agg #[Value.slice RH mRH dRH])
     refine(HC1.out _ (by first|exact(Upd.refl _ WJ).drew|exact(Upd.refl _ WJ).drewN _)).mono ?_
     rintro e wa ⟨rfl,hna⟩
     have na:New WJ wa:=by first|exact(Upd.refl _ WJ).drew.trans hna|exact((Upd.refl _ WJ).drewN _).trans hna
     obtain⟨t1,t2⟩:=HKJ.out _ na
     have E1:=Lib.hid na
     clear hna na s1 s2)
  | (go_at_call 30
     refine(nof 1 (by decide) _).mono ?_
     rintro e wb ⟨Ak,mk,ck,rfl,hrb,hnb⟩
     have nb:New WJ wb:=E1.out.trans hnb
     obtain⟨u1,u2⟩:=HKJ.out _ nb
     have E2:=Lib.hid (And.intro hrb nb)
     clear hrb hnb nb t1 t2)
  | (go_at_call 36
     refine(dadd_c (NH.out.lq.new E2.out.2) E2.out.1.lq HX.out.2.2.2).mono ?_
     rintro e wc ⟨Al,ml,cl,rfl,hrc,hnc⟩
     have nc:New WJ wc:=E2.out.2.trans hnc
     obtain⟨v1,v2⟩:=HKJ.out _ nc
     have E3:=Lib.hid (And.intro hrc nc)
     clear hrc hnc nc u1 u2)
  | (go_at_call_of 37 (Value.agg #[Value.slice RG mRG dRG])
     refine(dcmp_c (NG.out.lq.new E3.out.2) E3.out.1.lq).mono ?_
     rw[<-HD2.out]
     rintro e wd ⟨rfl,hnd⟩
     have nd:New WJ wd:=E3.out.2.trans hnd
     obtain⟨x1,x2⟩:=HKJ.out _ nd
     have E4:=Lib.hid nd
     clear hnd nd v1 v2))
 go_wp2
 go_ret
 exact⟨by simp,HG.out.new HW.out.1 HW.out.2.1 HW.out.2.2 |>.trans E4.out⟩
end Go.Proofs.YtbhnjkegkadodaaGreatDoor

/- Part of the proof. -/
import Derived.Test.YtbhnjkegkadodaaGreatDoorG41
import Derived.Test.YtbhnjkegkadodaaGreatDoorG45
set_option linter.all false
set_option maxRecDepth 100000
set_option maxHeartbeats 8000000
namespace Go.Proofs.YtbhnjkegkadodaaGreatDoor
open Go Go.RowKit Go.Proofs Gl
theorem gs_lt {w:World} {A:Option Addr} {gs:List Nat} (h:Gs w A gs):∀g ∈ gs,g<Gn.B ^ 4:=fun g hg=>by
 obtain⟨j,hj⟩:=List.getElem?_of_mem hg
 obtain⟨b,off,A,n,c,_,_,hn,hl⟩:=h j g hj
 exact zqL hl.lt (zbj hn)
theorem sumq_le {n:Nat}:∀ {gs:List Nat},(∀g ∈ gs,g<Gn.B ^ 4)->sumq n gs<=gs.length*Gn.B ^ 4
 | [],_=>by simp[sumq]
 | g :: gs,h=>by
   have h1:=sumq_le (n:=n) (fun x hx=>h x (List.mem_cons_of_mem g hx))
   have h2:=h g List.mem_cons_self
   have h3:g / n<=g:=Nat.div_le_self _ _
   have e:sumq n (g :: gs)=g / n+sumq n gs:=by simp[sumq]
   rw[e,List.length_cons,Nat.add_mul]
   omega
theorem cmp_geq {x y:Nat} (h:y<=x):decide (cmpI x y ≥ (0:Int))=true:=by
 unfold cmpI;split<;>first|rfl|omega|(split<;>first|rfl|omega)
theorem sumq0:∀gs:List Nat,sumq 0 gs=0
 | []=>rfl
 | g :: gs=>by have:=sumq0 gs;unfold sumq at this ⊢;rw[List.map_cons,List.sum_cons,this,Nat.div_zero]
theorem Gs.new {w w':World} {A:Option Addr} {gs:List Nat} (h:Gs w A gs) (hn:New w w'):Gs w' A gs:=fun j g hg=>by
 obtain⟨b,off,A,n,c,e,hc,h4,hl⟩:=h j g hg
 exact⟨b,off,A,n,c,e,(hn.cell (a:=⟨b,off+j,none⟩) (zqB w _ hc) id).trans hc,h4,(hl.new hn).mono (fun b _ hb=>zqL hb hn.size)⟩
theorem alike_c {w:World} {tok part n1 c1 n2 c2:Nat} {cb:Bool} {A1 A2:Option Addr} (htok:tok<18446744073709551616) (hpart:part<18446744073709551616) (hl:Laid3 w) (hg1:Giv w A1 n1) (hg2:Giv w A2 n2):
 Calls Tryz.prog 8 #[.int .u64 (tok:Int),.int .u64 (part:Int),.slice A1 n1 c1,.slice A2 n2 c2,.bool cb] w fun e w'=>e=.returned (.bool true)/\New w w':=by
 obtain⟨t3,ht3⟩:=hl
 have HKN:=zqH (known_c (w:=w) ⟨t3,ht3⟩);have HG1:=zqH hg1;have HG2:=zqH hg2;have HTOK:=zqH (And.intro htok hpart)
 clear ht3 hg1 hg2 htok hpart
 go_enter Tryz.func8,Tryz.ntmps8
 go_upto_region 3 with(go_at_call 9;refine HKN.out.mono ?_;rintro e W2 ⟨rfl,hf2⟩;have HN2:=zqH (zay hf2);clear HKN hf2)
 by_cases hP1:Short W2 A1 n1
 case neg=>
  have HS1:=zqH (lshort_no (cg:=c1) (HG1.out.new HN2.out) hP1)
  go_wp2_with (go_at_call 38;refine HS1.out.mono ?_;rintro e w3 ⟨rfl,rfl⟩)
  go_ret
  exact⟨by simp,HN2.out⟩
 have HS1:=zqH (lshort_yes (cg:=c1) (HG1.out.new HN2.out) hP1)
 by_cases hP2:Short W2 A2 n2
 case neg=>
  have HS2:=zqH (lshort_no (cg:=c2) (HG2.out.new HN2.out) hP2)
  go_wp2_with (first
   | (go_at_call_of 38 (Value.slice A1 n1 c1);refine HS1.out.mono ?_;rintro e w3 ⟨rfl,rfl⟩)
   | (go_at_call_of 38 (Value.slice A2 n2 c2);refine HS2.out.mono ?_;rintro e w3 ⟨rfl,rfl⟩))
  go_ret
  exact⟨by simp,HN2.out⟩
 have HS2:=zqH (lshort_yes (cg:=c2) (HG2.out.new HN2.out) hP2)
 have HP1:=zqH hP1;have HP2:=zqH hP2
 clear hP1 hP2 HG1 HG2
 go_upto_region 5 with(first
  | (go_at_call_of 38 (Value.slice A1 n1 c1);refine HS1.out.mono ?_;rintro e w3 ⟨rfl,rfl⟩)
  | (go_at_call_of 38 (Value.slice A2 n2 c2);refine HS2.out.mono ?_;rintro e w3 ⟨rfl,rfl⟩))
 obtain⟨n,hn⟩:∃n,n=1+tok % 1000000000000000000:=⟨_,rfl⟩
 have hn0:0<n:=by omega
 have hn64:n<18446744073709551616:=by have:=Nat.mod_lt tok (show 0<1000000000000000000 by decide);omega
 obtain⟨tt,htt⟩:∃tt,tt=1+part % 30:=⟨_,rfl⟩
 have htt2:tt<=30:=by have:=Nat.mod_lt part (show 0<30 by decide);omega
 have hni:1+(tok:Int) % 1000000000000000000=(n:Int):=by rw[hn];omega
 have htti:1+(part:Int) % 30=(tt:Int):=by rw[htt];omega
 have HNN:=zqH (And.intro hn0 (And.intro hn64 htt2));have HTT:=zqH htti
 have HNI:=zqH hni
 clear hn hni hn0 hn64 htt htti htt2
 go_upto_region 6 with fail
 rw[HNI.out]
 clear HNI
 go_upto_region 8 with(first
  | (go_at_call 12;refine knew_f.mono ?_;rintro e w3 ⟨bs,F,rfl,hsf3,hn3',hF3,hbs3⟩;have H3:=zqH (And.intro hsf3 (And.intro hn3' (And.intro hF3 hbs3)));clear hsf3 hn3' hF3 hbs3)
  | (go_at_call 24;refine(of_c (w:=w3) n HNN.out.2.1).mono ?_;rintro e w4 ⟨R2,m2,d2,rfl,hr4,hn4⟩;have H4:=zqH (And.intro hr4 hn4);clear hr4 hn4)
  | (go_at_call 13;refine(start_led (H3.out.1.new H4.out.2)).mono ?_;rintro e w5 ⟨rfl,Fa1,hsf5,st5⟩;have H5:=zqH (And.intro hsf5 st5);clear hsf5 st5))
 have HW:=zqH (show New w w3/\(∀b,F b->w.heap.size<=b)/\w.heap.size<=bs from⟨HN2.out.trans H3.out.2.1,fun b hb=>Nat.le_trans HN2.out.size (H3.out.2.2.1 b hb),Nat.le_trans HN2.out.size H3.out.2.2.2⟩)
 have HWP:=zqH (And.intro H3.out.2.2.1 (And.intro H3.out.2.2.2 H3.out.2.1))
 have HG:=zqH ((LG.begin H3.out.1).nw H4.out.2)
 have N2:=zqH (H4.out.1.po_of (LG.begin H3.out.1))
 obtain⟨W6,hW6⟩:∃W,W=w5.alloc (.cells #[.int .u64 0,.int .u64 (n:Int),.slice R2 m2 d2,.bool false,.int .u64 0,.bool false,.int .u64 1,.slice none 0 0,.slice none 0 0,.slice none 0 0] 28):=⟨_,rfl⟩
 rw[<-hW6]
 have g:=(HG.out.step H5.out.2 H5.out.1).alloc #[.int .u64 0,.int .u64 (n:Int),.slice R2 m2 d2,.bool false,.int .u64 0,.bool false,.int .u64 1,.slice none 0 0,.slice none 0 0,.slice none 0 0] 28
 rw[<-hW6]at g
 have vg:=(N2.out.po_step H5.out.2).po_alloc #[.int .u64 0,.int .u64 (n:Int),.slice R2 m2 d2,.bool false,.int .u64 0,.bool false,.int .u64 1,.slice none 0 0,.slice none 0 0,.slice none 0 0] 28
 rw[<-hW6]at vg
 clear hW6
 replace HG:=zqH g
 clear g
 replace N2:=zqH vg
 clear vg
 clear H3 H4 H5
 have hU:n*10 ^ 36<Gn.B ^ 30:=by
  have h1:n*10 ^ 36<18446744073709551616*10 ^ 36:=Nat.mul_lt_mul_of_pos_right HNN.out.2.1 (by decide)
  exact zqL h1 (by decide)
 have htb:tt<Gn.B ^ 30:=Nat.lt_of_le_of_lt HNN.out.2.2 (by decide)
 have HUT:=zqH (pow5 hU htb)
 have hzb:n*10 ^ 36*tt / 100<Gn.B ^ 30:=by
  have h1:n*10 ^ 36*tt<=n*10 ^ 36*100:=Nat.mul_le_mul_left _ (by have:=HNN.out.2.2;omega)
  exact Nat.lt_of_le_of_lt (Nat.le_trans (Nat.div_le_div_right h1) (by rw[Nat.mul_div_cancel _ (by decide:0<100)];exact Nat.le_refl _)) hU
 obtain⟨z,hz⟩:∃z,z=n*10 ^ 36*tt / 100:=⟨_,rfl⟩
 have hzz:z+z<Gn.B ^ 30:=by
  have h1:n*10 ^ 36*tt<=n*10 ^ 36*30:=Nat.mul_le_mul_left _ HNN.out.2.2
  rw[hz];omega
 rw[<-hz]at hzb
 have HZ:=zqH hz;have HZB:=zqH hzb;have HZZ:=zqH hzz
 clear hz hzb hU htb hzz
 go_upto_region 9 with(first
  | (go_at_call 24;refine(of_c n HNN.out.2.1).mono ?_;rintro e w7 ⟨R7,m7,d7,rfl,hr7,hn7⟩;have H7:=zqH (And.intro hr7 hn7);have hti:=HTT.out;clear hr7 hn7)
  | (go_at_call 40;(try rw[hti]);refine(times_c (w:=w7) (t:=tt) H7.out.1.lq (by have:=HNN.out.2.2;omega) HUT.out).mono ?_;rintro e w8 ⟨R8,m8,d8,rfl,hr8,hn8⟩;have H8:=zqH (And.intro hr8 hn8);clear hr8 hn8)
  | (go_at_call 39;refine(over_c (w:=w8) (t:=100) H8.out.1.lq (by decide) (by decide)).mono ?_;rintro e w9 ⟨R9,m9,d9,rfl,hr9,hn9⟩;have H9:=zqH (And.intro hr9 hn9);clear hr9 hn9))
 have n79:New W6 w9:=(H7.out.2.trans H8.out.2).trans H9.out.2
 have N9:Hid (LN (PO Fa1 bs _) w9 R9 m9 d9 z):=zqH (HZ.out▸(H9.out.1.po_of (HG.out.nw (H7.out.2.trans H8.out.2))))
 replace HG:=zqH (HG.out.nw n79)
 replace N2:=zqH (N2.out.po_new n79)
 clear n79 H7 H8 H9
 obtain⟨WA,hWA⟩:∃W,W=w9.alloc (.cells #[.slice R9 m9 d9] 26):=⟨_,rfl⟩
 rw[<-hWA]
 have g:=(HG.out).alloc #[.slice R9 m9 d9] 26
 rw[<-hWA]at g
 have vg:=(N2.out).po_alloc #[.slice R9 m9 d9] 26
 rw[<-hWA]at vg
 have vh:=(N9.out).po_alloc #[.slice R9 m9 d9] 26
 rw[<-hWA]at vh
 clear hWA
 replace HG:=zqH g
 clear g
 replace N2:=zqH vg
 clear vg
 replace N9:=zqH vh
 clear vh
 have HL:=zqH led0
 have HC:Hid ((F1.refer ⟨[],[]⟩ 0).c=[]):=zqH rfl
 have HBD:=zqH (show(0:Nat)<=100000/\0<Gn.B ^ 30/\1<=100000/\1<=100000 from⟨by decide,by decide,by decide,by decide⟩)
 have kl:=HG.out.k (i:=1) rfl
 obtain⟨l0,l1,l2,l3,l4,l5,l6,l7,l8,l9⟩:=zqC kl
 clear kl
 have ky:=HG.out.k (i:=0) rfl
 have y0:=zaa ky 0 _ rfl
 clear ky
 have HH:=zqH (hold_v (dp:=0) (As:=none) (ns:=0) (cs:=0) 1 0 0 rfl rfl rfl HL.out HG.out.sf N2.out.lq N9.out.lq HNN.out.1 HNN.out.2.1 HZB.out HBD.out)
 go_upto_region 10 with(go_at_call 25;refine HH.out.mono ?_;rintro e w10 ⟨RB,mB,dB,rfl,Fa2,hsf10,st10,hB⟩;have H10:=zqH (And.intro hsf10 (And.intro st10 hB));clear hsf10 st10 hB)
 clear l0 l1 l2 l3 l4 l5 l6 l7 l8 l9 y0 HH
 have NB_:=zqH (H10.out.2.2.po_hold HG.out)
 obtain⟨WB,hWB⟩:∃W,W=w10.alloc (.cells #[.slice R9 m9 d9,.int .u64 0,.slice RB mB dB] 55):=⟨_,rfl⟩
 rw[<-hWB]
 have g:=(HG.out.step H10.out.2.1 H10.out.1).alloc #[.slice R9 m9 d9,.int .u64 0,.slice RB mB dB] 55
 rw[<-hWB]at g
 have vg:=(N2.out.po_step H10.out.2.1).po_alloc #[.slice R9 m9 d9,.int .u64 0,.slice RB mB dB] 55
 rw[<-hWB]at vg
 have vh:=(N9.out.po_step H10.out.2.1).po_alloc #[.slice R9 m9 d9,.int .u64 0,.slice RB mB dB] 55
 rw[<-hWB]at vh
 have va:=NB_.out.po_alloc #[.slice R9 m9 d9,.int .u64 0,.slice RB mB dB] 55
 rw[<-hWB]at va
 clear hWB
 replace HG:=zqH g
 clear g
 replace N2:=zqH vg
 clear vg
 replace N9:=zqH vh
 clear vh
 replace NB_:=zqH va
 clear va
 clear H10
 replace HL:=zqH (HL.out.refer (p:=0) (Nat.le_refl _))
 replace HC:Hid ((F1.refer (F1.refer ⟨[],[]⟩ 0) 0).c=[]):=zqH rfl
 replace HBD:=zqH (show(0:Nat)<=100000/\0<Gn.B ^ 30/\1+1<=100000/\1+1<=100000 from⟨by decide,by decide,by decide,by decide⟩)
 have kl:=HG.out.k (i:=2) rfl
 obtain⟨l0,l1,l2,l3,l4,l5,l6,l7,l8,l9⟩:=zqC kl
 clear kl
 have ky:=HG.out.k (i:=1) rfl
 have y0:=zaa ky 0 _ rfl
 clear ky
 have HH:=zqH (hold_v (dp:=0) (As:=none) (ns:=0) (cs:=0) 1 0 0 rfl rfl rfl HL.out HG.out.sf N2.out.lq N9.out.lq HNN.out.1 HNN.out.2.1 HZB.out HBD.out)
 go_upto_region 11 with(go_at_call 25;refine HH.out.mono ?_;rintro e w11 ⟨RC,mC,dC,rfl,Fa3,hsf11,st11,hC⟩;have H11:=zqH (And.intro hsf11 (And.intro st11 hC));clear hsf11 st11 hC)
 clear l0 l1 l2 l3 l4 l5 l6 l7 l8 l9 y0 HH
 have NC:=zqH (H11.out.2.2.po_hold HG.out)
 obtain⟨WC,hWC⟩:∃W,W=w11.alloc (.cells #[.slice R9 m9 d9,.int .u64 0,.slice RC mC dC] 55):=⟨_,rfl⟩
 rw[<-hWC]
 have g:=(HG.out.step H11.out.2.1 H11.out.1).alloc #[.slice R9 m9 d9,.int .u64 0,.slice RC mC dC] 55
 rw[<-hWC]at g
 have vg:=(N2.out.po_step H11.out.2.1).po_alloc #[.slice R9 m9 d9,.int .u64 0,.slice RC mC dC] 55
 rw[<-hWC]at vg
 have vh:=(N9.out.po_step H11.out.2.1).po_alloc #[.slice R9 m9 d9,.int .u64 0,.slice RC mC dC] 55
 rw[<-hWC]at vh
 have va:=(NB_.out.po_step H11.out.2.1).po_alloc #[.slice R9 m9 d9,.int .u64 0,.slice RC mC dC] 55
 rw[<-hWC]at va
 have vi:=NC.out.po_alloc #[.slice R9 m9 d9,.int .u64 0,.slice RC mC dC] 55
 rw[<-hWC]at vi
 clear hWC
 replace HG:=zqH g
 clear g
 replace N2:=zqH vg
 clear vg
 replace N9:=zqH vh
 clear vh
 replace NB_:=zqH va
 clear va
 replace NC:=zqH vi
 clear vi
 clear H11
 have hHeld:=HL.out.held
 replace HL:=zqH (HL.out.refer (p:=0) (Nat.le_refl _))
 obtain⟨S3,hS3⟩:∃S,S=F1.refer (F1.refer (F1.refer ⟨[],[]⟩ 0) 0) 0:=⟨_,rfl⟩
 have hc3:S3.c=[]:=by rw[hS3];rfl
 rw[<-hS3]at HG HL hHeld
 clear hS3
 replace HC:=zqH hc3
 have HHD:=zqH hHeld
 clear hc3 hHeld HBD
 have HKJ:=zqH (fun(w':World) (k5:w'.heap[w5.heap.size]?=some (.cells #[.int .u64 0,.int .u64 (n:Int),.slice R2 m2 d2,.bool false,.int .u64 0,.bool false,.int .u64 1,.slice none 0 0,.slice none 0 0,.slice none 0 0] 28 (0,0))) (k9:w'.heap[w9.heap.size]?=some (.cells #[.slice R9 m9 d9] 26 (0,0)))=>(⟨zaa k5 0 _ rfl,zaa k5 1 _ rfl,zaa k5 2 _ rfl,zaa k5 3 _ rfl,zaa k5 4 _ rfl,zaa k5 5 _ rfl,zaa k5 6 _ rfl,zaa k5 7 _ rfl,zaa k5 8 _ rfl,zaa k5 9 _ rfl,zaa k9 0 _ rfl⟩:w'.cell? ⟨w5.heap.size,0,none⟩=some (.int .u64 0)/\w'.cell? ⟨w5.heap.size,1,none⟩=some (.int .u64 (n:Int))/\w'.cell? ⟨w5.heap.size,2,none⟩=some (.slice R2 m2 d2)/\w'.cell? ⟨w5.heap.size,3,none⟩=some (.bool false)/\w'.cell? ⟨w5.heap.size,4,none⟩=some (.int .u64 0)/\w'.cell? ⟨w5.heap.size,5,none⟩=some (.bool false)/\w'.cell? ⟨w5.heap.size,6,none⟩=some (.int .u64 1)/\w'.cell? ⟨w5.heap.size,7,none⟩=some (.slice none 0 0)/\w'.cell? ⟨w5.heap.size,8,none⟩=some (.slice none 0 0)/\w'.cell? ⟨w5.heap.size,9,none⟩=some (.slice none 0 0)/\w'.cell? ⟨w9.heap.size,0,none⟩=some (.slice R9 m9 d9)))
 have HBD:=zqH (show(0:Nat)<=100000/\0<Gn.B ^ 30/\1+1+1<=100000/\1+1+1<=100000 from⟨by decide,by decide,by decide,by decide⟩)
 go_cut [18] (fun s18 wx=>∃(g:Nat) (RZ:Option Addr) (mZ dZ:Nat) (RD:Option Addr) (mD dD:Nat),s18=.pointer (some ⟨g,0,none⟩)/\Hid (∃Fa4,LG w3 F Fa4 bs (F1.ents (F1.refer S3 0)) ((g,55,#[.slice RZ mZ dZ,.int .u64 0,.slice RD mD dD]) :: [(w11.heap.size,55,#[.slice R9 m9 d9,.int .u64 0,.slice RC mC dC]),(w10.heap.size,55,#[.slice R9 m9 d9,.int .u64 0,.slice RB mB dB]),(w9.heap.size,26,#[.slice R9 m9 d9]),(w5.heap.size,28,#[.int .u64 0,.int .u64 (n:Int),.slice R2 m2 d2,.bool false,.int .u64 0,.bool false,.int .u64 1,.slice none 0 0,.slice none 0 0,.slice none 0 0])]) wx/\LN (PO Fa4 bs ((g,55,#[.slice RZ mZ dZ,.int .u64 0,.slice RD mD dD]) :: [(w11.heap.size,55,#[.slice R9 m9 d9,.int .u64 0,.slice RC mC dC]),(w10.heap.size,55,#[.slice R9 m9 d9,.int .u64 0,.slice RB mB dB]),(w9.heap.size,26,#[.slice R9 m9 d9]),(w5.heap.size,28,#[.int .u64 0,.int .u64 (n:Int),.slice R2 m2 d2,.bool false,.int .u64 0,.bool false,.int .u64 1,.slice none 0 0,.slice none 0 0,.slice none 0 0])])) wx R2 m2 d2 (n*10 ^ 36)/\LN (PO Fa4 bs ((g,55,#[.slice RZ mZ dZ,.int .u64 0,.slice RD mD dD]) :: [(w11.heap.size,55,#[.slice R9 m9 d9,.int .u64 0,.slice RC mC dC]),(w10.heap.size,55,#[.slice R9 m9 d9,.int .u64 0,.slice RB mB dB]),(w9.heap.size,26,#[.slice R9 m9 d9]),(w5.heap.size,28,#[.int .u64 0,.int .u64 (n:Int),.slice R2 m2 d2,.bool false,.int .u64 0,.bool false,.int .u64 1,.slice none 0 0,.slice none 0 0,.slice none 0 0])])) wx R9 m9 d9 z/\LN (PO Fa4 bs ((g,55,#[.slice RZ mZ dZ,.int .u64 0,.slice RD mD dD]) :: [(w11.heap.size,55,#[.slice R9 m9 d9,.int .u64 0,.slice RC mC dC]),(w10.heap.size,55,#[.slice R9 m9 d9,.int .u64 0,.slice RB mB dB]),(w9.heap.size,26,#[.slice R9 m9 d9]),(w5.heap.size,28,#[.int .u64 0,.int .u64 (n:Int),.slice R2 m2 d2,.bool false,.int .u64 0,.bool false,.int .u64 1,.slice none 0 0,.slice none 0 0,.slice none 0 0])])) wx RB mB dB z/\LN (PO Fa4 bs ((g,55,#[.slice RZ mZ dZ,.int .u64 0,.slice RD mD dD]) :: [(w11.heap.size,55,#[.slice R9 m9 d9,.int .u64 0,.slice RC mC dC]),(w10.heap.size,55,#[.slice R9 m9 d9,.int .u64 0,.slice RB mB dB]),(w9.heap.size,26,#[.slice R9 m9 d9]),(w5.heap.size,28,#[.int .u64 0,.int .u64 (n:Int),.slice R2 m2 d2,.bool false,.int .u64 0,.bool false,.int .u64 1,.slice none 0 0,.slice none 0 0,.slice none 0 0])])) wx RC mC dC z/\LN (PO Fa4 bs ((g,55,#[.slice RZ mZ dZ,.int .u64 0,.slice RD mD dD]) :: [(w11.heap.size,55,#[.slice R9 m9 d9,.int .u64 0,.slice RC mC dC]),(w10.heap.size,55,#[.slice R9 m9 d9,.int .u64 0,.slice RB mB dB]),(w9.heap.size,26,#[.slice R9 m9 d9]),(w5.heap.size,28,#[.int .u64 0,.int .u64 (n:Int),.slice R2 m2 d2,.bool false,.int .u64 0,.bool false,.int .u64 1,.slice none 0 0,.slice none 0 0,.slice none 0 0])])) wx RD mD dD (z+z)))
 case first=>
  have hg:=HG.out.nw ((Upd.refl _ WC).drew)
  have G0:=zqH hg
  have PN20:=zqH (N2.out.po_new ((Upd.refl _ WC).drew))
  have PN90:=zqH (N9.out.po_new ((Upd.refl _ WC).drew))
  have PNB_0:=zqH (NB_.out.po_new ((Upd.refl _ WC).drew))
  have PNC0:=zqH (NC.out.po_new ((Upd.refl _ WC).drew))
  have hS0:=HKJ.out _ (hg.k (i:=3) rfl) (hg.k (i:=2) rfl)
  clear hg HG N2 N9 NB_ NC
  refine beginK 8 (fun w'=>w'.cell? ⟨w5.heap.size,0,none⟩=some (.int .u64 0)/\w'.cell? ⟨w5.heap.size,1,none⟩=some (.int .u64 (n:Int))/\w'.cell? ⟨w5.heap.size,2,none⟩=some (.slice R2 m2 d2)/\w'.cell? ⟨w5.heap.size,3,none⟩=some (.bool false)/\w'.cell? ⟨w5.heap.size,4,none⟩=some (.int .u64 0)/\w'.cell? ⟨w5.heap.size,5,none⟩=some (.bool false)/\w'.cell? ⟨w5.heap.size,6,none⟩=some (.int .u64 1)/\w'.cell? ⟨w5.heap.size,7,none⟩=some (.slice none 0 0)/\w'.cell? ⟨w5.heap.size,8,none⟩=some (.slice none 0 0)/\w'.cell? ⟨w5.heap.size,9,none⟩=some (.slice none 0 0)/\w'.cell? ⟨w9.heap.size,0,none⟩=some (.slice R9 m9 d9)) (by kernel_rfl) (fun hcl=>?_)
  refine takeK 0 [0] (oi:=⟨some 70,.move (.tmp 12),34,"more.go:68",#[],none⟩) rfl (by kernel_rfl) (by kernel_rfl) (by kernel_rfl) (by kernel_rfl) hcl (fun _ _ _ h=>h) (v:=.pointer (some ⟨bs,0,none⟩)) (Or.inl ⟨by rfl,?_⟩) hS0 (fun vd=>?_)
  · intro w' _
    go_simp
  simp only[Act.put,zqP]
  replace hcl:=vd
  clear vd
  refine takeK 1 [1] (oi:=⟨some 71,.load 28 (.tmp 13),28,"more.go:68",#[],none⟩) rfl (by kernel_rfl) (by kernel_rfl) (by kernel_rfl) (by kernel_rfl) hcl (fun _ _ _ h=>h) (v:=.agg #[.int .u64 0,.int .u64 (n:Int),.slice R2 m2 d2,.bool false,.int .u64 0,.bool false,.int .u64 1,.slice none 0 0,.slice none 0 0,.slice none 0 0]) (Or.inl ⟨by rfl,?_⟩) hS0 (fun vd=>?_)
  · rintro w' ⟨y0,y1,y2,y3,y4,y5,y6,y7,y8,y9,y10⟩
    go_simp
  simp only[Act.put,zqP]
  replace hcl:=vd
  clear vd
  refine takeK 2 [2] (oi:=⟨some 72,.load 26 (.tmp 14),26,"more.go:68",#[],none⟩) rfl (by kernel_rfl) (by kernel_rfl) (by kernel_rfl) (by kernel_rfl) hcl (fun _ _ _ h=>h) (v:=.agg #[.slice R9 m9 d9]) (Or.inl ⟨by rfl,?_⟩) hS0 (fun vd=>?_)
  · rintro w' ⟨y0,y1,y2,y3,y4,y5,y6,y7,y8,y9,y10⟩
    go_simp
  simp only[Act.put,zqP]
  replace hcl:=vd
  clear vd
  refine takeK 3 [3] (oi:=⟨some 73,.load 26 (.tmp 14),26,"more.go:68",#[],none⟩) rfl (by kernel_rfl) (by kernel_rfl) (by kernel_rfl) (by kernel_rfl) hcl (fun _ _ _ h=>h) (v:=.agg #[.slice R9 m9 d9]) (Or.inl ⟨by rfl,?_⟩) hS0 (fun vd=>?_)
  · rintro w' ⟨y0,y1,y2,y3,y4,y5,y6,y7,y8,y9,y10⟩
    go_simp
  simp only[Act.put,zqP]
  replace hcl:=vd
  clear vd
  refine twoK 4 7 (oi:=⟨some 74,.call { callee:=.value (.func 36),args:=#[.tmp 72,.tmp 73],argTypes:=#[26,26] },26,"more.go:68",#[⟨2,.data⟩,⟨3,.data⟩],none⟩) (oj:=⟨some 18,.alloc 55,0,"more.go:68",#[],none⟩) rfl rfl (by kernel_rfl) hcl (by rfl) (by rfl) (fun K hK=>?_) (fun K hK=>?_)
  ·
    go_simp
    refine(dadd_c PN90.out.lq PN90.out.lq (b30 HZZ.out)).mono ?_
    rintro e wz ⟨RZ,mZ,dZ,rfl,hz,hn⟩
    have G1:=zqH (G0.out.nw hn)
    have PN21:=zqH (PN20.out.po_new hn)
    have PN91:=zqH (PN90.out.po_new hn)
    have PNB_1:=zqH (PNB_0.out.po_new hn)
    have PNC1:=zqH (PNC0.out.po_new hn)
    have PZ1:=zqH (hz.po_of G0.out)
    have hS1:=HKJ.out _ (G1.out.k (i:=3) rfl) (G1.out.k (i:=2) rfl)
    clear hz hn
    refine hK _ _ (fun _=>hS1) (fun vd=>?_)
    clear hcl hK K
    try simp only[Act.put,zqP]
    replace hcl:=vd
    clear vd
    refine takeK 5 [5] (oi:=⟨some 75,.build 55 #[(0,.tmp 74)],55,"more.go:68",#[⟨4,.data⟩],none⟩) rfl (by kernel_rfl) (by kernel_rfl) (by kernel_rfl) (by kernel_rfl) hcl (fun _ _ _ h=>h) (v:=.agg #[.slice RZ mZ dZ,.int .u64 0,.slice none 0 0]) (Or.inl ⟨by rfl,?_⟩) hS1 (fun vd=>?_)
    · intro w' _
      go_simp
    simp only[Act.put,zqP]
    replace hcl:=vd
    clear vd
    refine twoK 6 7 (oi:=⟨some 76,.call { callee:=.value (.func 25),args:=#[.tmp 70,.const (.int .u64 16),.tmp 71,.tmp 75],argTypes:=#[34,22,28,55] },55,"more.go:68",#[⟨0,.data⟩,⟨1,.data⟩,⟨5,.data⟩,⟨4,.chain⟩],none⟩) (oj:=⟨some 18,.alloc 55,0,"more.go:68",#[],none⟩) rfl rfl (by kernel_rfl) hcl (by rfl) (by rfl) (fun K hK=>?_) (fun K hK=>?_)
    ·
      go_simp
      refine(hold_v (dp:=0) (As:=none) (ns:=0) (cs:=0) 1 0 0 rfl rfl rfl HL.out G1.out.sf PN21.out.lq PZ1.out.lq HNN.out.1 HNN.out.2.1 HZZ.out HBD.out).mono ?_
      rintro e wd ⟨RD,mD,dD,rfl,Fa4,hsf,st,hd⟩
      have G2:=zqH (G1.out.step st hsf)
      have PN22:=zqH (PN21.out.po_step st)
      have PN92:=zqH (PN91.out.po_step st)
      have PNB_2:=zqH (PNB_1.out.po_step st)
      have PNC2:=zqH (PNC1.out.po_step st)
      have PZ2:=zqH (PZ1.out.po_step st)
      have PD2:=zqH (hd.po_hold G1.out)
      have hS2:=HKJ.out _ (G2.out.k (i:=3) rfl) (G2.out.k (i:=2) rfl)
      clear hsf st hd
      refine hK _ _ (fun _=>hS2) (fun vd=>?_)
      clear hcl hK K
      try simp only[Act.put,zqP]
      replace hcl:=vd
      clear vd
      refine oneK 7 (o:=⟨some 18,.alloc 55,0,"more.go:68",#[],none⟩) rfl (by kernel_rfl) hcl (by rfl) (fun K hK=>?_)
      go_simp
      obtain⟨wa,hwa⟩:∃wa,wa=wd.alloc (.cells #[.slice none 0 0,.int .u64 0,.slice none 0 0] 55):=⟨_,rfl⟩
      rw[<-hwa]
      have hwb:wd.alloc (.cells #[.slice none 0 0,.int .u64 0,.slice none 0 0] 55)=wa:=hwa.symm
      have g3:=G2.out.alloc #[.slice none 0 0,.int .u64 0,.slice none 0 0] 55
      rw[hwb]at g3
      have G3:=zqH g3
      have qPN2:=PN22.out.po_alloc #[.slice none 0 0,.int .u64 0,.slice none 0 0] 55
      rw[hwb]at qPN2
      have PN23:=zqH qPN2
      have qPN9:=PN92.out.po_alloc #[.slice none 0 0,.int .u64 0,.slice none 0 0] 55
      rw[hwb]at qPN9
      have PN93:=zqH qPN9
      have qPNB_:=PNB_2.out.po_alloc #[.slice none 0 0,.int .u64 0,.slice none 0 0] 55
      rw[hwb]at qPNB_
      have PNB_3:=zqH qPNB_
      have qPNC:=PNC2.out.po_alloc #[.slice none 0 0,.int .u64 0,.slice none 0 0] 55
      rw[hwb]at qPNC
      have PNC3:=zqH qPNC
      have qPZ:=PZ2.out.po_alloc #[.slice none 0 0,.int .u64 0,.slice none 0 0] 55
      rw[hwb]at qPZ
      have PZ3:=zqH qPZ
      have qPD:=PD2.out.po_alloc #[.slice none 0 0,.int .u64 0,.slice none 0 0] 55
      rw[hwb]at qPD
      have PD3:=zqH qPD
      clear hwa hwb g3 qPN2 qPN9 qPNB_ qPNC qPZ qPD
      have hS3:=HKJ.out _ (G3.out.k (i:=4) rfl) (G3.out.k (i:=3) rfl)
      refine hK _ _ (fun _=>hS3) (fun vd=>?_)
      clear hcl hK K
      try simp only[Act.put,zqP]
      replace hcl:=vd
      clear vd
      obtain⟨g0,z0,g1,z1,g2,z2,hh,vc⟩:=put3 (G3.out.k (i:=0) rfl) (.slice RZ mZ dZ) (.int .u64 0) (.slice RD mD dD)
      refine oneK 8 (o:=⟨none,.store 55 (.tmp 18) (.tmp 76),0,"more.go:68",#[⟨7,.data⟩,⟨6,.data⟩,⟨6,.chain⟩,⟨0,.phase⟩,⟨1,.phase⟩,⟨2,.phase⟩,⟨3,.phase⟩,⟨4,.phase⟩,⟨5,.phase⟩,⟨6,.phase⟩,⟨7,.phase⟩],none⟩) rfl (by kernel_rfl) hcl (by rfl) (fun K hK=>?_)
      go_simp
      refine hK _ _ (fun h=>absurd rfl h) (fun _=>?_)
      clear hcl hK K
      try simp only[Act.put,zqP]
      refine doneK (by kernel_rfl) ?_ _
      go_wp2
      go_meet
      refine⟨_,RZ,mZ,dZ,RD,mD,dD,rfl,zqH ⟨Fa4,G3.out.set (i:=0) rfl vc hh,PN23.out.po_set (i:=0) rfl vc,PN93.out.po_set (i:=0) rfl vc,PNB_3.out.po_set (i:=0) rfl vc,PNC3.out.po_set (i:=0) rfl vc,PD3.out.po_set (i:=0) rfl vc⟩⟩
    ·
      go_simp
      obtain⟨wa,hwa⟩:∃wa,wa=wz.alloc (.cells #[.slice none 0 0,.int .u64 0,.slice none 0 0] 55):=⟨_,rfl⟩
      rw[<-hwa]
      have hwb:wz.alloc (.cells #[.slice none 0 0,.int .u64 0,.slice none 0 0] 55)=wa:=hwa.symm
      have g2:=G1.out.alloc #[.slice none 0 0,.int .u64 0,.slice none 0 0] 55
      rw[hwb]at g2
      have G2:=zqH g2
      have qPN2:=PN21.out.po_alloc #[.slice none 0 0,.int .u64 0,.slice none 0 0] 55
      rw[hwb]at qPN2
      have PN22:=zqH qPN2
      have qPN9:=PN91.out.po_alloc #[.slice none 0 0,.int .u64 0,.slice none 0 0] 55
      rw[hwb]at qPN9
      have PN92:=zqH qPN9
      have qPNB_:=PNB_1.out.po_alloc #[.slice none 0 0,.int .u64 0,.slice none 0 0] 55
      rw[hwb]at qPNB_
      have PNB_2:=zqH qPNB_
      have qPNC:=PNC1.out.po_alloc #[.slice none 0 0,.int .u64 0,.slice none 0 0] 55
      rw[hwb]at qPNC
      have PNC2:=zqH qPNC
      have qPZ:=PZ1.out.po_alloc #[.slice none 0 0,.int .u64 0,.slice none 0 0] 55
      rw[hwb]at qPZ
      have PZ2:=zqH qPZ
      clear hwa hwb g2 qPN2 qPN9 qPNB_ qPNC qPZ
      have hS2:=HKJ.out _ (G2.out.k (i:=4) rfl) (G2.out.k (i:=3) rfl)
      refine hK _ _ (fun _=>hS2) (fun vd=>?_)
      clear hcl hK K
      try simp only[Act.put,zqP]
      replace hcl:=vd
      clear vd
      refine oneK 6 (o:=⟨some 76,.call { callee:=.value (.func 25),args:=#[.tmp 70,.const (.int .u64 16),.tmp 71,.tmp 75],argTypes:=#[34,22,28,55] },55,"more.go:68",#[⟨0,.data⟩,⟨1,.data⟩,⟨5,.data⟩,⟨4,.chain⟩],none⟩) rfl (by kernel_rfl) hcl (by rfl) (fun K hK=>?_)
      go_simp
      refine(hold_v (dp:=0) (As:=none) (ns:=0) (cs:=0) 1 0 0 rfl rfl rfl HL.out G2.out.sf PN22.out.lq PZ2.out.lq HNN.out.1 HNN.out.2.1 HZZ.out HBD.out).mono ?_
      rintro e wd ⟨RD,mD,dD,rfl,Fa4,hsf,st,hd⟩
      have G3:=zqH (G2.out.step st hsf)
      have PN23:=zqH (PN22.out.po_step st)
      have PN93:=zqH (PN92.out.po_step st)
      have PNB_3:=zqH (PNB_2.out.po_step st)
      have PNC3:=zqH (PNC2.out.po_step st)
      have PZ3:=zqH (PZ2.out.po_step st)
      have PD3:=zqH (hd.po_hold G2.out)
      have hS3:=HKJ.out _ (G3.out.k (i:=4) rfl) (G3.out.k (i:=3) rfl)
      clear hsf st hd
      refine hK _ _ (fun _=>hS3) (fun vd=>?_)
      clear hcl hK K
      try simp only[Act.put,zqP]
      replace hcl:=vd
      clear vd
      obtain⟨g0,z0,g1,z1,g2,z2,hh,vc⟩:=put3 (G3.out.k (i:=0) rfl) (.slice RZ mZ dZ) (.int .u64 0) (.slice RD mD dD)
      refine oneK 8 (o:=⟨none,.store 55 (.tmp 18) (.tmp 76),0,"more.go:68",#[⟨7,.data⟩,⟨6,.data⟩,⟨6,.chain⟩,⟨0,.phase⟩,⟨1,.phase⟩,⟨2,.phase⟩,⟨3,.phase⟩,⟨4,.phase⟩,⟨5,.phase⟩,⟨6,.phase⟩,⟨7,.phase⟩],none⟩) rfl (by kernel_rfl) hcl (by rfl) (fun K hK=>?_)
      go_simp
      refine hK _ _ (fun h=>absurd rfl h) (fun _=>?_)
      clear hcl hK K
      try simp only[Act.put,zqP]
      refine doneK (by kernel_rfl) ?_ _
      go_wp2
      go_meet
      refine⟨_,RZ,mZ,dZ,RD,mD,dD,rfl,zqH ⟨Fa4,G3.out.set (i:=0) rfl vc hh,PN23.out.po_set (i:=0) rfl vc,PN93.out.po_set (i:=0) rfl vc,PNB_3.out.po_set (i:=0) rfl vc,PNC3.out.po_set (i:=0) rfl vc,PD3.out.po_set (i:=0) rfl vc⟩⟩
  ·
    go_simp
    obtain⟨wa,hwa⟩:∃wa,wa=(WC.alloc (.cells #[.slice none 0 0,.int .u64 0,.slice none 0 0] 55)).drew:=⟨_,rfl⟩
    rw[<-hwa]
    have hwb:WC.drew.alloc (.cells #[.slice none 0 0,.int .u64 0,.slice none 0 0] 55)=wa:=by rw[hwa];rfl
    have g1:=G0.out.alloc #[.slice none 0 0,.int .u64 0,.slice none 0 0] 55
    rw[hwb]at g1
    change LG _ _ _ _ _ ((WC.heap.size,_,_) :: _) _ at g1
    have G1:=zqH g1
    have qPN2:=PN20.out.po_alloc #[.slice none 0 0,.int .u64 0,.slice none 0 0] 55
    rw[hwb]at qPN2
    change LN (PO _ _ ((WC.heap.size,_,_) :: _)) _ _ _ _ _ at qPN2
    have PN21:=zqH qPN2
    have qPN9:=PN90.out.po_alloc #[.slice none 0 0,.int .u64 0,.slice none 0 0] 55
    rw[hwb]at qPN9
    change LN (PO _ _ ((WC.heap.size,_,_) :: _)) _ _ _ _ _ at qPN9
    have PN91:=zqH qPN9
    have qPNB_:=PNB_0.out.po_alloc #[.slice none 0 0,.int .u64 0,.slice none 0 0] 55
    rw[hwb]at qPNB_
    change LN (PO _ _ ((WC.heap.size,_,_) :: _)) _ _ _ _ _ at qPNB_
    have PNB_1:=zqH qPNB_
    have qPNC:=PNC0.out.po_alloc #[.slice none 0 0,.int .u64 0,.slice none 0 0] 55
    rw[hwb]at qPNC
    change LN (PO _ _ ((WC.heap.size,_,_) :: _)) _ _ _ _ _ at qPNC
    have PNC1:=zqH qPNC
    clear hwa hwb g1 qPN2 qPN9 qPNB_ qPNC
    have hS1:=HKJ.out _ (G1.out.k (i:=4) rfl) (G1.out.k (i:=3) rfl)
    refine hK _ _ (fun _=>hS1) (fun vd=>?_)
    clear hcl hK K
    try simp only[Act.put,zqP]
    replace hcl:=vd
    clear vd
    refine oneK 4 (o:=⟨some 74,.call { callee:=.value (.func 36),args:=#[.tmp 72,.tmp 73],argTypes:=#[26,26] },26,"more.go:68",#[⟨2,.data⟩,⟨3,.data⟩],none⟩) rfl (by kernel_rfl) hcl (by rfl) (fun K hK=>?_)
    go_simp
    refine(dadd_c PN91.out.lq PN91.out.lq (b30 HZZ.out)).mono ?_
    rintro e wz ⟨RZ,mZ,dZ,rfl,hz,hn⟩
    have G2:=zqH (G1.out.nw hn)
    have PN22:=zqH (PN21.out.po_new hn)
    have PN92:=zqH (PN91.out.po_new hn)
    have PNB_2:=zqH (PNB_1.out.po_new hn)
    have PNC2:=zqH (PNC1.out.po_new hn)
    have PZ2:=zqH (hz.po_of G1.out)
    have hS2:=HKJ.out _ (G2.out.k (i:=4) rfl) (G2.out.k (i:=3) rfl)
    clear hz hn
    refine hK _ _ (fun _=>hS2) (fun vd=>?_)
    clear hcl hK K
    try simp only[Act.put,zqP]
    replace hcl:=vd
    clear vd
    refine takeK 5 [5] (oi:=⟨some 75,.build 55 #[(0,.tmp 74)],55,"more.go:68",#[⟨4,.data⟩],none⟩) rfl (by kernel_rfl) (by kernel_rfl) (by kernel_rfl) (by kernel_rfl) hcl (fun _ _ _ h=>h) (v:=.agg #[.slice RZ mZ dZ,.int .u64 0,.slice none 0 0]) (Or.inl ⟨by rfl,?_⟩) hS2 (fun vd=>?_)
    · intro w' _
      go_simp
    simp only[Act.put,zqP]
    replace hcl:=vd
    clear vd
    refine oneK 6 (o:=⟨some 76,.call { callee:=.value (.func 25),args:=#[.tmp 70,.const (.int .u64 16),.tmp 71,.tmp 75],argTypes:=#[34,22,28,55] },55,"more.go:68",#[⟨0,.data⟩,⟨1,.data⟩,⟨5,.data⟩,⟨4,.chain⟩],none⟩) rfl (by kernel_rfl) hcl (by rfl) (fun K hK=>?_)
    go_simp
    refine(hold_v (dp:=0) (As:=none) (ns:=0) (cs:=0) 1 0 0 rfl rfl rfl HL.out G2.out.sf PN22.out.lq PZ2.out.lq HNN.out.1 HNN.out.2.1 HZZ.out HBD.out).mono ?_
    rintro e wd ⟨RD,mD,dD,rfl,Fa4,hsf,st,hd⟩
    have G3:=zqH (G2.out.step st hsf)
    have PN23:=zqH (PN22.out.po_step st)
    have PN93:=zqH (PN92.out.po_step st)
    have PNB_3:=zqH (PNB_2.out.po_step st)
    have PNC3:=zqH (PNC2.out.po_step st)
    have PZ3:=zqH (PZ2.out.po_step st)
    have PD3:=zqH (hd.po_hold G2.out)
    have hS3:=HKJ.out _ (G3.out.k (i:=4) rfl) (G3.out.k (i:=3) rfl)
    clear hsf st hd
    refine hK _ _ (fun _=>hS3) (fun vd=>?_)
    clear hcl hK K
    try simp only[Act.put,zqP]
    replace hcl:=vd
    clear vd
    obtain⟨g0,z0,g1,z1,g2,z2,hh,vc⟩:=put3 (G3.out.k (i:=0) rfl) (.slice RZ mZ dZ) (.int .u64 0) (.slice RD mD dD)
    refine oneK 8 (o:=⟨none,.store 55 (.tmp 18) (.tmp 76),0,"more.go:68",#[⟨7,.data⟩,⟨6,.data⟩,⟨6,.chain⟩,⟨0,.phase⟩,⟨1,.phase⟩,⟨2,.phase⟩,⟨3,.phase⟩,⟨4,.phase⟩,⟨5,.phase⟩,⟨6,.phase⟩,⟨7,.phase⟩],none⟩) rfl (by kernel_rfl) hcl (by rfl) (fun K hK=>?_)
    go_simp
    refine hK _ _ (fun h=>absurd rfl h) (fun _=>?_)
    clear hcl hK K
    try simp only[Act.put,zqP]
    refine doneK (by kernel_rfl) ?_ _
    go_wp2
    go_meet
    refine⟨_,RZ,mZ,dZ,RD,mD,dD,rfl,zqH ⟨Fa4,G3.out.set (i:=0) rfl vc hh,PN23.out.po_set (i:=0) rfl vc,PN93.out.po_set (i:=0) rfl vc,PNB_3.out.po_set (i:=0) rfl vc,PNC3.out.po_set (i:=0) rfl vc,PD3.out.po_set (i:=0) rfl vc⟩⟩
 case rest=>
  obtain⟨g,RZ,mZ,dZ,RD,mD,dD,rfl,hcc⟩:=hcut
  obtain⟨WD,hWD⟩:∃WD,WD=wc:=⟨_,rfl⟩
  subst hWD
  obtain⟨Fa4,hg,p1,p2,p3,p4,p5⟩:=hcc.out
  clear HG N2 N9 NB_ NC HKJ hcc HBD
  have HG:=zqH hg;have N2:=zqH p1;have N9:=zqH p2;have NB_:=zqH p3;have NC:=zqH p4;have NK:=zqH p5
  clear hg p1 p2 p3 p4 p5
  have hHeld:=HHD.out.refer (y:=0)
  replace HL:=zqH (HL.out.refer (p:=0) (Nat.le_refl _))
  obtain⟨S4,hS4⟩:∃S,S=F1.refer S3 0:=⟨_,rfl⟩
  have hc4:S4.c=[]:=by rw[hS4];exact HC.out
  rw[<-hS4]at HG HL hHeld
  clear hS4
  replace HC:=zqH hc4
  replace HHD:=zqH hHeld
  clear hc4 hHeld
  obtain⟨hn1,gs1,hl1,hgs1⟩:=HP1.out
  obtain⟨hn2,gs2,hl2,hgs2⟩:=HP2.out
  have HQ1:=zqH (And.intro hn1 (And.intro hl1 hgs1));have HQ2:=zqH (And.intro hn2 (And.intro hl2 hgs2))
  clear hn1 hl1 hgs1 hn2 hl2 hgs2 HP1 HP2
  have hB20:20*Gn.B ^ 4+20*Gn.B ^ 4<Gn.B ^ 30:=by decide
  have hB5:n1*Gn.B ^ 4<=20*Gn.B ^ 4:=Nat.mul_le_mul_right _ HQ1.out.1
  have hB6:n2*Gn.B ^ 4<=20*Gn.B ^ 4:=Nat.mul_le_mul_right _ HQ2.out.1
  obtain⟨r1,hr1⟩:∃r1,r1=sumq n gs1:=⟨_,rfl⟩
  obtain⟨r2,hr2⟩:∃r2,r2=r1+sumq n gs2:=⟨_,rfl⟩
  have hr1b:r1<=n1*Gn.B ^ 4:=by rw[hr1,<-HQ1.out.2.1];exact sumq_le (gs_lt HQ1.out.2.2)
  have hr2b:sumq n gs2<=n2*Gn.B ^ 4:=by rw[<-HQ2.out.2.1];exact sumq_le (gs_lt HQ2.out.2.2)
  have HRR:=zqH (show 0+n1*Gn.B ^ 4<Gn.B ^ 30/\r1+n2*Gn.B ^ 4<Gn.B ^ 30/\r1<Gn.B ^ 30/\r2<Gn.B ^ 30/\r1<=r2 from⟨by omega,by omega,by omega,by omega,by omega⟩)
  have HR1:=zqH hr1;have HR2:=zqH hr2
  clear hB20 hB5 hB6 hr1 hr2 hr1b hr2b
  have kl:=HG.out.k (i:=4) rfl
  obtain⟨l0,l1,l2,l3,l4,l5,l6,l7,l8,l9⟩:=zqC kl
  clear kl
  have HPAY:=zqH (pay_v (cg:=c1) (q2:=n1) 1 ((n1:Int)+1) (by omega) (by omega) rfl (HG.out.new HWP.out.2.2 HWP.out.1 HWP.out.2.1) (HG.out.gF HWP.out.2.2 HWP.out.1) HWP.out.2.1 HQ1.out.2.2 HQ1.out.2.1 HQ1.out.1 HL.out HG.out.sf HNN.out.1 HNN.out.2.1 (R:=R2) (m:=m2) (d:=d2) (by have:=HQ1.out.1;have:=HQ2.out.1;exact⟨by omega,by omega,by omega,by omega⟩) HRR.out.1)
  go_upto_region 13 with(go_at_call 41
                         refine HPAY.out.mono ?_
                         rintro e w12 ⟨rfl,Fa5,S5,hsf,st,vf,hcc,ve⟩
                         have hg:=HG.out.step st hsf
                         have HG2:=zqH hg
                         obtain⟨g0,y0,g1,y1,g2,y2,g3,y3,g4,y4,g5,y5,g6,y6,g7,y7,g8,y8,g9,y9,hh,vc⟩:=put10 (hg.k (i:=4) rfl) (.int .u64 0) (.int .u64 (n:Int)) (.slice R2 m2 d2) (.bool false) (.int .u64 0) (.bool false) (.int .u64 ((n1:Int)+1)) (.slice none 0 0) (.slice none 0 0) (.slice none 0 0)
                         have HH:=zqH (And.intro hh vc)
                         have HST:=zqH (And.intro st (And.intro vf (And.intro hcc ve)))
                         clear HPAY hsf st hg hh vc vf hcc ve)
  clear l0 l1 l2 l3 l4 l5 l6 l7 l8 l9 g0 y0 g1 y1 g2 y2 g3 y3 g4 y4 g5 y5 g6 y6 g7 y7 g8 y8 g9 y9
  obtain⟨hh,vc⟩:=HH.out
  obtain⟨WE,hWE,hh3,vb⟩:=letW hh vc
  rw[hWE]
  have vg:=(N2.out.po_step HST.out.1).po_set (cs':=#[.int .u64 0,.int .u64 (n:Int),.slice R2 m2 d2,.bool false,.int .u64 0,.bool false,.int .u64 ((n1:Int)+1),.slice none 0 0,.slice none 0 0,.slice none 0 0]) (i:=4) rfl vb
  simp only[List.set_cons_succ,List.set_cons_zero]at vg
  replace N2:=zqH vg
  clear vg
  have vh:=(N9.out.po_step HST.out.1).po_set (cs':=#[.int .u64 0,.int .u64 (n:Int),.slice R2 m2 d2,.bool false,.int .u64 0,.bool false,.int .u64 ((n1:Int)+1),.slice none 0 0,.slice none 0 0,.slice none 0 0]) (i:=4) rfl vb
  simp only[List.set_cons_succ,List.set_cons_zero]at vh
  replace N9:=zqH vh
  clear vh
  have va:=(NB_.out.po_step HST.out.1).po_set (cs':=#[.int .u64 0,.int .u64 (n:Int),.slice R2 m2 d2,.bool false,.int .u64 0,.bool false,.int .u64 ((n1:Int)+1),.slice none 0 0,.slice none 0 0,.slice none 0 0]) (i:=4) rfl vb
  simp only[List.set_cons_succ,List.set_cons_zero]at va
  replace NB_:=zqH va
  clear va
  have vi:=(NC.out.po_step HST.out.1).po_set (cs':=#[.int .u64 0,.int .u64 (n:Int),.slice R2 m2 d2,.bool false,.int .u64 0,.bool false,.int .u64 ((n1:Int)+1),.slice none 0 0,.slice none 0 0,.slice none 0 0]) (i:=4) rfl vb
  simp only[List.set_cons_succ,List.set_cons_zero]at vi
  replace NC:=zqH vi
  clear vi
  have vj:=(NK.out.po_step HST.out.1).po_set (cs':=#[.int .u64 0,.int .u64 (n:Int),.slice R2 m2 d2,.bool false,.int .u64 0,.bool false,.int .u64 ((n1:Int)+1),.slice none 0 0,.slice none 0 0,.slice none 0 0]) (i:=4) rfl vb
  simp only[List.set_cons_succ,List.set_cons_zero]at vj
  replace NK:=zqH vj
  clear vj
  have g:=HG2.out.set (i:=4) rfl vb hh3
  simp only[List.set_cons_succ,List.set_cons_zero]at g
  replace HG:=zqH g
  clear g
  replace HL:=zqH HST.out.2.1
  replace HHD:=zqH (HST.out.2.2.2 _ _ (Nat.le_refl _) HHD.out)
  have HC2:=zqH (HST.out.2.2.1.trans HC.out)
  replace HC:=HC2
  clear hh vc hh3 vb hWE HH HG2 HST HC2
  have vf:=HL.out
  rw[Nat.zero_add,<-HR1.out]at vf
  replace HL:=zqH vf
  clear vf
  have kl:=HG.out.k (i:=4) rfl
  obtain⟨l0,l1,l2,l3,l4,l5,l6,l7,l8,l9⟩:=zqC kl
  clear kl
  have ky:=HG.out.k (i:=3) rfl
  have y0:=zaa ky 0 _ rfl
  clear ky
  have HH:=zqH (hold_v (dp:=0) (As:=none) (ns:=0) (cs:=0) ((n1:Int)+1) 0 (n1:Int) rfl rfl rfl HL.out HG.out.sf N2.out.lq N9.out.lq HNN.out.1 HNN.out.2.1 HZB.out (by have:=HQ1.out.1;exact⟨by omega,HRR.out.2.2.1,by omega,by omega⟩))
  go_upto_region 14 with(go_at_call 25;refine HH.out.mono ?_;rintro e w13 ⟨RE,mE,dE,rfl,Fa6,hsf,st,hE⟩;have H13:=zqH (And.intro hsf (And.intro st hE));clear hsf st hE)
  clear l0 l1 l2 l3 l4 l5 l6 l7 l8 l9 y0 HH
  have NE:=zqH (H13.out.2.2.po_hold HG.out)
  obtain⟨WF,hWF⟩:∃W,W=w13.alloc (.cells #[.slice R9 m9 d9,.int .u64 (n1:Int),.slice RE mE dE] 55):=⟨_,rfl⟩
  rw[<-hWF]
  have g:=(HG.out.step H13.out.2.1 H13.out.1).alloc #[.slice R9 m9 d9,.int .u64 (n1:Int),.slice RE mE dE] 55
  rw[<-hWF]at g
  have vg:=(N2.out.po_step H13.out.2.1).po_alloc #[.slice R9 m9 d9,.int .u64 (n1:Int),.slice RE mE dE] 55
  rw[<-hWF]at vg
  have vh:=(N9.out.po_step H13.out.2.1).po_alloc #[.slice R9 m9 d9,.int .u64 (n1:Int),.slice RE mE dE] 55
  rw[<-hWF]at vh
  have va:=(NB_.out.po_step H13.out.2.1).po_alloc #[.slice R9 m9 d9,.int .u64 (n1:Int),.slice RE mE dE] 55
  rw[<-hWF]at va
  have vi:=(NC.out.po_step H13.out.2.1).po_alloc #[.slice R9 m9 d9,.int .u64 (n1:Int),.slice RE mE dE] 55
  rw[<-hWF]at vi
  have vj:=(NK.out.po_step H13.out.2.1).po_alloc #[.slice R9 m9 d9,.int .u64 (n1:Int),.slice RE mE dE] 55
  rw[<-hWF]at vj
  have vk:=NE.out.po_alloc #[.slice R9 m9 d9,.int .u64 (n1:Int),.slice RE mE dE] 55
  rw[<-hWF]at vk
  clear hWF
  replace HG:=zqH g
  clear g
  replace N2:=zqH vg
  clear vg
  replace N9:=zqH vh
  clear vh
  replace NB_:=zqH va
  clear va
  replace NC:=zqH vi
  clear vi
  replace NK:=zqH vj
  clear vj
  replace NE:=zqH vk
  clear vk
  clear H13
  have hHeld:=HL.out.held
  replace HL:=zqH (HL.out.refer (p:=n1) (Nat.le_refl _))
  have hcc:(F1.refer S5 n1).c=[]:=HC.out
  obtain⟨S6,hS6⟩:∃S,S=F1.refer S5 n1:=⟨_,rfl⟩
  rw[<-hS6]at HG HL hHeld hcc
  replace HC:=zqH hcc
  replace HHD:=zqH hHeld
  clear hcc hS6 hHeld
  have kl:=HG.out.k (i:=5) rfl
  obtain⟨l0,l1,l2,l3,l4,l5,l6,l7,l8,l9⟩:=zqC kl
  clear kl
  have ky:=HG.out.k (i:=3) rfl
  have y0:=zaa ky 0 _ rfl;have y1:=zaa ky 1 _ rfl;have y2:=zaa ky 2 _ rfl
  clear ky
  have HCL:=zqH (claim_a (n:=n) (R:=R2) (m:=m2) (d:=d2) (A8:=none) (n8:=0) (c8:=0) (A1:=R9) (n1:=m9) (c1:=d9) (dp:=0) (kv:=0) (k:=0) ((n1:Int)+1) 0 rfl rfl rfl HL.out (.inl ⟨HC.out,rfl⟩) HG.out.sf NB_.out.po_off.lq HL.out.zero (by omega) HZB.out (by have:=HQ1.out.1;exact⟨by omega,HRR.out.2.2.1,by omega,by omega⟩))
  go_upto_region 15 with(go_at_call 19;refine HCL.out.mono ?_;rintro e w14 ⟨RW,mRW,dRW,rfl,hsf,hu,hlr⟩;have HH:=zqH (And.intro hsf (And.intro hu hlr));clear hsf hu hlr)
  clear l0 l1 l2 l3 l4 l5 l6 l7 l8 l9 y0 y1 y2 HCL
  have NW:=zqH (HH.out.2.2.po_of HG.out)
  obtain⟨WG,hWG⟩:∃W,W=w14.alloc (.cells #[.slice RW mRW dRW] 26):=⟨_,rfl⟩
  rw[<-hWG]
  have g:=(HG.out.bsd HH.out.2.1 HH.out.1).alloc #[.slice RW mRW dRW] 26
  rw[<-hWG]at g
  have vg:=(N2.out.po_bs HH.out.2.1).po_alloc #[.slice RW mRW dRW] 26
  rw[<-hWG]at vg
  have vh:=(N9.out.po_bs HH.out.2.1).po_alloc #[.slice RW mRW dRW] 26
  rw[<-hWG]at vh
  have va:=(NB_.out.po_bs HH.out.2.1).po_alloc #[.slice RW mRW dRW] 26
  rw[<-hWG]at va
  have vi:=(NC.out.po_bs HH.out.2.1).po_alloc #[.slice RW mRW dRW] 26
  rw[<-hWG]at vi
  have vj:=(NK.out.po_bs HH.out.2.1).po_alloc #[.slice RW mRW dRW] 26
  rw[<-hWG]at vj
  have vk:=(NE.out.po_bs HH.out.2.1).po_alloc #[.slice RW mRW dRW] 26
  rw[<-hWG]at vk
  have qNW:=NW.out.po_alloc #[.slice RW mRW dRW] 26
  rw[<-hWG]at qNW
  clear hWG
  replace HG:=zqH g
  clear g
  replace N2:=zqH vg
  clear vg
  replace N9:=zqH vh
  clear vh
  replace NB_:=zqH va
  clear va
  replace NC:=zqH vi
  clear vi
  replace NK:=zqH vj
  clear vj
  replace NE:=zqH vk
  clear vk
  replace NW:=zqH qNW
  clear qNW
  clear HH
  go_upto_if 93 with fail
  go_cut [] (fun wx=>∃(t7 q7 k7:Nat),Hid (∃(S7:F1.Sta) (M7 N7:Nat) (Fa7:Nat->Prop),LG w3 F Fa7 bs (F1.ents S7) [(w14.heap.size,26,#[.slice RW mRW dRW]),(w13.heap.size,55,#[.slice R9 m9 d9,.int .u64 (n1:Int),.slice RE mE dE]),(g,55,#[.slice RZ mZ dZ,.int .u64 0,.slice RD mD dD]),(w11.heap.size,55,#[.slice R9 m9 d9,.int .u64 0,.slice RC mC dC]),(w10.heap.size,55,#[.slice R9 m9 d9,.int .u64 0,.slice RB mB dB]),(w9.heap.size,26,#[.slice R9 m9 d9]),(w5.heap.size,28,#[.int .u64 0,.int .u64 (t7:Int),.slice R2 m2 d2,.bool false,.int .u64 0,.bool false,.int .u64 ((q7:Int)+1),.slice none 0 0,.slice none 0 0,.slice none 0 0])] wx/\F1.Led S7 q7 r1 M7 N7/\F1.Held S7 q7 n1 r1/\(1<=M7/\M7<=20/\N7<=200/\q7<=21/\n1<=q7/\t7<18446744073709551616)/\((cb=false/\S7.c=[]/\t7=n/\k7=0)\/(cb=true/\S7.c=[(q7,n,0)]/\t7=0/\n1<q7/\F1.Held S7 q7 q7 r1/\k7=1))/\LN (PO Fa7 bs [(w14.heap.size,26,#[.slice RW mRW dRW]),(w13.heap.size,55,#[.slice R9 m9 d9,.int .u64 (n1:Int),.slice RE mE dE]),(g,55,#[.slice RZ mZ dZ,.int .u64 0,.slice RD mD dD]),(w11.heap.size,55,#[.slice R9 m9 d9,.int .u64 0,.slice RC mC dC]),(w10.heap.size,55,#[.slice R9 m9 d9,.int .u64 0,.slice RB mB dB]),(w9.heap.size,26,#[.slice R9 m9 d9]),(w5.heap.size,28,#[.int .u64 0,.int .u64 (t7:Int),.slice R2 m2 d2,.bool false,.int .u64 0,.bool false,.int .u64 ((q7:Int)+1),.slice none 0 0,.slice none 0 0,.slice none 0 0])]) wx R2 m2 d2 (n*10 ^ 36)/\LN (PO Fa7 bs [(w14.heap.size,26,#[.slice RW mRW dRW]),(w13.heap.size,55,#[.slice R9 m9 d9,.int .u64 (n1:Int),.slice RE mE dE]),(g,55,#[.slice RZ mZ dZ,.int .u64 0,.slice RD mD dD]),(w11.heap.size,55,#[.slice R9 m9 d9,.int .u64 0,.slice RC mC dC]),(w10.heap.size,55,#[.slice R9 m9 d9,.int .u64 0,.slice RB mB dB]),(w9.heap.size,26,#[.slice R9 m9 d9]),(w5.heap.size,28,#[.int .u64 0,.int .u64 (t7:Int),.slice R2 m2 d2,.bool false,.int .u64 0,.bool false,.int .u64 ((q7:Int)+1),.slice none 0 0,.slice none 0 0,.slice none 0 0])]) wx R9 m9 d9 z/\LN (PO Fa7 bs [(w14.heap.size,26,#[.slice RW mRW dRW]),(w13.heap.size,55,#[.slice R9 m9 d9,.int .u64 (n1:Int),.slice RE mE dE]),(g,55,#[.slice RZ mZ dZ,.int .u64 0,.slice RD mD dD]),(w11.heap.size,55,#[.slice R9 m9 d9,.int .u64 0,.slice RC mC dC]),(w10.heap.size,55,#[.slice R9 m9 d9,.int .u64 0,.slice RB mB dB]),(w9.heap.size,26,#[.slice R9 m9 d9]),(w5.heap.size,28,#[.int .u64 0,.int .u64 (t7:Int),.slice R2 m2 d2,.bool false,.int .u64 0,.bool false,.int .u64 ((q7:Int)+1),.slice none 0 0,.slice none 0 0,.slice none 0 0])]) wx RB mB dB z/\LN (PO Fa7 bs [(w14.heap.size,26,#[.slice RW mRW dRW]),(w13.heap.size,55,#[.slice R9 m9 d9,.int .u64 (n1:Int),.slice RE mE dE]),(g,55,#[.slice RZ mZ dZ,.int .u64 0,.slice RD mD dD]),(w11.heap.size,55,#[.slice R9 m9 d9,.int .u64 0,.slice RC mC dC]),(w10.heap.size,55,#[.slice R9 m9 d9,.int .u64 0,.slice RB mB dB]),(w9.heap.size,26,#[.slice R9 m9 d9]),(w5.heap.size,28,#[.int .u64 0,.int .u64 (t7:Int),.slice R2 m2 d2,.bool false,.int .u64 0,.bool false,.int .u64 ((q7:Int)+1),.slice none 0 0,.slice none 0 0,.slice none 0 0])]) wx RC mC dC z/\LN (PO Fa7 bs [(w14.heap.size,26,#[.slice RW mRW dRW]),(w13.heap.size,55,#[.slice R9 m9 d9,.int .u64 (n1:Int),.slice RE mE dE]),(g,55,#[.slice RZ mZ dZ,.int .u64 0,.slice RD mD dD]),(w11.heap.size,55,#[.slice R9 m9 d9,.int .u64 0,.slice RC mC dC]),(w10.heap.size,55,#[.slice R9 m9 d9,.int .u64 0,.slice RB mB dB]),(w9.heap.size,26,#[.slice R9 m9 d9]),(w5.heap.size,28,#[.int .u64 0,.int .u64 (t7:Int),.slice R2 m2 d2,.bool false,.int .u64 0,.bool false,.int .u64 ((q7:Int)+1),.slice none 0 0,.slice none 0 0,.slice none 0 0])]) wx RD mD dD (z+z)/\LN (PO Fa7 bs [(w14.heap.size,26,#[.slice RW mRW dRW]),(w13.heap.size,55,#[.slice R9 m9 d9,.int .u64 (n1:Int),.slice RE mE dE]),(g,55,#[.slice RZ mZ dZ,.int .u64 0,.slice RD mD dD]),(w11.heap.size,55,#[.slice R9 m9 d9,.int .u64 0,.slice RC mC dC]),(w10.heap.size,55,#[.slice R9 m9 d9,.int .u64 0,.slice RB mB dB]),(w9.heap.size,26,#[.slice R9 m9 d9]),(w5.heap.size,28,#[.int .u64 0,.int .u64 (t7:Int),.slice R2 m2 d2,.bool false,.int .u64 0,.bool false,.int .u64 ((q7:Int)+1),.slice none 0 0,.slice none 0 0,.slice none 0 0])]) wx RE mE dE z/\LN (PO Fa7 bs [(w14.heap.size,26,#[.slice RW mRW dRW]),(w13.heap.size,55,#[.slice R9 m9 d9,.int .u64 (n1:Int),.slice RE mE dE]),(g,55,#[.slice RZ mZ dZ,.int .u64 0,.slice RD mD dD]),(w11.heap.size,55,#[.slice R9 m9 d9,.int .u64 0,.slice RC mC dC]),(w10.heap.size,55,#[.slice R9 m9 d9,.int .u64 0,.slice RB mB dB]),(w9.heap.size,26,#[.slice R9 m9 d9]),(w5.heap.size,28,#[.int .u64 0,.int .u64 (t7:Int),.slice R2 m2 d2,.bool false,.int .u64 0,.bool false,.int .u64 ((q7:Int)+1),.slice none 0 0,.slice none 0 0,.slice none 0 0])]) wx RW mRW dRW (z*(r1-0) / 10 ^ 36)))
  case first=>
   cases cb with
   | false=>
     go_wp2
     go_meet
     exact⟨n,n1,0,zqH ⟨S6,_,_,Fa6,HG.out,HL.out,HHD.out,(by have:=HQ1.out.1;exact⟨by omega,by omega,by omega,by omega,by omega,HNN.out.2.1⟩),.inl ⟨by first|trivial|rfl,HC.out,rfl,rfl⟩,N2.out,N9.out,NB_.out,NC.out,NK.out,NE.out,NW.out⟩⟩
   | true=>
     have hg0:r1+0 / n<Gn.B ^ 30:=by rw[Nat.zero_div,Nat.add_zero];exact HRR.out.2.2.1
     have hclo:=close_led (g:=0) (n:=n) (R:=R2) (m:=m2) (d:=d2) (A7:=none) (n7:=0) (c7:=0) HL.out HG.out.sf (LN.nil (fun _=>False) _).lq HNN.out.1 HNN.out.2.1 (by have:=HQ1.out.1;omega) hg0 (by omega) (by omega) (by have:=HQ1.out.1;omega)
     obtain⟨q7,hq7⟩:∃q7,q7=n1+1:=⟨_,rfl⟩
     have vf:=HL.out.close n 0 (by omega)
     rw[show(if n=0 then 0 else 0 / n)=0 by split<;>simp,Nat.add_zero]at vf
     have ve:=HHD.out.close HL.out (Nat.le_refl _) n 0
     have hcc:=(F1.close_cc S6 (n1+1) n 0).trans HC.out
     rw[<-hq7]at hclo vf ve hcc
     obtain⟨S7,hS7⟩:∃S,S=F1.close S6 q7 n 0:=⟨_,rfl⟩
     rw[<-hS7]at hclo vf ve hcc
     replace HL:=zqH vf
     replace HHD:=zqH ve
     replace HC:=zqH hcc
     have HQ7:=zqH hq7
     have HCLO:=zqH hclo
     clear hg0 hclo vf ve hcc hS7 hq7
     have kl:=HG.out.k (i:=6) rfl
     obtain⟨l0,l1,l2,l3,l4,l5,l6,l7,l8,l9⟩:=zqC kl
     clear kl
     have HPAY:=zqH (HCLO.out)
     go_upto_region 17 with(go_at_call 27
                            refine HPAY.out.mono ?_
                            rintro e w15 ⟨rfl,Fa7,hsf,st⟩
                            have hg:=HG.out.step st hsf
                            have HG2:=zqH hg
                            obtain⟨g0,y0,g1,y1,g2,y2,g3,y3,g4,y4,g5,y5,g6,y6,g7,y7,g8,y8,g9,y9,hh,vc⟩:=put10 (hg.k (i:=6) rfl) (.int .u64 0) (.int .u64 (n:Int)) (.slice R2 m2 d2) (.bool false) (.int .u64 0) (.bool false) (.int .u64 ((q7:Int)+1)) (.slice none 0 0) (.slice none 0 0) (.slice none 0 0)
                            have HH:=zqH (And.intro hh vc)
                            have HST:=zqH st
                            clear HPAY hsf st hg hh vc)
     clear l0 l1 l2 l3 l4 l5 l6 l7 l8 l9 HCLO
     clear g0 y0 g1 y1 g2 y2 g3 y3 g4 y4 g5 y5 g6 y6 g7 y7 g8 y8 g9 y9
     obtain⟨hh,vc⟩:=HH.out
     obtain⟨WH,hWH,hh3,vb⟩:=letW hh vc
     rw[hWH]
     have vg:=(N2.out.po_step HST.out).po_set (cs':=#[.int .u64 0,.int .u64 (n:Int),.slice R2 m2 d2,.bool false,.int .u64 0,.bool false,.int .u64 ((q7:Int)+1),.slice none 0 0,.slice none 0 0,.slice none 0 0]) (i:=6) rfl vb
     simp only[List.set_cons_succ,List.set_cons_zero]at vg
     replace N2:=zqH vg
     clear vg
     have vh:=(N9.out.po_step HST.out).po_set (cs':=#[.int .u64 0,.int .u64 (n:Int),.slice R2 m2 d2,.bool false,.int .u64 0,.bool false,.int .u64 ((q7:Int)+1),.slice none 0 0,.slice none 0 0,.slice none 0 0]) (i:=6) rfl vb
     simp only[List.set_cons_succ,List.set_cons_zero]at vh
     replace N9:=zqH vh
     clear vh
     have va:=(NB_.out.po_step HST.out).po_set (cs':=#[.int .u64 0,.int .u64 (n:Int),.slice R2 m2 d2,.bool false,.int .u64 0,.bool false,.int .u64 ((q7:Int)+1),.slice none 0 0,.slice none 0 0,.slice none 0 0]) (i:=6) rfl vb
     simp only[List.set_cons_succ,List.set_cons_zero]at va
     replace NB_:=zqH va
     clear va
     have vi:=(NC.out.po_step HST.out).po_set (cs':=#[.int .u64 0,.int .u64 (n:Int),.slice R2 m2 d2,.bool false,.int .u64 0,.bool false,.int .u64 ((q7:Int)+1),.slice none 0 0,.slice none 0 0,.slice none 0 0]) (i:=6) rfl vb
     simp only[List.set_cons_succ,List.set_cons_zero]at vi
     replace NC:=zqH vi
     clear vi
     have vj:=(NK.out.po_step HST.out).po_set (cs':=#[.int .u64 0,.int .u64 (n:Int),.slice R2 m2 d2,.bool false,.int .u64 0,.bool false,.int .u64 ((q7:Int)+1),.slice none 0 0,.slice none 0 0,.slice none 0 0]) (i:=6) rfl vb
     simp only[List.set_cons_succ,List.set_cons_zero]at vj
     replace NK:=zqH vj
     clear vj
     have vk:=(NE.out.po_step HST.out).po_set (cs':=#[.int .u64 0,.int .u64 (n:Int),.slice R2 m2 d2,.bool false,.int .u64 0,.bool false,.int .u64 ((q7:Int)+1),.slice none 0 0,.slice none 0 0,.slice none 0 0]) (i:=6) rfl vb
     simp only[List.set_cons_succ,List.set_cons_zero]at vk
     replace NE:=zqH vk
     clear vk
     have qNW:=(NW.out.po_step HST.out).po_set (cs':=#[.int .u64 0,.int .u64 (n:Int),.slice R2 m2 d2,.bool false,.int .u64 0,.bool false,.int .u64 ((q7:Int)+1),.slice none 0 0,.slice none 0 0,.slice none 0 0]) (i:=6) rfl vb
     simp only[List.set_cons_succ,List.set_cons_zero]at qNW
     replace NW:=zqH qNW
     clear qNW
     have g:=HG2.out.set (i:=6) rfl vb hh3
     simp only[List.set_cons_succ,List.set_cons_zero]at g
     replace HG:=zqH g
     clear g hh vc hh3 vb hWH HH HG2 HST
     have hcut:=cut_a (n:=n) (R:=R2) (m:=m2) (d:=d2) (A8:=none) (n8:=0) (c8:=0) ((q7:Int)+1) 0 rfl rfl HL.out HG.out.sf HNN.out.2.1 (by have:=HQ1.out.1;have:=HQ7.out;exact⟨by omega,HRR.out.2.2.1,by omega,by omega⟩)
     have vf:=(led_cut (t:=n) (a:=0) HL.out)
     have hheld2:=vf.held
     have hled2:=vf.refer (Nat.le_refl _)
     have ve:=(held_cut (t:=n) (a:=0) HHD.out).refer (y:=q7)
     have hcc:(F1.refer (cutAt S7 q7 n 0) q7).c=[(q7,n,0)]:=by
      show F1.putR S7.c (q7,n,0)=_
      rw[HC.out];simp[F1.putR]
     obtain⟨S8,hS8⟩:∃S,S=F1.refer (cutAt S7 q7 n 0) q7:=⟨_,rfl⟩
     rw[<-hS8]at hcut hled2 ve hheld2 hcc
     replace HL:=zqH hled2
     replace HHD:=zqH ve
     have HHQ:=zqH hheld2
     replace HC:=zqH hcc
     have HCUT:=zqH hcut
     clear hcut vf hled2 ve hheld2 hcc hS8
     have kl:=HG.out.k (i:=6) rfl
     obtain⟨l0,l1,l2,l3,l4,l5,l6,l7,l8,l9⟩:=zqC kl
     clear kl
     have HPAY:=zqH HCUT.out
     go_wp2_with (go_at_call 43
                  refine HPAY.out.mono ?_
                  rintro e w16 ⟨rfl,Fa8,hsf,st⟩
                  have hg:=HG.out.step st hsf
                  have HG2:=zqH hg
                  obtain⟨g0,y0,g1,y1,g2,y2,g3,y3,g4,y4,g5,y5,g6,y6,g7,y7,g8,y8,g9,y9,hh,vc⟩:=put10 (hg.k (i:=6) rfl) (.int .u64 0) (.int .u64 0) (.slice R2 m2 d2) (.bool false) (.int .u64 0) (.bool false) (.int .u64 ((q7:Int)+1)) (.slice none 0 0) (.slice none 0 0) (.slice none 0 0)
                  have HH:=zqH (And.intro hh vc)
                  have HST:=zqH st
                  clear HPAY hsf st hg hh vc)
     go_meet
     clear l0 l1 l2 l3 l4 l5 l6 l7 l8 l9
     clear g0 y0 g1 y1 g2 y2 g3 y3 g4 y4 g5 y5 g6 y6 g7 y7 g8 y8 g9 y9
     obtain⟨hh,vc⟩:=HH.out
     obtain⟨WI,hWI,hh3,vb⟩:=letW hh vc
     rw[hWI]
     have vg:=(N2.out.po_step HST.out).po_set (cs':=#[.int .u64 0,.int .u64 0,.slice R2 m2 d2,.bool false,.int .u64 0,.bool false,.int .u64 ((q7:Int)+1),.slice none 0 0,.slice none 0 0,.slice none 0 0]) (i:=6) rfl vb
     simp only[List.set_cons_succ,List.set_cons_zero]at vg
     replace N2:=zqH vg
     clear vg
     have vh:=(N9.out.po_step HST.out).po_set (cs':=#[.int .u64 0,.int .u64 0,.slice R2 m2 d2,.bool false,.int .u64 0,.bool false,.int .u64 ((q7:Int)+1),.slice none 0 0,.slice none 0 0,.slice none 0 0]) (i:=6) rfl vb
     simp only[List.set_cons_succ,List.set_cons_zero]at vh
     replace N9:=zqH vh
     clear vh
     have va:=(NB_.out.po_step HST.out).po_set (cs':=#[.int .u64 0,.int .u64 0,.slice R2 m2 d2,.bool false,.int .u64 0,.bool false,.int .u64 ((q7:Int)+1),.slice none 0 0,.slice none 0 0,.slice none 0 0]) (i:=6) rfl vb
     simp only[List.set_cons_succ,List.set_cons_zero]at va
     replace NB_:=zqH va
     clear va
     have vi:=(NC.out.po_step HST.out).po_set (cs':=#[.int .u64 0,.int .u64 0,.slice R2 m2 d2,.bool false,.int .u64 0,.bool false,.int .u64 ((q7:Int)+1),.slice none 0 0,.slice none 0 0,.slice none 0 0]) (i:=6) rfl vb
     simp only[List.set_cons_succ,List.set_cons_zero]at vi
     replace NC:=zqH vi
     clear vi
     have vj:=(NK.out.po_step HST.out).po_set (cs':=#[.int .u64 0,.int .u64 0,.slice R2 m2 d2,.bool false,.int .u64 0,.bool false,.int .u64 ((q7:Int)+1),.slice none 0 0,.slice none 0 0,.slice none 0 0]) (i:=6) rfl vb
     simp only[List.set_cons_succ,List.set_cons_zero]at vj
     replace NK:=zqH vj
     clear vj
     have vk:=(NE.out.po_step HST.out).po_set (cs':=#[.int .u64 0,.int .u64 0,.slice R2 m2 d2,.bool false,.int .u64 0,.bool false,.int .u64 ((q7:Int)+1),.slice none 0 0,.slice none 0 0,.slice none 0 0]) (i:=6) rfl vb
     simp only[List.set_cons_succ,List.set_cons_zero]at vk
     replace NE:=zqH vk
     clear vk
     have qNW:=(NW.out.po_step HST.out).po_set (cs':=#[.int .u64 0,.int .u64 0,.slice R2 m2 d2,.bool false,.int .u64 0,.bool false,.int .u64 ((q7:Int)+1),.slice none 0 0,.slice none 0 0,.slice none 0 0]) (i:=6) rfl vb
     simp only[List.set_cons_succ,List.set_cons_zero]at qNW
     replace NW:=zqH qNW
     clear qNW
     have g:=HG2.out.set (i:=6) rfl vb hh3
     simp only[List.set_cons_succ,List.set_cons_zero]at g
     replace HG:=zqH g
     clear g hh vc hh3 vb hWI HH HG2 HST
     exact⟨0,q7,1,zqH ⟨S8,_,_,Fa8,HG.out,HL.out,HHD.out,(by have:=HQ1.out.1;have:=HQ7.out;exact⟨by omega,by omega,by omega,by omega,by omega,by omega⟩),.inr ⟨by first|trivial|rfl,HC.out,rfl,by have:=HQ7.out;omega,HHQ.out,rfl⟩,N2.out,N9.out,NB_.out,NC.out,NK.out,NE.out,NW.out⟩⟩
  case rest=>
   obtain⟨t7,q7,k7,hcc⟩:=hcut
   obtain⟨WJ,hWJ⟩:∃WJ,WJ=wc:=⟨_,rfl⟩
   subst hWJ
   obtain⟨S7,M7,N7,Fa7,hg,hl,hh,hb,hcase,pN2,pN9,pNB_,pNC,pNK,pNE,pNW⟩:=hcc.out
   clear HG HL HC HHD hcc N2 N9 NB_ NC NK NE NW
   have HG:=zqH hg;have HL:=zqH hl;have HHD:=zqH hh;have HB7:=zqH hb;have HCA:=zqH hcase;have N2:=zqH pN2;have N9:=zqH pN9;have NB_:=zqH pNB_;have NC:=zqH pNC;have NK:=zqH pNK;have NE:=zqH pNE;have NW:=zqH pNW
   clear hg hl hh hb hcase pN2 pN9 pNB_ pNC pNK pNE pNW
   have hrb:sumq t7 gs2<=n2*Gn.B ^ 4:=by rw[<-HQ2.out.2.1];exact sumq_le (gs_lt HQ2.out.2.2)
   have hsz:t7=0->sumq t7 gs2=0:=fun h=>by
    rw[h];exact sumq0 gs2
   obtain⟨r8,hr8⟩:∃r8,r8=r1+sumq t7 gs2:=⟨_,rfl⟩
   obtain⟨q8,hq8⟩:∃q8,q8=q7+n2:=⟨_,rfl⟩
   have hpay:=pay_a (cg:=c2) (n:=t7) (R:=R2) (m:=m2) (d:=d2) (HG.out.new HWP.out.2.2 HWP.out.1 HWP.out.2.1) (HG.out.gF HWP.out.2.2 HWP.out.1) HWP.out.2.1 HQ2.out.2.2 HQ2.out.2.1 HQ2.out.1 HL.out HG.out.sf HB7.out.2.2.2.2.2 (by have:=HB7.out;omega) HB7.out.1 (by have:=HB7.out;omega) (by have:=HB7.out;omega) HRR.out.2.1
   rw[<-hq8,<-hr8]at hpay
   have HPAY:=zqH hpay
   have HR8:=zqH (show r8<Gn.B ^ 30/\r1<=r8/\(t7=0->r8=r1)/\q8=q7+n2 from⟨by have:=HRR.out.2.1;omega,by omega,fun h=>by rw[hr8,hsz h,Nat.add_zero],hq8⟩)
   clear hrb hsz hr8 hq8 hpay HRR HR1 HR2
   have kl:=HG.out.k (i:=6) rfl
   obtain⟨l0,l1,l2,l3,l4,l5,l6,l7,l8,l9⟩:=zqC kl
   clear kl
   go_upto_region 19 with(go_at_call 41
                          refine HPAY.out.mono ?_
                          rintro e w17 ⟨B8,m8,d8,rfl,h8,Fa9,S9,hsf,st,vf,hcc,ve⟩
                          have hg:=HG.out.step st hsf
                          have HG2:=zqH hg
                          obtain⟨g0,y0,g1,y1,g2,y2,g3,y3,g4,y4,g5,y5,g6,y6,g7,y7,g8,y8,g9,y9,hh,vc⟩:=put10 (hg.k (i:=6) rfl) (.int .u64 0) (.int .u64 (t7:Int)) (.slice R2 m2 d2) (.bool false) (.int .u64 0) (.bool false) (.int .u64 ((q8:Int)+1)) (.slice none 0 0) (.slice B8 m8 d8) (.slice none 0 0)
                          have HH:=zqH (And.intro hh vc)
                          have HST:=zqH (And.intro st (And.intro vf (And.intro hcc ve)))
                          clear HPAY hsf st hg hh vc vf hcc ve h8)
   clear l0 l1 l2 l3 l4 l5 l6 l7 l8 l9 g0 y0 g1 y1 g2 y2 g3 y3 g4 y4 g5 y5 g6 y6 g7 y7 g8 y8 g9 y9
   obtain⟨hh,vc⟩:=HH.out
   obtain⟨WK,hWK,hh3,vb⟩:=letW hh vc
   rw[hWK]
   have vg:=(N2.out.po_step HST.out.1).po_set (cs':=#[.int .u64 0,.int .u64 (t7:Int),.slice R2 m2 d2,.bool false,.int .u64 0,.bool false,.int .u64 ((q8:Int)+1),.slice none 0 0,.slice B8 m8 d8,.slice none 0 0]) (i:=6) rfl vb
   simp only[List.set_cons_succ,List.set_cons_zero]at vg
   replace N2:=zqH vg
   clear vg
   have vh:=(N9.out.po_step HST.out.1).po_set (cs':=#[.int .u64 0,.int .u64 (t7:Int),.slice R2 m2 d2,.bool false,.int .u64 0,.bool false,.int .u64 ((q8:Int)+1),.slice none 0 0,.slice B8 m8 d8,.slice none 0 0]) (i:=6) rfl vb
   simp only[List.set_cons_succ,List.set_cons_zero]at vh
   replace N9:=zqH vh
   clear vh
   have va:=(NB_.out.po_step HST.out.1).po_set (cs':=#[.int .u64 0,.int .u64 (t7:Int),.slice R2 m2 d2,.bool false,.int .u64 0,.bool false,.int .u64 ((q8:Int)+1),.slice none 0 0,.slice B8 m8 d8,.slice none 0 0]) (i:=6) rfl vb
   simp only[List.set_cons_succ,List.set_cons_zero]at va
   replace NB_:=zqH va
   clear va
   have vi:=(NC.out.po_step HST.out.1).po_set (cs':=#[.int .u64 0,.int .u64 (t7:Int),.slice R2 m2 d2,.bool false,.int .u64 0,.bool false,.int .u64 ((q8:Int)+1),.slice none 0 0,.slice B8 m8 d8,.slice none 0 0]) (i:=6) rfl vb
   simp only[List.set_cons_succ,List.set_cons_zero]at vi
   replace NC:=zqH vi
   clear vi
   have vj:=(NK.out.po_step HST.out.1).po_set (cs':=#[.int .u64 0,.int .u64 (t7:Int),.slice R2 m2 d2,.bool false,.int .u64 0,.bool false,.int .u64 ((q8:Int)+1),.slice none 0 0,.slice B8 m8 d8,.slice none 0 0]) (i:=6) rfl vb
   simp only[List.set_cons_succ,List.set_cons_zero]at vj
   replace NK:=zqH vj
   clear vj
   have vk:=(NE.out.po_step HST.out.1).po_set (cs':=#[.int .u64 0,.int .u64 (t7:Int),.slice R2 m2 d2,.bool false,.int .u64 0,.bool false,.int .u64 ((q8:Int)+1),.slice none 0 0,.slice B8 m8 d8,.slice none 0 0]) (i:=6) rfl vb
   simp only[List.set_cons_succ,List.set_cons_zero]at vk
   replace NE:=zqH vk
   clear vk
   have qNW:=(NW.out.po_step HST.out.1).po_set (cs':=#[.int .u64 0,.int .u64 (t7:Int),.slice R2 m2 d2,.bool false,.int .u64 0,.bool false,.int .u64 ((q8:Int)+1),.slice none 0 0,.slice B8 m8 d8,.slice none 0 0]) (i:=6) rfl vb
   simp only[List.set_cons_succ,List.set_cons_zero]at qNW
   replace NW:=zqH qNW
   clear qNW
   have g:=HG2.out.set (i:=6) rfl vb hh3
   simp only[List.set_cons_succ,List.set_cons_zero]at g
   replace HG:=zqH g
   clear g
   replace HL:=zqH HST.out.2.1
   have hone:∀dp,dp<=n1->OneCut S9 t7 r8 dp k7:=fun dp hdp=>by
    rcases HCA.out with⟨_,h1,_,h3⟩|⟨_,h1,h2,h3,h4,h5⟩
    · exact .inl ⟨HST.out.2.2.1.trans h1,h3⟩
    · exact .inr ⟨q7,n,HST.out.2.2.1.trans h1,((HST.out.2.2.2 _ _ (Nat.le_refl _) h4).1).trans (HR8.out.2.2.1 h2).symm,by omega,HNN.out.2.1,h5⟩
   have HONE:=zqH hone
   have HD1:=zqH (HST.out.2.2.2 _ _ HB7.out.2.2.2.2.1 HHD.out).1
   clear hh vc hh3 vb hWK HH HG2 HST hone HHD
   have kl:=HG.out.k (i:=6) rfl
   obtain⟨l0,l1,l2,l3,l4,l5,l6,l7,l8,l9⟩:=zqC kl
   clear kl
   have ky:=HG.out.k (i:=4) rfl
   have y0:=zaa ky 0 _ rfl;have y1:=zaa ky 1 _ rfl;have y2:=zaa ky 2 _ rfl
   clear ky
   have HCL:=zqH (claim_a (n:=t7) (R:=R2) (m:=m2) (d:=d2) (A8:=B8) (n8:=m8) (c8:=d8) (A1:=R9) (n1:=m9) (c1:=d9) (dp:=0) (kv:=(k7:Int)) (k:=k7) ((q8:Int)+1) 0 rfl rfl rfl HL.out (HONE.out 0 (Nat.zero_le _)) HG.out.sf NB_.out.po_off.lq HL.out.zero (by omega) HZB.out (by have:=HQ2.out.1;have:=HB7.out;have:=HR8.out.2.2.2;exact⟨by omega,HR8.out.1,by omega,by omega⟩))
   go_upto_region 20 with(go_at_call 19;refine HCL.out.mono ?_;rintro e w19 ⟨RX,mRX,dRX,rfl,hsf,hu,hlr⟩;have HH:=zqH (And.intro hsf (And.intro hu hlr));clear hsf hu hlr)
   clear l0 l1 l2 l3 l4 l5 l6 l7 l8 l9 y0 y1 y2 HCL
   have NX:=zqH (HH.out.2.2.po_of HG.out)
   obtain⟨WL,hWL⟩:∃W,W=w19.alloc (.cells #[.slice RX mRX dRX] 26):=⟨_,rfl⟩
   rw[<-hWL]
   have g:=(HG.out.bsd HH.out.2.1 HH.out.1).alloc #[.slice RX mRX dRX] 26
   rw[<-hWL]at g
   have vg:=(N2.out.po_bs HH.out.2.1).po_alloc #[.slice RX mRX dRX] 26
   rw[<-hWL]at vg
   have vh:=(N9.out.po_bs HH.out.2.1).po_alloc #[.slice RX mRX dRX] 26
   rw[<-hWL]at vh
   have va:=(NB_.out.po_bs HH.out.2.1).po_alloc #[.slice RX mRX dRX] 26
   rw[<-hWL]at va
   have vi:=(NC.out.po_bs HH.out.2.1).po_alloc #[.slice RX mRX dRX] 26
   rw[<-hWL]at vi
   have vj:=(NK.out.po_bs HH.out.2.1).po_alloc #[.slice RX mRX dRX] 26
   rw[<-hWL]at vj
   have vk:=(NE.out.po_bs HH.out.2.1).po_alloc #[.slice RX mRX dRX] 26
   rw[<-hWL]at vk
   have qNW:=(NW.out.po_bs HH.out.2.1).po_alloc #[.slice RX mRX dRX] 26
   rw[<-hWL]at qNW
   have qNX:=NX.out.po_alloc #[.slice RX mRX dRX] 26
   rw[<-hWL]at qNX
   clear hWL
   replace HG:=zqH g
   clear g
   replace N2:=zqH vg
   clear vg
   replace N9:=zqH vh
   clear vh
   replace NB_:=zqH va
   clear va
   replace NC:=zqH vi
   clear vi
   replace NK:=zqH vj
   clear vj
   replace NE:=zqH vk
   clear vk
   replace NW:=zqH qNW
   clear qNW
   replace NX:=zqH qNX
   clear qNX
   clear HH
   have kl:=HG.out.k (i:=7) rfl
   obtain⟨l0,l1,l2,l3,l4,l5,l6,l7,l8,l9⟩:=zqC kl
   clear kl
   have ky:=HG.out.k (i:=4) rfl
   have y0:=zaa ky 0 _ rfl;have y1:=zaa ky 1 _ rfl;have y2:=zaa ky 2 _ rfl
   clear ky
   have HCL:=zqH (claim_a (n:=t7) (R:=R2) (m:=m2) (d:=d2) (A8:=B8) (n8:=m8) (c8:=d8) (A1:=R9) (n1:=m9) (c1:=d9) (dp:=0) (kv:=(k7:Int)) (k:=k7) ((q8:Int)+1) 0 rfl rfl rfl HL.out (HONE.out 0 (Nat.zero_le _)) HG.out.sf NC.out.po_off.lq HL.out.zero (by omega) HZB.out (by have:=HQ2.out.1;have:=HB7.out;have:=HR8.out.2.2.2;exact⟨by omega,HR8.out.1,by omega,by omega⟩))
   go_upto_region 21 with(go_at_call 19;refine HCL.out.mono ?_;rintro e w20 ⟨RY,mRY,dRY,rfl,hsf,hu,hlr⟩;have HH:=zqH (And.intro hsf (And.intro hu hlr));clear hsf hu hlr)
   clear l0 l1 l2 l3 l4 l5 l6 l7 l8 l9 y0 y1 y2 HCL
   have NY:=zqH (HH.out.2.2.po_of HG.out)
   obtain⟨WM,hWM⟩:∃W,W=w20.alloc (.cells #[.slice RY mRY dRY] 26):=⟨_,rfl⟩
   rw[<-hWM]
   have g:=(HG.out.bsd HH.out.2.1 HH.out.1).alloc #[.slice RY mRY dRY] 26
   rw[<-hWM]at g
   have vg:=(N2.out.po_bs HH.out.2.1).po_alloc #[.slice RY mRY dRY] 26
   rw[<-hWM]at vg
   have vh:=(N9.out.po_bs HH.out.2.1).po_alloc #[.slice RY mRY dRY] 26
   rw[<-hWM]at vh
   have va:=(NB_.out.po_bs HH.out.2.1).po_alloc #[.slice RY mRY dRY] 26
   rw[<-hWM]at va
   have vi:=(NC.out.po_bs HH.out.2.1).po_alloc #[.slice RY mRY dRY] 26
   rw[<-hWM]at vi
   have vj:=(NK.out.po_bs HH.out.2.1).po_alloc #[.slice RY mRY dRY] 26
   rw[<-hWM]at vj
   have vk:=(NE.out.po_bs HH.out.2.1).po_alloc #[.slice RY mRY dRY] 26
   rw[<-hWM]at vk
   have qNW:=(NW.out.po_bs HH.out.2.1).po_alloc #[.slice RY mRY dRY] 26
   rw[<-hWM]at qNW
   have qNX:=(NX.out.po_bs HH.out.2.1).po_alloc #[.slice RY mRY dRY] 26
   rw[<-hWM]at qNX
   have qNY:=NY.out.po_alloc #[.slice RY mRY dRY] 26
   rw[<-hWM]at qNY
   clear hWM
   replace HG:=zqH g
   clear g
   replace N2:=zqH vg
   clear vg
   replace N9:=zqH vh
   clear vh
   replace NB_:=zqH va
   clear va
   replace NC:=zqH vi
   clear vi
   replace NK:=zqH vj
   clear vj
   replace NE:=zqH vk
   clear vk
   replace NW:=zqH qNW
   clear qNW
   replace NX:=zqH qNX
   clear qNX
   replace NY:=zqH qNY
   clear qNY
   clear HH
   have kl:=HG.out.k (i:=8) rfl
   obtain⟨l0,l1,l2,l3,l4,l5,l6,l7,l8,l9⟩:=zqC kl
   clear kl
   have ky:=HG.out.k (i:=4) rfl
   have y0:=zaa ky 0 _ rfl;have y1:=zaa ky 1 _ rfl;have y2:=zaa ky 2 _ rfl
   clear ky
   have HCL:=zqH (claim_a (n:=t7) (R:=R2) (m:=m2) (d:=d2) (A8:=B8) (n8:=m8) (c8:=d8) (A1:=RZ) (n1:=mZ) (c1:=dZ) (dp:=0) (kv:=(k7:Int)) (k:=k7) ((q8:Int)+1) 0 rfl rfl rfl HL.out (HONE.out 0 (Nat.zero_le _)) HG.out.sf NK.out.po_off.lq HL.out.zero (by omega) HZZ.out (by have:=HQ2.out.1;have:=HB7.out;have:=HR8.out.2.2.2;exact⟨by omega,HR8.out.1,by omega,by omega⟩))
   go_upto_region 22 with(go_at_call 19;refine HCL.out.mono ?_;rintro e w21 ⟨RT,mRT,dRT,rfl,hsf,hu,hlr⟩;have HH:=zqH (And.intro hsf (And.intro hu hlr));clear hsf hu hlr)
   clear l0 l1 l2 l3 l4 l5 l6 l7 l8 l9 y0 y1 y2 HCL
   have NT:=zqH (HH.out.2.2.po_of HG.out)
   obtain⟨WN,hWN⟩:∃W,W=w21.alloc (.cells #[.slice RT mRT dRT] 26):=⟨_,rfl⟩
   rw[<-hWN]
   have g:=(HG.out.bsd HH.out.2.1 HH.out.1).alloc #[.slice RT mRT dRT] 26
   rw[<-hWN]at g
   have vg:=(N2.out.po_bs HH.out.2.1).po_alloc #[.slice RT mRT dRT] 26
   rw[<-hWN]at vg
   have vh:=(N9.out.po_bs HH.out.2.1).po_alloc #[.slice RT mRT dRT] 26
   rw[<-hWN]at vh
   have va:=(NB_.out.po_bs HH.out.2.1).po_alloc #[.slice RT mRT dRT] 26
   rw[<-hWN]at va
   have vi:=(NC.out.po_bs HH.out.2.1).po_alloc #[.slice RT mRT dRT] 26
   rw[<-hWN]at vi
   have vj:=(NK.out.po_bs HH.out.2.1).po_alloc #[.slice RT mRT dRT] 26
   rw[<-hWN]at vj
   have vk:=(NE.out.po_bs HH.out.2.1).po_alloc #[.slice RT mRT dRT] 26
   rw[<-hWN]at vk
   have qNW:=(NW.out.po_bs HH.out.2.1).po_alloc #[.slice RT mRT dRT] 26
   rw[<-hWN]at qNW
   have qNX:=(NX.out.po_bs HH.out.2.1).po_alloc #[.slice RT mRT dRT] 26
   rw[<-hWN]at qNX
   have qNY:=(NY.out.po_bs HH.out.2.1).po_alloc #[.slice RT mRT dRT] 26
   rw[<-hWN]at qNY
   have qNT:=NT.out.po_alloc #[.slice RT mRT dRT] 26
   rw[<-hWN]at qNT
   clear hWN
   replace HG:=zqH g
   clear g
   replace N2:=zqH vg
   clear vg
   replace N9:=zqH vh
   clear vh
   replace NB_:=zqH va
   clear va
   replace NC:=zqH vi
   clear vi
   replace NK:=zqH vj
   clear vj
   replace NE:=zqH vk
   clear vk
   replace NW:=zqH qNW
   clear qNW
   replace NX:=zqH qNX
   clear qNX
   replace NY:=zqH qNY
   clear qNY
   replace NT:=zqH qNT
   clear qNT
   clear HH
   have kl:=HG.out.k (i:=9) rfl
   obtain⟨l0,l1,l2,l3,l4,l5,l6,l7,l8,l9⟩:=zqC kl
   clear kl
   have ky:=HG.out.k (i:=4) rfl
   have y0:=zaa ky 0 _ rfl;have y1:=zaa ky 1 _ rfl;have y2:=zaa ky 2 _ rfl
   clear ky
   have HCL:=zqH (claim_a (n:=t7) (R:=R2) (m:=m2) (d:=d2) (A8:=B8) (n8:=m8) (c8:=d8) (A1:=R9) (n1:=m9) (c1:=d9) (dp:=n1) (kv:=(k7:Int)) (k:=k7) ((q8:Int)+1) (n1:Int) rfl rfl rfl HL.out (HONE.out n1 (Nat.le_refl _)) HG.out.sf NE.out.po_off.lq HD1.out (by have:=HQ1.out.1;omega) HZB.out (by have:=HQ2.out.1;have:=HB7.out;have:=HR8.out.2.2.2;exact⟨by omega,HR8.out.1,by omega,by omega⟩))
   go_upto_region 23 with(go_at_call 19;refine HCL.out.mono ?_;rintro e w22 ⟨RU,mRU,dRU,rfl,hsf,hu,hlr⟩;have HH:=zqH (And.intro hsf (And.intro hu hlr));clear hsf hu hlr)
   clear l0 l1 l2 l3 l4 l5 l6 l7 l8 l9 y0 y1 y2 HCL
   have NU:=zqH (HH.out.2.2.po_of HG.out)
   obtain⟨WO,hWO⟩:∃W,W=w22.alloc (.cells #[.slice RU mRU dRU] 26):=⟨_,rfl⟩
   rw[<-hWO]
   have g:=(HG.out.bsd HH.out.2.1 HH.out.1).alloc #[.slice RU mRU dRU] 26
   rw[<-hWO]at g
   have vg:=(N2.out.po_bs HH.out.2.1).po_alloc #[.slice RU mRU dRU] 26
   rw[<-hWO]at vg
   have vh:=(N9.out.po_bs HH.out.2.1).po_alloc #[.slice RU mRU dRU] 26
   rw[<-hWO]at vh
   have va:=(NB_.out.po_bs HH.out.2.1).po_alloc #[.slice RU mRU dRU] 26
   rw[<-hWO]at va
   have vi:=(NC.out.po_bs HH.out.2.1).po_alloc #[.slice RU mRU dRU] 26
   rw[<-hWO]at vi
   have vj:=(NK.out.po_bs HH.out.2.1).po_alloc #[.slice RU mRU dRU] 26
   rw[<-hWO]at vj
   have vk:=(NE.out.po_bs HH.out.2.1).po_alloc #[.slice RU mRU dRU] 26
   rw[<-hWO]at vk
   have qNW:=(NW.out.po_bs HH.out.2.1).po_alloc #[.slice RU mRU dRU] 26
   rw[<-hWO]at qNW
   have qNX:=(NX.out.po_bs HH.out.2.1).po_alloc #[.slice RU mRU dRU] 26
   rw[<-hWO]at qNX
   have qNY:=(NY.out.po_bs HH.out.2.1).po_alloc #[.slice RU mRU dRU] 26
   rw[<-hWO]at qNY
   have qNT:=(NT.out.po_bs HH.out.2.1).po_alloc #[.slice RU mRU dRU] 26
   rw[<-hWO]at qNT
   have qNU:=NU.out.po_alloc #[.slice RU mRU dRU] 26
   rw[<-hWO]at qNU
   clear hWO
   replace HG:=zqH g
   clear g
   replace N2:=zqH vg
   clear vg
   replace N9:=zqH vh
   clear vh
   replace NB_:=zqH va
   clear va
   replace NC:=zqH vi
   clear vi
   replace NK:=zqH vj
   clear vj
   replace NE:=zqH vk
   clear vk
   replace NW:=zqH qNW
   clear qNW
   replace NX:=zqH qNX
   clear qNX
   replace NY:=zqH qNY
   clear qNY
   replace NT:=zqH qNT
   clear qNT
   replace NU:=zqH qNU
   clear qNU
   clear HH
   obtain⟨xx,hxx⟩:∃xx,xx=z*(r8-0) / 10 ^ 36:=⟨_,rfl⟩
   obtain⟨xw,hxw⟩:∃xw,xw=z*(r1-0) / 10 ^ 36:=⟨_,rfl⟩
   obtain⟨xt,hxt⟩:∃xt,xt=(z+z)*(r8-0) / 10 ^ 36:=⟨_,rfl⟩
   obtain⟨xu,hxu⟩:∃xu,xu=z*(r8-r1) / 10 ^ 36:=⟨_,rfl⟩
   have hf1:cb=true->xw=xx/\xu=0/\k7=1:=fun h=>by
    rcases HCA.out with⟨h1,_⟩|⟨_,_,h2,_,_,h5⟩
    · rw[h1]at h;cases h
    · have:=HR8.out.2.2.1 h2
      subst this
      exact⟨by rw[hxw,hxx],by rw[hxu,Nat.sub_self,Nat.mul_zero,Nat.zero_div],h5⟩
   have hf2:xx+xx<=xt:=by
    rw[hxx,hxt,Nat.add_mul]
    exact(Nat.le_div_iff_mul_le (by decide)).2 (by rw[Nat.add_mul];exact Nat.add_le_add (Nat.div_mul_le_self _ _) (Nat.div_mul_le_self _ _))
   have hf3:xu<=xx:=by rw[hxu,hxx];exact Nat.div_le_div_right (Nat.mul_le_mul_left _ (by omega))
   have hf4:xx+xx<Gn.B ^ 1000:=by
    have h1:xx<Gn.B ^ 60:=by
     have h1:=Nat.mul_lt_mul'' HZB.out (show r8-0<Gn.B ^ 30 from HR8.out.1)
     rw[<-Nat.pow_add]at h1
     rw[hxx]
     exact Nat.lt_of_le_of_lt (Nat.div_le_self _ _) h1
    have h2:Gn.B ^ 60+Gn.B ^ 60<=Gn.B ^ 1000:=Nat.le_trans (show Gn.B ^ 60+Gn.B ^ 60<=Gn.B ^ 61 by decide) (@zbj 61 1000 (by omega))
    omega
   rw[<-hxx]at NX NY
   rw[<-hxw]at NW
   rw[<-hxt]at NT
   rw[<-hxu]at NU
   have HF:=zqH (And.intro hf1 (And.intro hf2 (And.intro hf3 hf4)))
   clear hxx hxw hxt hxu hf1 hf2 hf3 hf4
   clear N2
   clear N9
   clear NB_
   clear NC
   clear NK
   clear NE
   obtain⟨tk,htk⟩:∃tk,((k7:Int) != 1)=tk:=⟨_,rfl⟩
   have HTK:=zqH htk
   have kx:=HG.out.k (i:=3) rfl
   have x0:=zaa kx 0 _ rfl
   clear kx
   have ky:=HG.out.k (i:=2) rfl
   have y0:=zaa ky 0 _ rfl
   clear ky
   have kt:=HG.out.k (i:=1) rfl
   have t0:=zaa kt 0 _ rfl
   clear kt
   have ku:=HG.out.k (i:=0) rfl
   have u0:=zaa ku 0 _ rfl
   clear ku
   have kv:=HG.out.k (i:=4) rfl
   have v0:=zaa kv 0 _ rfl
   clear kv
   have HKX:=zqH (fun(w':World) (hn:New WO w')=>(⟨(hn.cell (a:=⟨w19.heap.size,0,none⟩) (zqB WO _ x0) id).trans x0,(hn.cell (a:=⟨w20.heap.size,0,none⟩) (zqB WO _ y0) id).trans y0,(hn.cell (a:=⟨w21.heap.size,0,none⟩) (zqB WO _ t0) id).trans t0,(hn.cell (a:=⟨w22.heap.size,0,none⟩) (zqB WO _ u0) id).trans u0⟩:w'.cell? ⟨w19.heap.size,0,none⟩=some (.slice RX mRX dRX)/\w'.cell? ⟨w20.heap.size,0,none⟩=some (.slice RY mRY dRY)/\w'.cell? ⟨w21.heap.size,0,none⟩=some (.slice RT mRT dRT)/\w'.cell? ⟨w22.heap.size,0,none⟩=some (.slice RU mRU dRU)))
   go_cut [150] (fun s150 wx=>s150=.bool false/\Hid (New WO wx))
   case first=>
    cases cb with
    | false=>
      clear htk
      go_wp2
      go_meet
      exact⟨by first|trivial|rfl,zqH (Upd.refl _ _)⟩
    | true=>
      obtain⟨h1,h2,h3⟩:=HF.out.1 rfl
      have htk2:tk=false:=by rw[<-HTK.out,h3];rfl
      have hD:=dcmp_c (NX.out.lq) (NW.out.lq)
      rw[h1,show cmpI (xx:Int) (xx:Int)=0 from cmpI_eq (by omega) (by omega)]at hD
      have hE:=fun w' (hn:New WO w')=>dzero_c (NU.out.lq.new hn)
      rw[h2]at hE
      have HD:=zqH hD;have HE:=zqH hE;have HTK2:=zqH htk2
      clear h1 h2 h3 hD hE htk2
      go_wp2_with (first
       | (go_at_call 37;refine HD.out.mono ?_;rintro e wa ⟨rfl,hn⟩;obtain⟨a1,a2,a3,a4⟩:=HKX.out _ hn;have HN:=zqH hn;clear hn)
       | (go_at_call 26;refine(HE.out _ HN.out).mono ?_;rintro e wb ⟨rfl,hn⟩;have HNB:=zqH (HN.out.trans hn);clear hn))
      go_meet
      exact⟨by rw[HTK2.out],zqH HNB.out⟩
   case rest=>
    obtain⟨rfl,hnx⟩:=hcut
    obtain⟨WP,hWP⟩:∃WP,WP=wc:=⟨_,rfl⟩
    subst hWP
    have HNX:=zqH hnx.out
    clear hnx htk HTK NW x0 y0 t0 u0 v0
    obtain⟨D1,hD1⟩:∃D1,D1=cmpI (xx:Int) (xx:Int):=⟨_,rfl⟩
    obtain⟨D2,hD2⟩:∃D2,D2=cmpI (xt:Int) ((xx+xx:Nat):Int):=⟨_,rfl⟩
    obtain⟨D3,hD3⟩:∃D3,D3=cmpI (xu:Int) (xx:Int):=⟨_,rfl⟩
    have hd1:(D1 == 0)=true:=by rw[hD1,cmpI_eq (by omega) (by omega)];rfl
    have hd2:decide (D2 ≥ (0:Int))=true:=by rw[hD2];exact cmp_geq HF.out.2.1
    have hd3:decide (D3<=(0:Int))=true:=by rw[hD3];exact cmp_leq HF.out.2.2.1
    have hC1:=fun W' (hn:New WO W')=>dcmp_c (NX.out.lq.new hn) (NY.out.lq.new hn)
    rw[<-hD1]at hC1
    have hC3:=fun W' (hn:New WO W')=>dcmp_c (NU.out.lq.new hn) (NX.out.lq.new hn)
    rw[<-hD3]at hC3
    have HC1:=zqH hC1;have HD2:=zqH hD2;have HC3:=zqH hC3
    clear hC1 hD1 hD2 hC3 hD3
    go_upto_region 25 with fail
    obtain⟨s1,s2,s3,s4⟩:=HKX.out WP HNX.out
    go_region_held (fun w'=>w'.cell? ⟨w19.heap.size,0,none⟩=some (.slice RX mRX dRX)/\w'.cell? ⟨w20.heap.size,0,none⟩=some (.slice RY mRY dRY)/\w'.cell? ⟨w21.heap.size,0,none⟩=some (.slice RT mRT dRT)/\w'.cell? ⟨w22.heap.size,0,none⟩=some (.slice RU mRU dRU)) (go_keep) (first
     | (go_at_call_of 37 (Value.agg #[Value.slice RX mRX dRX])
        refine(HC1.out _ (HNX.out.trans (by first|exact(Upd.refl _ WP).drew|exact(Upd.refl _ WP).drewN _))).mono ?_
        rintro e wa ⟨rfl,hna⟩
        have na:New WO wa:=HNX.out.trans (by first|exact(Upd.refl _ WP).drew.trans hna|exact((Upd.refl _ WP).drewN _).trans hna)
        obtain⟨t1,t2,t3,t4⟩:=HKX.out _ na
        have E1:=zqH na
        clear hna na s1 s2 s3 s4)
     | (go_at_call 36
        refine(dadd_c (NX.out.lq.new E1.out) (NY.out.lq.new E1.out) HF.out.2.2.2).mono ?_
        rintro e wb ⟨Al,ml,cl,rfl,hrc,hnc⟩
        have nb:New WO wb:=E1.out.trans hnc
        obtain⟨u1,u2,u3,u4⟩:=HKX.out _ nb
        have E2:=zqH (And.intro hrc nb)
        clear hrc hnc nb t1 t2 t3 t4)
     | (go_at_call_of 37 (Value.agg #[Value.slice RT mRT dRT])
        refine(dcmp_c (NT.out.lq.new E2.out.2) E2.out.1.lq).mono ?_
        rw[<-HD2.out]
        rintro e wd ⟨rfl,hnd⟩
        have nd:New WO wd:=E2.out.2.trans hnd
        obtain⟨x1,x2,x3,x4⟩:=HKX.out _ nd
        have E3:=zqH nd
        clear hnd nd u1 u2 u3 u4)
     | (go_at_call_of 37 (Value.agg #[Value.slice RU mRU dRU])
        refine(HC3.out _ E3.out).mono ?_
        rintro e we ⟨rfl,hne⟩
        have ne:New WO we:=E3.out.trans hne
        obtain⟨y1,y2,y3,y4⟩:=HKX.out _ ne
        have E4:=zqH ne
        clear hne ne x1 x2 x3 x4))
    go_wp2
    go_ret
    exact⟨by simp,(HG.out.new HW.out.1 HW.out.2.1 HW.out.2.2).trans E4.out⟩
end Go.Proofs.YtbhnjkegkadodaaGreatDoor

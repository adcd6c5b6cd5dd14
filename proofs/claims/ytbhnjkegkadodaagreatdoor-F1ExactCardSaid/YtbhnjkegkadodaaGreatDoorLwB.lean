/- A part of the proof of the statement of this seat: no condition. -/
import Derived.Test.YtbhnjkegkadodaaGreatDoorQ17
import Derived.Test.YtbhnjkegkadodaaGreatDoorKMok
import Derived.Test.YtbhnjkegkadodaaGreatDoorQ00
import Derived.Deep.DeepCutAuto
set_option linter.unusedVariables false
set_option linter.unusedSimpArgs false
set_option maxRecDepth 100000
set_option maxHeartbeats 8000000
namespace Go.Proofs.YtbhnjkegkadodaaGreatDoor
open Go Go.RowKit Go.Proofs Gl
theorem exact_c {w:World} {tok n1 c1 ng cg sh:Nat} {A1 Ag:Option Addr} (htok:tok<18446744073709551616) (hl:Laid3 w) (hsh:n1<=3->LQ (fun x=>x<w.heap.size) w A1 n1 c1 sh) (hg:Giv w Ag ng):
 Calls Tryz.prog 4 #[.int .u64 (tok:Int),.agg #[.slice A1 n1 c1],.slice Ag ng cg] w fun e w'=>e=.returned (.bool true)/\New w w':=by
 obtain⟨W1,hW1⟩:∃W1,W1=w.alloc (.cells #[.slice A1 n1 c1] 26):=⟨_,rfl⟩
 have hn1:New w W1:=by rw[hW1];exact Upd.alloc _ _ _
 have b1:=Ex.alloc_new w (.cells #[.slice A1 n1 c1] 26)
 rw[<-hW1]at b1
 obtain⟨t3,ht3⟩:=hl
 have hkn:=known_true W1 (t:=t3) ((hn1.block 3 (Array.getElem?_eq_some_iff.1 ht3).1 id).trans ht3)
 have HKN:=Lib.hid hkn;have N1:=Lib.hid hn1;have B1:=Lib.hid b1;have HSH:=Lib.hid hsh;have HG:=Lib.hid hg;have HTOK:=Lib.hid htok
 clear hkn hn1 b1 hsh hg ht3
 go_enter Tryz.func4,Tryz.ntmps4
 go_upto_region 1 with fail
 rw[<-hW1]
 clear hW1
 go_upto_region 3 with(go_at_call 9;refine HKN.out.mono ?_;rintro e W2 ⟨rfl,hf2⟩;have HN2:=Lib.hid (N1.out.trans (new_of_fresh hf2));have HF2:=Lib.hid (new_of_fresh hf2);clear HKN hf2)
 have c0:W2.cell? ⟨w.heap.size,0,none⟩=some (.slice A1 n1 c1):=cell_of ((HF2.out.block _ (Array.getElem?_eq_some_iff.1 B1.out).1 id).trans B1.out) 0 _ rfl
 by_cases hng:40<ng
 · have hd:decide ((40:Int)<(ng:Int))=true:=by simp;omega
   go_wp2
   go_ret
   exact⟨rfl,HN2.out⟩
 · have hd:decide ((40:Int)<(ng:Int))=false:=by simp;omega
   by_cases hn3:3<n1
   · have hd3:decide ((3:Int)<(n1:Int))=true:=by simp;omega
     go_wp2
     go_ret
     exact⟨rfl,HN2.out⟩
   · have hd3:decide ((3:Int)<(n1:Int))=false:=by simp;omega
     go_upto_region 6 with fail
     obtain⟨n,hn⟩:∃n,n=1+tok % 1000000000000000000:=⟨_,rfl⟩
     have hni:1+(tok:Int) % 1000000000000000000=(n:Int):=by rw[hn];omega
     rw[hni]
     have hn0:0<n:=by omega
     have hn64:n<18446744073709551616:=by have:=Nat.mod_lt tok (show 0<1000000000000000000 by decide);omega
     have HNN:=Lib.hid (And.intro hn0 hn64)
     have HSH2:=Lib.hid (HSH.out (by omega))
     clear hn hni hn0 hn64 HSH hd3
     go_upto_region 8 with(first
      | (go_at_call 12;refine knew_f.mono ?_;rintro e w3 ⟨bs,F,rfl,hsf3,hn3',hF3,hbs3⟩;have H3:=Lib.hid (And.intro hsf3 (And.intro hn3' (And.intro hF3 hbs3)));clear hsf3 hn3' hF3 hbs3)
      | (go_at_call 24;refine(of_c (w:=w3) n HNN.out.2).mono ?_;rintro e w4 ⟨R2,m2,d2,rfl,hr4,hn4⟩;have H4:=Lib.hid (And.intro hr4 hn4);clear hr4 hn4)
      | (go_at_call 13;refine(start0 (H3.out.1.new H4.out.2)).mono ?_;rintro e w5 ⟨rfl,F',hsf5,st5⟩;have H5:=Lib.hid (And.intro hsf5 st5);clear hsf5 st5))
     have hs3:sh<Gn.B ^ 3:=Nat.lt_of_lt_of_le HSH2.out.lt (pow_le (by omega))
     have HS3:=Lib.hid hs3
     obtain⟨W6,hW6⟩:∃W6,W6=w5.alloc (.cells #[.int .u64 0,.int .u64 (n:Int),.slice R2 m2 d2,.bool false,.int .u64 0,.bool false,.int .u64 1,.slice none 0 0,.slice none 0 0,.slice none 0 0] 28):=⟨_,rfl⟩
     rw[<-hW6]
     have n6:New w5 W6:=by rw[hW6];exact Upd.alloc _ _ _
     have k9:=Ex.alloc_new w5 (.cells #[.int .u64 0,.int .u64 (n:Int),.slice R2 m2 d2,.bool false,.int .u64 0,.bool false,.int .u64 1,.slice none 0 0,.slice none 0 0,.slice none 0 0] 28)
     rw[<-hW6]at k9
     have s6:W6.heap.size=w5.heap.size+1:=by rw[hW6];exact alloc_size _ _
     have hF3:=H3.out.2.2.1
     have hbs3:=H3.out.2.2.2
     have z1:=N1.out.size
     have z2:=HF2.out.size
     have z3:=H3.out.2.1.size
     have z4:=H4.out.2.size
     have z5:=H5.out.2.upd.size
     have h1s:w.heap.size<W1.heap.size:=(Array.getElem?_eq_some_iff.1 B1.out).1
     have hF5:∀b,F' b->W2.heap.size<=b:=fun b hb=>(H5.out.2.sub b hb).elim (fun h=>hF3 b h) (fun h=>by omega)
     have nW6:New w W6:=((HN2.out.trans H3.out.2.1).trans H4.out.2).then (H5.out.2.upd.trans (n6.mono (fun _ _ h=>h.elim))) (fun b hb h=>h.elim (fun h=>by have:=hF3 b h;omega) (fun h=>by omega))
     have c06:W6.cell? ⟨w.heap.size,0,none⟩=some (.slice A1 n1 c1):=by
      have h2:W2.heap[w.heap.size]?=_:=(HF2.out.block _ h1s id).trans B1.out
      have h4:=(H4.out.2.block w.heap.size (by omega) id).trans ((H3.out.2.1.block w.heap.size (by omega) id).trans h2)
      have h5:=(H5.out.2.upd.block w.heap.size (by omega) (fun h=>h.elim (fun h=>by have:=hF3 _ h;omega) (fun h=>by omega))).trans h4
      exact cell_of ((n6.block _ (by omega) id).trans h5) 0 _ rfl
     have hr4:LN (Off F bs) w4 R2 m2 d2 (n*10 ^ 36):=H4.out.1.mono (fun b _ hb=>by
      have hb:w3.heap.size<=b:=hb
      exact⟨fun hf=>by have:=(H3.out.1.lt hf).1;omega,fun e=>by have:=H3.out.1.bs_lt;omega⟩)
     have hr6:LN (Off F' bs) W6 R2 m2 d2 (n*10 ^ 36):=(hr4.step H5.out.2).new n6
     have hsh6:=HSH2.out.new nW6
     have hhold:=hold0 (H5.out.1.new n6) hr6.lq hsh6 HNN.out.1 HNN.out.2 hs3
     have hb9:w5.heap.size≠bs/\¬F' w5.heap.size:=⟨by have:=H5.out.1.bs_lt;omega,fun hf=>by have:=(H5.out.1.lt hf).1;omega⟩
     have HHO:=Lib.hid hhold;have HR6:=Lib.hid (And.intro hr6 (And.intro nW6 (And.intro k9 (And.intro s6 (And.intro hF5 hb9)))));have HZ:=Lib.hid (show W2.heap.size<=w5.heap.size/\W2.heap.size<=bs/\w.heap.size<W2.heap.size from⟨by omega,hbs3,by omega⟩)
     have l0:=cell_of k9 0 _ rfl;have l1:=cell_of k9 1 _ rfl;have l2:=cell_of k9 2 _ rfl;have l3:=cell_of k9 3 _ rfl;have l4:=cell_of k9 4 _ rfl;have l5:=cell_of k9 5 _ rfl;have l6:=cell_of k9 6 _ rfl;have l7:=cell_of k9 7 _ rfl;have l8:=cell_of k9 8 _ rfl;have l9:=cell_of k9 9 _ rfl
     clear hs3 hW6 n6 k9 s6 hF3 hbs3 z1 z2 z3 z4 z5 h1s hF5 nW6 hr4 hr6 hsh6 hhold hb9 c0
     go_upto_region 9 with(go_at_call 25;refine HHO.out.mono ?_;rintro e w7 ⟨R3,m3,d3,rfl,F3,hsf7,st7,lst7⟩;have H7:=Lib.hid (And.intro hsf7 (And.intro st7 lst7));clear HHO hsf7 st7 lst7)
     obtain⟨W8,hW8⟩:∃W8,W8=w7.alloc (.cells #[.slice A1 n1 c1,.int .u64 0,.slice R3 m3 d3] 55):=⟨_,rfl⟩
     rw[<-hW8]
     have n8:New w7 W8:=by rw[hW8];exact Upd.alloc _ _ _
     have k10:=Ex.alloc_new w7 (.cells #[.slice A1 n1 c1,.int .u64 0,.slice R3 m3 d3] 55)
     rw[<-hW8]at k10
     have s8:W8.heap.size=w7.heap.size+1:=by rw[hW8];exact alloc_size _ _
     obtain⟨hr6,nW6,k9,s6,hF5,hb9⟩:=HR6.out
     obtain⟨hsf7,st7,lst7⟩:=H7.out
     have z7:=st7.upd.size
     have k98:=(n8.block _ (by omega) id).trans ((st7.block (b:=w5.heap.size) (by omega) hb9.2 hb9.1).trans k9)
     have hst8:LN (fun b=>b≠bs) W8 R3 m3 d3 sh:=(lst7.new n8).mono (fun b _ hb=>hb.1.2)
     have hcl:=claim_st (n:=n) (R:=R2) (m:=m2) (d:=d2) (A7:=none) (n7:=0) (c7:=0) (A1:=A1) (n1:=n1) (c1:=c1) (hsf7.new n8) hst8.lq (i:=0) (r:=0) (by decide) (Nat.pow_pos Gn.B_pos) (fun _=>rfl) HS3.out
     have hcl2:Calls Tryz.prog 19 #[.pointer (some ⟨bs,0,none⟩),.int .u64 16,.agg #[.int .u64 0,.int .u64 (n:Int),.slice R2 m2 d2,.bool false,.int .u64 0,.bool false,.int .u64 1,.slice none 0 0,.slice none 0 0,.slice none 0 0],.agg #[.slice A1 n1 c1,.int .u64 0,.slice R3 m3 d3]] W8 (ClaimR F3 bs W8 (F1.ents (F1.st 0 0)) 0 0):=by
      have e:sh*0 / 10 ^ 36=0:=by rw[Nat.mul_zero,Nat.zero_div]
      rw[e]at hcl
      exact hcl
     have HCL:=Lib.hid hcl2
     have H8:=Lib.hid (And.intro n8 (And.intro k10 (And.intro s8 k98)))
     clear l0 l1 l2 l3 l4 l5 l6 l7 l8 l9 hr6 nW6 hF5 hb9 hsf7 st7 lst7 z7 hst8 hcl hcl2 hW8 n8 s8 s6 k9
     have l0:=cell_of k98 0 _ rfl;have l1:=cell_of k98 1 _ rfl;have l2:=cell_of k98 2 _ rfl;have l3:=cell_of k98 3 _ rfl;have l4:=cell_of k98 4 _ rfl;have l5:=cell_of k98 5 _ rfl;have l6:=cell_of k98 6 _ rfl;have l7:=cell_of k98 7 _ rfl;have l8:=cell_of k98 8 _ rfl;have l9:=cell_of k98 9 _ rfl
     have e0:=cell_of k10 0 _ rfl;have e1:=cell_of k10 1 _ rfl;have e2:=cell_of k10 2 _ rfl
     clear k98 k10 c06
     go_upto_region 10 with(go_at_call 19;refine HCL.out.mono ?_;rintro e w9 ⟨Rc,mc,dc,rfl,hsf9,hu9,hl9⟩;have H9:=Lib.hid (And.intro hsf9 (And.intro hu9 hl9));clear HCL hsf9 hu9 hl9)
     clear l0 l1 l2 l3 l4 l5 l6 l7 l8 l9 e0 e1 e2
     obtain⟨W10,hW10⟩:∃W10,W10=w9.alloc (.cells #[.slice Rc mc dc] 26):=⟨_,rfl⟩
     rw[<-hW10]
     have n10:New w9 W10:=by rw[hW10];exact Upd.alloc _ _ _
     have k11:=Ex.alloc_new w9 (.cells #[.slice Rc mc dc] 26)
     rw[<-hW10]at k11
     have HLS:Hid (LS w F3 bs w5.heap.size w7.heap.size w9.heap.size (F1.ents (F1.st 0 0)) #[.int .u64 0,.int .u64 (n:Int),.slice R2 m2 d2,.bool false,.int .u64 0,.bool false,.int .u64 1,.slice none 0 0,.slice none 0 0,.slice none 0 0] #[.slice A1 n1 c1,.int .u64 0,.slice R3 m3 d3] #[.slice Rc mc dc] W10/\LN (PQ F3 bs w5.heap.size w7.heap.size w9.heap.size) W10 R3 m3 d3 sh/\LN (PQ F3 bs w5.heap.size w7.heap.size w9.heap.size) W10 Rc mc dc 0):=by
      obtain⟨hr6,nW6,k9,s6,hF5,hb9⟩:=HR6.out
      obtain⟨hsf7,st7,lst7⟩:=H7.out
      obtain⟨n8,k10,s8,k98⟩:=H8.out
      obtain⟨hsf9,hu9,hl9⟩:=H9.out
      obtain⟨y1,y2,y3⟩:=HZ.out
      have z7:=st7.upd.size
      have z8:=n8.size
      have z9:=hu9.size
      have hbl:=hsf7.bs_lt
      have hF3:∀b,F3 b->w.heap.size<=b:=fun b hb=>(st7.sub b hb).elim (fun h=>by have:=hF5 b h;omega) (fun h=>by omega)
      have hF3l:∀b,F3 b->b<w7.heap.size:=fun b hb=>(hsf7.lt hb).1
      have o9:¬F3 w5.heap.size:=fun hf=>(st7.sub _ hf).elim hb9.2 (fun h=>by omega)
      refine Lib.hid ⟨⟨hsf9.new n10,((nW6.then st7.upd (fun b hb h=>h.elim (fun h=>by have:=hF5 b h;omega) (fun h=>by omega))).trans n8).then (hu9.trans (n10.mono (fun _ _ h=>h.elim))) (fun b hb e=>by have e:b=bs:=e;omega),(n10.block _ (by omega) id).trans ((hu9.block w5.heap.size (by omega) hb9.1).trans k98),(n10.block _ (by omega) id).trans ((hu9.block w7.heap.size (by omega) (by omega)).trans k10),k11,by omega,by omega,by omega,⟨o9,hb9.1⟩,⟨fun hf=>by have:=hF3l _ hf;omega,by omega⟩,⟨fun hf=>by have:=hF3l _ hf;omega,by omega⟩,hF3,by omega,by omega,by omega,by omega⟩,?_,?_⟩
      · have h1:LN (fun b=>(Off F3 bs b/\W6.heap.size<=b)/\b<w7.heap.size) w7 R3 m3 d3 sh:=lst7.mono (fun b hb hq=>⟨hq,hb⟩)
        exact(((h1.new n8).upd hu9 (fun b hq e=>hq.1.1.2 e)).new n10).mono (fun b _ hq=>⟨hq.1.1.1,hq.1.1.2,by omega,by omega,by omega⟩)
      · exact((hl9.mono (Q':=fun b=>W8.heap.size<=b/\b<w9.heap.size) (fun b hb hq=>⟨hq,hb⟩)).new n10).mono (fun b _ hq=>⟨fun hf=>by have:=hF3l _ hf;omega,by omega,by omega,by omega,by omega⟩)
     have c11:=cell_of k11 0 _ rfl
     have hze:=dzero_c HLS.out.2.2.lq
     rw[show decide ((0:Nat)=0)=true from rfl]at hze
     have HZE:=Lib.hid hze
     clear hze n10 k11 hW10
     go_upto_region 12 with(go_at_call 26;refine HZE.out.mono ?_;rintro e W11 ⟨rfl,hn11⟩;have HN11:=Lib.hid hn11;clear HZE hn11)
     have HL0:Hid (∃Rc mc dc,LS w F3 bs w5.heap.size w7.heap.size w9.heap.size (F1.ents (F1.st 0 0)) #[.int .u64 0,.int .u64 (n:Int),.slice R2 m2 d2,.bool false,.int .u64 0,.bool false,.int .u64 (((0:Nat):Int)+1),.slice none 0 0,.slice none 0 0,.slice none 0 0] #[.slice A1 n1 c1,.int .u64 0,.slice R3 m3 d3] #[.slice Rc mc dc] W11/\LN (PQ F3 bs w5.heap.size w7.heap.size w9.heap.size) W11 R3 m3 d3 sh):=
      Lib.hid ⟨Rc,mc,dc,HLS.out.1.nw HN11.out,HLS.out.2.1.pq_new HN11.out⟩
     clear c11 HLS HR6 H7 H8 H9 HZ H3 H4 H5 HN11
     obtain⟨b9,hb9⟩:∃b9,b9=w5.heap.size:=⟨_,rfl⟩
     obtain⟨b10,hb10⟩:∃b10,b10=w7.heap.size:=⟨_,rfl⟩
     obtain⟨b11,hb11⟩:∃b11,b11=w9.heap.size:=⟨_,rfl⟩
     rw[<-hb9,<-hb10,<-hb11]at HL0 ⊢
     clear hb9 hb10 hb11
     have hngl:ng<=40:=by omega
     go_wp2
     go_loopw [13,14] (fun s13 s14 wr=>∃(i:Nat) (Rz:Option Addr) (mz dz:Nat),i<=ng/\s14=.int .i64 (i:Int)/\s13=.slice Rz mz dz/\Hid (∃(F:Nat->Prop) (r G:Nat) (Rc:Option Addr) (mc dc:Nat),LS w F bs b9 b10 b11 (F1.ents (F1.st i r)) #[.int .u64 0,.int .u64 (n:Int),.slice R2 m2 d2,.bool false,.int .u64 0,.bool false,.int .u64 ((i:Int)+1),.slice none 0 0,.slice none 0 0,.slice none 0 0] #[.slice A1 n1 c1,.int .u64 0,.slice R3 m3 d3] #[.slice Rc mc dc] wr/\LN (PQ F bs b9 b10 b11) wr R3 m3 d3 sh/\LN (PQ F bs b9 b10 b11) wr Rz mz dz G/\r*n<=G/\G<=r*n+i*n/\G<=i*Gn.B ^ 4/\(i=0->r=0))) (fun _ s14 _=>ng-(intOf s14).toNat)
     case atStart=>
      obtain⟨Rc,mc,dc,h1,h2⟩:=HL0.out
      exact⟨0,none,0,0,Nat.zero_le _,rfl,rfl,Lib.hid ⟨F3,0,0,Rc,mc,dc,h1,h2,LN.nil _ _,by simp,by simp,by simp,fun _=>rfl⟩⟩
     case round=>
      obtain⟨i,Rz,mz,dz,hi,rfl,rfl,hI⟩:=hrel
      obtain⟨F,r,G,Rc,mc,dc,hI⟩:=hI.out
      have HI:=Lib.hid hI
      clear hI
      by_cases hin:i<ng
      · obtain⟨bg,og,Ai,ni,ci,rfl,hce,hgi⟩:=HG.out i hin
        have hcw:wr.cell? ⟨bg,og+i,none⟩=some (.slice Ai ni ci):=(HI.out.1.new.cell (a:=⟨bg,og+i,none⟩) (World.block_lt_of_cell? w _ hce) id).trans hce
        by_cases hn4:4<ni
        · have hd4:decide ((4:Int)<(ni:Int))=true:=by simp;omega
          go_wp2
          go_ret
          exact⟨rfl,HI.out.1.new⟩
        · have hd4:decide ((4:Int)<(ni:Int))=false:=by simp;omega
          obtain⟨g,hg⟩:=hgi (by omega)
          have hgl:g<Gn.B ^ 4:=Nat.lt_of_lt_of_le hg.lt (pow_le (by omega))
          have x7:=cell_of HI.out.1.k9 7 _ rfl
          have z7:=frozen_of HI.out.1.k9 7
          have HGI:=Lib.hid hg;have HGL:=Lib.hid hgl
          clear hg hgl hgi hn4
          go_upto_region 19 with fail
          obtain⟨w1,hw1⟩:∃w1,w1=wr.setCell ⟨b9,7,none⟩ (.slice Ai ni ci):=⟨_,rfl⟩
          rw[<-hw1]
          have hu1:Upd (fun b=>b=b9) wr w1:=by rw[hw1];exact Upd.setCell wr _ rfl
          have k9a:=setCell_at HI.out.1.k9 (.slice Ai ni ci) (i:=7)
          simp only[List.setIfInBounds_toArray,List.set_cons_succ,List.set_cons_zero]at k9a
          rw[<-hw1]at k9a
          have hls1:=HI.out.1.set9 hu1 k9a
          have hrb:r<Gn.B ^ 30/\r+g / n<Gn.B ^ 30/\r<=G:=by
           have h1:=HI.out.2.2.2.1
           have h2:=HI.out.2.2.2.2.2.1
           have h3:r<=r*n:=Nat.le_mul_of_pos_right _ HNN.out.1
           have h4:i*Gn.B ^ 4<=40*Gn.B ^ 4:=Nat.mul_le_mul_right _ (by omega)
           have h5:g / n<=g:=Nat.div_le_self _ _
           have h6:=HGL.out
           have h7:40*Gn.B ^ 4+Gn.B ^ 4<Gn.B ^ 30:=by decide
           exact⟨by omega,by omega,by omega⟩
          have hclose:=close_stc (R:=R2) (m:=m2) (d:=d2) hls1.sf (HGI.out.new hls1.new) HNN.out.1 HNN.out.2 (by omega) hrb.1 hrb.2.1 HI.out.2.2.2.2.2.2
          obtain⟨i2,hi2⟩:∃i2,i2=i+1:=⟨_,rfl⟩
          rw[<-hi2]at hclose
          have HI2:=Lib.hid hi2
          have HCLO:=Lib.hid hclose;have HL1:=Lib.hid (And.intro hls1 (And.intro (HI.out.2.1.pq_9 hu1) (HI.out.2.2.1.pq_9 hu1)));have HRB:=Lib.hid hrb
          have l0:=cell_of k9a 0 _ rfl;have l1:=cell_of k9a 1 _ rfl;have l2:=cell_of k9a 2 _ rfl;have l3:=cell_of k9a 3 _ rfl;have l4:=cell_of k9a 4 _ rfl;have l5:=cell_of k9a 5 _ rfl;have l6:=cell_of k9a 6 _ rfl;have l7:=cell_of k9a 7 _ rfl;have l8:=cell_of k9a 8 _ rfl;have l9:=cell_of k9a 9 _ rfl
          clear hu1 k9a hls1 hrb hclose hw1 x7 z7 hcw hi2
          go_upto_region 20 with(go_at_call 27
                                 refine HCLO.out.mono ?_
                                 rintro e w2 ⟨rfl,F2,hsf2,st2⟩
                                 have hls2:=HL1.out.1.step st2 hsf2
                                 have HL2:=Lib.hid (And.intro hls2 (And.intro (HL1.out.2.1.pq_step st2) (HL1.out.2.2.pq_step st2)))
                                 obtain⟨g0,y0,g1,y1,g2,y2,g3,y3,g4,y4,g5,y5,g6,y6,g7,y7,g8,y8,g9,y9,hh,hset⟩:=put10 hls2.k9 (.int .u64 0) (.int .u64 (n:Int)) (.slice R2 m2 d2) (.bool false) (.int .u64 0) (.bool false) (.int .u64 ((i2:Int)+1)) (.slice none 0 0) (.slice none 0 0) (.slice none 0 0)
                                 have HH:=Lib.hid (And.intro hh hset)
                                 clear HCLO hsf2 st2 hls2 hh hset)
          clear l0 l1 l2 l3 l4 l5 l6 l7 l8 l9 g0 y0 g1 y1 g2 y2 g3 y3 g4 y4 g5 y5 g6 y6 g7 y7 g8 y8 g9 y9
          obtain⟨hls2,hl2a,hl2b⟩:=HL2.out
          obtain⟨hh,hset⟩:=HH.out
          obtain⟨W3,hW3,hh3,hset3⟩:=letW hh hset
          rw[hW3]
          have hls3:=hls2.set9 hset3 hh3
          have HL3:=Lib.hid (And.intro hls3 (And.intro (hl2a.pq_9 hset3) (hl2b.pq_9 hset3)))
          have hcw:=(hls3.new.cell (a:=⟨bg,og+i,none⟩) (World.block_lt_of_cell? w _ hce) id).trans hce
          have hG2:G+g<Gn.B ^ 30:=by
           have h2:=HI.out.2.2.2.2.2.1
           have h4:i*Gn.B ^ 4<=40*Gn.B ^ 4:=Nat.mul_le_mul_right _ (by omega)
           have h6:=HGL.out
           have h7:40*Gn.B ^ 4+Gn.B ^ 4<Gn.B ^ 30:=by decide
           omega
          have hadd:=nadd HL3.out.2.2.lq (HGI.out.new hls3.new) (Nat.lt_of_lt_of_le hG2 (@pow_le 30 1000 (by omega)))
          have hss:=F1.sum_step r n G g i HNN.out.1 HI.out.2.2.2.1 HI.out.2.2.2.2.1
          have hGB:G+g<=i2*Gn.B ^ 4:=by
           have h2:=HI.out.2.2.2.2.2.1
           have h6:=HGL.out
           rw[HI2.out,Nat.add_mul]
           omega
          obtain⟨r2,hr2⟩:∃r2,r2=r+g / n:=⟨_,rfl⟩
          obtain⟨G2,hG2e⟩:∃G2,G2=G+g:=⟨_,rfl⟩
          rw[<-hr2,<-hG2e,<-HI2.out]at hss
          rw[<-hr2]at hls3
          rw[<-hG2e]at hadd hG2 hGB
          have hrb2:r2<Gn.B ^ 30:=by rw[hr2];exact HRB.out.2.1
          have hi20:0<i2:=by have:=HI2.out;omega
          have hi240:i2<=40:=by have:=HI2.out;omega
          have hbnd:=F1.bnd_of HS3.out HNN.out.1 HNN.out.2 hi20 (by omega) hG2 hss.1 hss.2
          have HBD:=Lib.hid hbnd;have HSS:=Lib.hid (And.intro hss (And.intro hGB (And.intro hrb2 (And.intro hi20 hi240))));have HADD:=Lib.hid hadd;have HL4:=Lib.hid (And.intro hls3 HL3.out.2.1)
          clear hls2 hl2a hl2b hh hset hh3 hset3 hls3 hss hGB hrb2 hi20 hi240 hadd hG2 hbnd HH HL1 HL2 HL3 hr2 hG2e hW3
          go_upto_region 21 with(go_at_call 28;refine HADD.out.mono ?_;rintro e w4 ⟨R4,m4,d4,rfl,hr4,hn4⟩;have H4:=Lib.hid (And.intro (HL4.out.1.nw hn4) (And.intro (HL4.out.2.pq_new hn4) (hr4.pq_of HL4.out.1)));clear hr4 hn4 HADD hcw)
          have l0:=cell_of H4.out.1.k9 0 _ rfl;have l1:=cell_of H4.out.1.k9 1 _ rfl;have l2:=cell_of H4.out.1.k9 2 _ rfl;have l3:=cell_of H4.out.1.k9 3 _ rfl;have l4:=cell_of H4.out.1.k9 4 _ rfl;have l5:=cell_of H4.out.1.k9 5 _ rfl;have l6:=cell_of H4.out.1.k9 6 _ rfl;have l7:=cell_of H4.out.1.k9 7 _ rfl;have l8:=cell_of H4.out.1.k9 8 _ rfl;have l9:=cell_of H4.out.1.k9 9 _ rfl
          have e0:=cell_of H4.out.1.k10 0 _ rfl;have e1:=cell_of H4.out.1.k10 1 _ rfl;have e2:=cell_of H4.out.1.k10 2 _ rfl
          obtain⟨X,hX⟩:∃X,X=sh*r2 / 10 ^ 36:=⟨_,rfl⟩
          have hcl:=claim_st (n:=n) (R:=R2) (m:=m2) (d:=d2) (A7:=none) (n7:=0) (c7:=0) (A1:=A1) (n1:=n1) (c1:=c1) H4.out.1.sf (H4.out.2.1.lq.mono (fun b _ hq=>hq.2.1)) (i:=i2) (r:=r2) (by have:=HSS.out.2.2.2.2;omega) HSS.out.2.2.1 (fun e=>by have:=HSS.out.2.2.2.1;omega) HS3.out
          rw[<-hX]at hcl HBD
          have HCL:=Lib.hid hcl
          clear hcl hX HL4
          go_upto_region 22 with(go_at_call 19
                                 refine HCL.out.mono ?_
                                 rintro e w5 ⟨R5,m5,d5,rfl,hsf5,hu5,hr5⟩
                                 have hls5:=H4.out.1.bsd hu5 hsf5
                                 have k11:=hls5.k11
                                 have y1:=cell_of k11 0 _ rfl
                                 have y2:=frozen_of k11 0
                                 have k11':=setCell_at k11 (.slice R5 m5 d5) (i:=0)
                                 simp only[List.setIfInBounds_toArray,List.set_cons_succ,List.set_cons_zero]at k11'
                                 have H5:=Lib.hid (And.intro hls5 (And.intro (hr5.pq_of H4.out.1) (And.intro (H4.out.2.1.pq_bs hu5) (And.intro (H4.out.2.2.pq_bs hu5) k11'))))
                                 clear hsf5 hu5 hr5 hls5 k11 k11' HCL)
          clear l0 l1 l2 l3 l4 l5 l6 l7 l8 l9 e0 e1 e2 y1 y2
          obtain⟨W6,hW6⟩:∃W6,W6=w5.setCell ⟨b11,0,none⟩ (.slice R5 m5 d5):=⟨_,rfl⟩
          rw[<-hW6]
          obtain⟨hls5,hr5,hr3,hr4,k11'⟩:=H5.out
          rw[<-hW6]at k11'
          have hset:=(show Upd (fun b=>b=b11) w5 W6 by rw[hW6];exact Upd.setCell w5 _ rfl)
          have hls6:=hls5.set11 hset k11'
          have H6:=Lib.hid (And.intro hls6 (And.intro (hr5.pq_11 hset) (And.intro (hr3.pq_11 hset) (hr4.pq_11 hset))))
          have e2:=cell_of hls6.k10 2 _ rfl
          clear hls5 hr5 hr3 hr4 k11' hset hW6 hls6 H5 H4
          have hmul:=nmul H6.out.2.2.1.lq H6.out.2.2.2.lq HBD.out.b1
          have hof1:=fun W=>of_c (w:=W) 1 (by decide)
          obtain⟨U,hU⟩:∃U,U=1*10 ^ 36:=⟨_,rfl⟩
          rw[<-hU]at HBD hof1
          obtain⟨T,hT⟩:∃T,T=sh*G2:=⟨_,rfl⟩
          rw[<-hT]at hmul
          have HMUL:=Lib.hid hmul;have HOF1:=Lib.hid hof1;have HT:=Lib.hid hT
          clear hmul hof1 hU hT
          go_upto_region 23 with(go_at_call 29;refine HMUL.out.mono ?_;rintro e w7 ⟨R7,m7,d7,rfl,hr7,hn7⟩;have H7:=Lib.hid (And.intro hr7 hn7);clear hr7 hn7 HMUL e2)
          have hfl:=fun W R m d=>field26 W R m d
          go_upto_region 24 with(go_at_call 24;refine(HOF1.out w7).mono ?_;rintro e w8 ⟨R8,m8,d8,rfl,hr8,hn8⟩;have H8:=Lib.hid (And.intro hr8 hn8);clear hr8 hn8 HOF1)
          clear hfl
          have n78:=H8.out.2
          have hls8:=(H6.out.1.nw H7.out.2).nw n78
          have H9:=Lib.hid (And.intro hls8 (And.intro ((H6.out.2.2.1.pq_new H7.out.2).pq_new n78) (And.intro ((H6.out.2.1.pq_new H7.out.2).pq_new n78) (And.intro ((H7.out.1.pq_of H6.out.1).pq_new n78) (H8.out.1.pq_of (H6.out.1.nw H7.out.2))))))
          have HR4:=Lib.hid ((H6.out.2.2.2.pq_new H7.out.2).pq_new n78)
          have HK:=Lib.hid (fun W' (hx:New w8 W')=>(hx.cell (a:=⟨b11,0,none⟩) hls8.l11 id).trans (cell_of hls8.k11 0 _ rfl))
          have s0:=HK.out w8 (Upd.refl _ _)
          clear n78 hls8 H6 H7 H8
          go_region_held (fun w'=>w'.cell? ⟨b11,0,none⟩=some (.slice R5 m5 d5)) (go_keep) (first
           | (go_at_call 30
              refine(nof n HNN.out.2 _).mono ?_
              rintro e w9 ⟨A9,k9,c9,rfl,hr9,hn9⟩
              have n9:New w8 w9:=by first|exact(Upd.refl _ w8).drew.trans hn9|exact((Upd.refl _ w8).drewN _).trans hn9
              have s9:=HK.out _ n9
              have E9:=Lib.hid (And.intro hr9 n9)
              clear hr9 hn9 n9 s0)
           | (go_at_call 29
              refine(nmul (H9.out.2.2.1.lq.new E9.out.2) E9.out.1.lq HBD.out.b2).mono ?_
              rintro e w10 ⟨A10,k10,c10,rfl,hr10,hn10⟩
              have n10:New w8 w10:=E9.out.2.trans hn10
              have s10:=HK.out _ n10
              have E10:=Lib.hid (And.intro hr10 n10)
              clear hr10 hn10 n10 E9 s9)
           | (go_at_call 29
              refine(nmul E10.out.1.lq (H9.out.2.2.2.2.lq.new E10.out.2) HBD.out.b3).mono ?_
              rintro e w11 ⟨A11,k11,c11,rfl,hr11,hn11⟩
              have n11:New w8 w11:=E10.out.2.trans hn11
              have s11:=HK.out _ n11
              have E11:=Lib.hid (And.intro (hr11.pq_of (H9.out.1.nw E10.out.2)) n11)
              clear hr11 hn11 n11 E10 s10))
          have hls11:=H9.out.1.nw E11.out.2
          have HA:=Lib.hid (And.intro hls11 (And.intro (H9.out.2.1.pq_new E11.out.2) (And.intro (H9.out.2.2.2.1.pq_new E11.out.2) (And.intro (H9.out.2.2.2.2.pq_new E11.out.2) E11.out.1))))
          have HR4b:=Lib.hid (HR4.out.pq_new E11.out.2)
          have HK2:=Lib.hid (fun W' (hx:New w11 W')=>(hx.cell (a:=⟨b10,2,none⟩) hls11.l10 id).trans (cell_of hls11.k10 2 _ rfl))
          have t0:=HK2.out w11 (Upd.refl _ _)
          have hwi:IntKind.i64.wrap ((i:Int)+1)=(i2:Int):=by rw[IntKind.wrap_i64]<;>(have:=HI2.out;have:=HSS.out.2.2.2.2;omega)
          have hwu:IntKind.u64.wrap (i2:Int)=(i2:Int):=by rw[IntKind.wrap_u64];have:=HSS.out.2.2.2.2;omega
          have hi2l:i2<18446744073709551616:=by have:=HSS.out.2.2.2.2;omega
          have HIL:=Lib.hid hi2l
          clear hls11 E11 s11 HK H9 hi2l
          go_upto_region 25 with fail
          go_region_held (fun w'=>w'.cell? ⟨b10,2,none⟩=some (.slice R3 m3 d3)) (go_keep) (first
           | (go_at_call 30
              refine(nof i2 HIL.out _).mono ?_
              rintro e w12 ⟨A12,k12,c12,rfl,hr12,hn12⟩
              have n12:New w11 w12:=by first|exact(Upd.refl _ w11).drew.trans hn12|exact((Upd.refl _ w11).drewN _).trans hn12
              have t12:=HK2.out _ n12
              have E12:=Lib.hid (And.intro hr12 n12)
              clear hr12 hn12 n12 t0 HIL)
           | (go_at_call 29
              refine(nmul (HA.out.2.1.lq.new E12.out.2) E12.out.1.lq HBD.out.b4).mono ?_
              rintro e w13 ⟨A13,k13,c13,rfl,hr13,hn13⟩
              have n13:New w11 w13:=E12.out.2.trans hn13
              have t13:=HK2.out _ n13
              have E13:=Lib.hid (And.intro hr13 n13)
              clear hr13 hn13 n13 E12 t12)
           | (go_at_call 28
              refine(nadd E13.out.1.lq (HA.out.2.2.2.1.lq.new E13.out.2) HBD.out.b5).mono ?_
              rintro e w14 ⟨A14,k14,c14,rfl,hr14,hn14⟩
              have n14:New w11 w14:=E13.out.2.trans hn14
              have t14:=HK2.out _ n14
              have E14:=Lib.hid (And.intro (hr14.pq_of (HA.out.1.nw E13.out.2)) n14)
              clear hr14 hn14 n14 E13 t13)
           | (go_at_call 30
              refine(nof n HNN.out.2 _).mono ?_
              rintro e w15 ⟨A15,k15,c15,rfl,hr15,hn15⟩
              have n15:New w11 w15:=E14.out.2.trans hn15
              have t15:=HK2.out _ n15
              have E15:=Lib.hid (And.intro hr15 (And.intro n15 (E14.out.1.pq_new hn15)))
              clear hr15 hn15 n15 E14 t14)
           | (go_at_call 29
              refine(nmul E15.out.2.2.lq E15.out.1.lq HBD.out.b6).mono ?_
              rintro e w16 ⟨A16,k16,c16,rfl,hr16,hn16⟩
              have n16:New w11 w16:=E15.out.2.1.trans hn16
              have t16:=HK2.out _ n16
              have E16:=Lib.hid (And.intro (hr16.pq_of (HA.out.1.nw E15.out.2.1)) n16)
              clear hr16 hn16 n16 E15 t15))
          clear hwu t16
          have hls16:=HA.out.1.nw E16.out.2
          have hr17:=HA.out.2.2.2.2.pq_new E16.out.2
          have hr15:=HA.out.2.2.1.pq_new E16.out.2
          obtain⟨P1,hP1⟩:∃P1,P1=X*n*U:=⟨_,rfl⟩
          obtain⟨P2,hP2⟩:∃P2,P2=(sh*i2+U)*n:=⟨_,rfl⟩
          have hr18:=E16.out.1
          rw[<-hP1]at hr17
          rw[<-hP2]at hr18
          have hle:P1<=T:=by rw[HT.out,hP1];exact HBD.out.le
          have hlt:T<P1+P2:=by rw[HT.out,hP1,hP2];exact HBD.out.lt
          have hb7:P1+P2<Gn.B ^ 1000:=by rw[hP1,hP2];exact HBD.out.b7
          have hncmp:=ncmp hr17.lq hr15.lq
          obtain⟨D1,hD1⟩:∃D1,D1=cmpI (P1:Int) (T:Int):=⟨_,rfl⟩
          obtain⟨D2,hD2⟩:∃D2,D2=cmpI ((P1+P2:Nat):Int) (T:Int):=⟨_,rfl⟩
          rw[<-hD1]at hncmp
          have hd1:decide ((0:Int)<D1)=false:=by rw[hD1];exact cmp_le hle
          have hd2:decide (D2<=(0:Int))=false:=by rw[hD2];exact cmp_gt hlt
          have hadd:=fun q=>nadd (hr17.new ((Upd.refl _ w16).drewN q)).lq (hr18.new ((Upd.refl _ w16).drewN q)).lq hb7
          obtain⟨P3,hP3⟩:∃P3,P3=P1+P2:=⟨_,rfl⟩
          rw[<-hP3]at hadd hD2
          have HC1:=Lib.hid hncmp;have HC2:=Lib.hid hadd;have HC3:=Lib.hid hD2
          have HZ:=Lib.hid (And.intro hls16 (And.intro hr15 (And.intro (HA.out.2.1.pq_new E16.out.2) ((HA.out.1.sf.new E16.out.2)))))
          have HG16:=Lib.hid (E16.out.2)
          clear hls16 hr17 hr15 hr18 hle hlt hb7 hncmp hadd hD1 hD2 hP1 hP2 hP3 HA E16 HK2 HBD
          go_wp2_with (first
           | (go_at_call 31;refine HC1.out.mono ?_;rintro e w17 ⟨rfl,q17,hq17⟩;have HQ:=Lib.hid hq17;clear hq17 HC1)
           | (go_at_call 28;refine(HQ.out▸HC2.out q17).mono ?_;rintro e w18 ⟨A18,k18,c18,rfl,hr18,hn18⟩;have H18:=Lib.hid (And.intro hr18 hn18);clear hr18 hn18 HC2)
           | (go_at_call 31;refine(ncmp H18.out.1.lq ((HZ.out.2.1.new ((Upd.refl _ w16).drewN q17)).new (HQ.out▸H18.out.2)).lq).mono ?_;rw[<-HC3.out];rintro e w19 ⟨rfl,q19,hq19⟩;have HQ2:=Lib.hid hq19;clear hq19))
          have h19:New w16 w19:=by
           have e1:=HQ.out;have e2:=HQ2.out;have e3:=H18.out.2
           rw[e2]
           rw[e1]at e3
           exact((((Upd.refl _ w16).drewN q17)).trans e3).drewN q19
          have hi2:=HI2.out
          exact⟨⟨i2,R4,m4,d4,by omega,rfl,rfl,Lib.hid ⟨F2,r2,G2,R5,m5,d5,HZ.out.1.nw h19,HZ.out.2.2.1.pq_new h19,(HR4b.out.pq_new HG16.out).pq_new h19,HSS.out.1.1,HSS.out.1.2,HSS.out.2.1,fun e=>by omega⟩⟩,by simp[intOf];omega⟩
      · obtain rfl:i=ng:=by omega
        go_wp2
        go_ret
        exact⟨rfl,HI.out.1.new⟩
end Go.Proofs.YtbhnjkegkadodaaGreatDoor

/- A part of the proof of the statement of this seat: no condition. -/
import Derived.Test.YtbhnjkegkadodaaGreatDoorQ09
import Derived.Test.YtbhnjkegkadodaaGreatDoorQ08b
import Derived.Deep.RegionHeld
import Derived.Deep.DeepCutAuto
import Derived.Test.YtbhnjkegkadodaaGreatDoorKN04
set_option linter.unusedVariables false
set_option linter.unusedSimpArgs false
set_option maxRecDepth 100000
set_option maxHeartbeats 8000000
namespace Go.Proofs.YtbhnjkegkadodaaGreatDoor
open Go Go.RowKit Go.Proofs Gl
theorem alloc3 {w W1 W2 W3:World} {o1 o2 o3:Obj} (h1:W1=w.alloc o1) (h2:W2=W1.alloc o2) (h3:W3=W2.alloc o3):New w W3/\W3.heap.size=w.heap.size+1+1+1/\W3.heap[w.heap.size]?=some o1/\W3.heap[w.heap.size+1]?=some o2/\W3.heap[w.heap.size+1+1]?=some o3:=by
 have s1:W1.heap.size=w.heap.size+1:=by rw[h1];exact alloc_size _ _
 have s2:W2.heap.size=w.heap.size+1+1:=by rw[h2,alloc_size,s1]
 have n1:New w W1:=by rw[h1];exact Upd.alloc _ _ _
 have n2:New W1 W2:=by rw[h2];exact Upd.alloc _ _ _
 have n3:New W2 W3:=by rw[h3];exact Upd.alloc _ _ _
 refine⟨n1.trans (n2.trans n3),by rw[h3,alloc_size,s2],?_,?_,?_⟩
 · exact(n3.block _ (by omega) id).trans ((n2.block _ (by omega) id).trans (by rw[h1];exact Ex.alloc_new w _))
 · exact(n3.block _ (by omega) id).trans (by rw[h2,<-s1];exact Ex.alloc_new W1 _)
 · rw[h3,<-s2];exact Ex.alloc_new W2 _
def HistR (w:World) (x y:Nat) (e:Ending) (w':World):Prop:=
 ∃R m d,e=.returned (.tuple #[.agg #[.slice R m d,.int .u64 (y:Int)],.int .i64 0])/\LN (NB w) w' R m d x/\New w w'
theorem get_h1 {w:World} {cb:Nat} {A:Option Addr} {n c x y:Nat} (h:By w A n c (F1.encH x y)) (hb:F1.nb x<=255) (hy:y<18446744073709551616) (hcb:w.cell? ⟨cb,0,none⟩=some (.func (.func 137) #[] #[])):
 Calls Tryz.prog 230 #[.slice A n c,.pointer (some ⟨cb,0,none⟩)] w (HistR w x y):=by
 obtain⟨W1,hW1⟩:∃W1,W1=w.alloc (.cells #[.slice none 0 0,.int .u64 0] 120):=⟨_,rfl⟩
 obtain⟨W2,hW2⟩:∃W2,W2=W1.alloc (.cells #[.slice none 0 0,.int .u64 0] 120):=⟨_,rfl⟩
 obtain⟨W3,hW3⟩:∃W3,W3=W2.alloc (.cells #[.slice none 0 0,.int .u64 0] 120):=⟨_,rfl⟩
 obtain⟨hn,hs,b0,b1,b2⟩:=alloc3 hW1 hW2 hW3
 have hlen:=h.len
 have hln:n=1+F1.nb x+8:=by rw[<-hlen];simp[F1.encH,be_length];omega
 have hcl:=World.block_lt_of_cell? w _ hcb
 have hcb3:=(hn.cell (a:=⟨cb,0,none⟩) hcl id).trans hcb
 have hnr:=newReader (h.new hn) (by omega)
 have HNR:=Lib.hid hnr;have HN:=Lib.hid hn;have HS:=Lib.hid hs;have HB:=Lib.hid (And.intro b0 (And.intro b1 b2));have H:=Lib.hid h;have HBB:=Lib.hid hb;have HY:=Lib.hid hy;have HLN:=Lib.hid hln
 clear hnr hn hs b0 b1 b2 h hb hy hlen hcb hln
 go_enter Tryz.func230,Tryz.ntmps230
 go_upto_region 2 with fail
 rw[<-hW1,<-hW2,<-hW3]
 clear hW1 hW2 hW3
 go_upto_region 3 with(go_at_call 231;refine HNR.out.mono ?_;rintro e w4 ⟨br,A4,c4,rfl,hR4,hn4,hbr,hA4⟩;have H4:=Lib.hid (And.intro hR4 (And.intro hn4 (And.intro hbr hA4)));clear HNR hR4 hn4 hbr hA4)
 obtain⟨hR4,hn4,hbr,hA4⟩:=H4.out
 obtain⟨W5,hW5⟩:∃W5,W5=w4.alloc (.cells #[.pointer none,.pointer (some ⟨br,0,none⟩)] 288):=⟨_,rfl⟩
 have n5:New w4 W5:=by rw[hW5];exact Upd.alloc _ _ _
 have hs3:=HS.out
 have hs4:=hn4.size
 have hs5:W5.heap.size=w4.heap.size+1:=by rw[hW5];exact alloc_size _ _
 have hbt:=Ex.alloc_new w4 (.cells #[.pointer none,.pointer (some ⟨br,0,none⟩)] 288)
 rw[<-hW5]at hbt
 have n35:New W3 W5:=hn4.trans n5
 have k0:W5.heap[w.heap.size]?=_:=(n35.block _ (by omega) id).trans HB.out.1
 have k1:W5.heap[w.heap.size+1]?=_:=(n35.block _ (by omega) id).trans HB.out.2.1
 have k2:W5.heap[w.heap.size+1+1]?=_:=(n35.block _ (by omega) id).trans HB.out.2.2
 have hcb5:=(n35.cell (a:=⟨cb,0,none⟩) (by show cb<_;have:cb<w.heap.size:=hcl;omega) id).trans hcb3
 have q0:W5.cell? ⟨w4.heap.size,0,none⟩=some (.pointer none):=cell_of hbt 0 _ rfl
 have q1:W5.cell? ⟨w4.heap.size,1,none⟩=some (.pointer (some ⟨br,0,none⟩)):=cell_of hbt 1 _ rfl
 have hbrl:=hR4.lt
 have h137:=rhist (hR4.upd n5 id (fun _ _ _=>id)) HBB.out HY.out (by have:=HLN.out;have:=HBB.out;omega) k1 (by omega) (fun a ha=>by have h1:=hA4 a ha;have h2:=hR4.by_.sl.lt ha (by have:=HLN.out;omega);omega)
 have H1:=Lib.hid h137;have N5:=Lib.hid (HN.out.trans n35);have K:=Lib.hid (And.intro k0 k2);have HCB5:=Lib.hid hcb5;have Q1:=Lib.hid q1
 clear h137 n5 n35 k0 k1 k2 hbt hR4 hn4 hA4 hcb3
 rw[<-hW5]
 clear hW5
 go_upto_region 4 with(go_at_call 137;refine H1.out.mono ?_;rintro e w6 ⟨R,m,d,A6,n6,c6,rfl,hr6,hx6,hR6,hu6⟩;have H6:=Lib.hid (And.intro hr6 (And.intro hx6 (And.intro hR6 hu6)));clear H1 hr6 hx6 hR6 hu6)
 obtain⟨hr6,hx6,hR6,hu6⟩:=H6.out
 have hcl':cb<w.heap.size:=hcl
 have hcb6:w6.cell? ⟨cb,0,none⟩=some (.func (.func 137) #[] #[]):=(hu6.cell (a:=⟨cb,0,none⟩) (by show cb<_;omega) (fun e=>e.elim (fun e=>by have e:cb=br:=e;omega) (fun e=>by have e:cb=w.heap.size+1:=e;omega))).trans HCB5.out
 have t1:w6.cell? ⟨w4.heap.size,1,none⟩=some (.pointer (some ⟨br,0,none⟩)):=(hu6.cell (a:=⟨w4.heap.size,1,none⟩) (by show w4.heap.size<_;omega) (fun e=>e.elim (fun e=>by have e:w4.heap.size=br:=e;omega) (fun e=>by have e:w4.heap.size=w.heap.size+1:=e;omega))).trans Q1.out
 have x0:w6.cell? ⟨w.heap.size+1,0,none⟩=some (.slice R m d):=cell_of hx6 0 _ rfl
 have x1:w6.cell? ⟨w.heap.size+1,1,none⟩=some (.int .u64 (y:Int)):=cell_of hx6 1 _ rfl
 have hn6:n6=0:=by have:=hR6.by_.len;simpa using this.symm
 subst hn6
 have hs6:=hu6.size
 have hbr6:=hR6.lt
 have h232:∀W',New w6 W'->Calls Tryz.prog 232 #[.pointer (some ⟨br,0,none⟩)] W' fun e w'=>e=.returned (.int .i64 0)/\Upd (fun b=>b=br) W' w':=fun W' hn'=>(rEnd (hR6.upd hn' id (fun _ _ _=>id))).mono (fun e w' h=>⟨by rw[h.1];rfl,h.2⟩)
 have h202:∀W' cb',Upd (fun b=>b=br) w6 W'->W'.cell? ⟨cb',0,none⟩=some (.func (.func 137) #[] #[])->Calls Tryz.prog 202 #[.agg #[.slice R m d,.int .u64 (y:Int)],.pointer (some ⟨cb',0,none⟩)] W' (ByR W' (F1.encH x y)):=fun W' cb' hu' hc'=>put_h1 (hr6.lq.upd hu' (fun b hb e=>by have hb:W5.heap.size<=b:=hb;have e:b=br:=e;omega)) HBB.out HY.out hc'
 have hfin:∀W',Upd (fun b=>b=br) w6 W'->By W' A n c (F1.encH x y)/\W'.heap[w.heap.size]?=some (.cells #[.slice none 0 0,.int .u64 0] 120 (0,0))/\LN (fun b=>w.heap.size<b) W' R m d x/\New w W':=fun W' hu'=>by
  have hall:Upd (fun b=>b=br\/b=w.heap.size+1) w W':=((N5.out.mono (fun _ _ h=>h.elim)).trans hu6).trans (hu'.mono (fun b _ h=>.inl h))
  have hnw:New w W':=hall.mono (fun b hb h=>by omega)
  refine⟨H.out.new hnw,?_,?_,hnw⟩
  · exact(hu'.block _ (by omega) (by omega)).trans ((hu6.block _ (by omega) (fun e=>by omega)).trans K.out.1)
  · exact(hr6.upd hu' (fun b hb e=>by have hb:W5.heap.size<=b:=hb;have e:b=br:=e;omega)).mono (fun b _ hb=>by have hb:W5.heap.size<=b:=hb;show w.heap.size<b;omega)
 have H232:=Lib.hid h232;have H202:=Lib.hid h202;have HFIN:=Lib.hid hfin
 have hcell:∀W',Upd (fun b=>b=br) w6 W'->W'.cell? ⟨w4.heap.size,1,none⟩=some (.pointer (some ⟨br,0,none⟩))/\W'.cell? ⟨cb,0,none⟩=some (.func (.func 137) #[] #[])/\W'.cell? ⟨w.heap.size+1,0,none⟩=some (.slice R m d)/\W'.cell? ⟨w.heap.size+1,1,none⟩=some (.int .u64 (y:Int)):=fun W' hu'=>
  ⟨(hu'.cell (a:=⟨w4.heap.size,1,none⟩) (by show w4.heap.size<_;omega) (by show ¬w4.heap.size=br;omega)).trans t1,(hu'.cell (a:=⟨cb,0,none⟩) (by show cb<_;omega) (by show ¬cb=br;omega)).trans hcb6,
   (hu'.cell (a:=⟨w.heap.size+1,0,none⟩) (by show w.heap.size+1<_;omega) (by show ¬w.heap.size+1=br;omega)).trans x0,(hu'.cell (a:=⟨w.heap.size+1,1,none⟩) (by show w.heap.size+1<_;omega) (by show ¬w.heap.size+1=br;omega)).trans x1⟩
 have HCE:=Lib.hid hcell
 clear h232 h202 hfin hcell hr6 hx6 hR6 hu6 q0 q1
 go_region_held (fun w'=>w'.cell? ⟨w4.heap.size,1,none⟩=some (.pointer (some ⟨br,0,none⟩))/\w'.cell? ⟨cb,0,none⟩=some (.func (.func 137) #[] #[])/\w'.cell? ⟨w.heap.size+1,0,none⟩=some (.slice R m d)/\w'.cell? ⟨w.heap.size+1,1,none⟩=some (.int .u64 (y:Int))) (go_keep) (first
  | (go_at_call 232
     refine(H232.out _ ((Upd.refl _ w6).drew)).mono ?_
     rintro e w7 ⟨rfl,hu7⟩
     have hv7:Upd (fun b=>b=br) w6 w7:=(Upd.refl _ w6).drew.trans hu7
     obtain⟨f0,f1,f2,f3⟩:=HCE.out _ hv7
     have HV7:=Lib.hid hv7
     clear hu7 hv7)
  | (go_at_call 136
     refine(putter_h _).mono ?_
     rintro e w8 ⟨rfl,hw8⟩
     have n8:New w7 w8:=by rw[hw8];exact Upd.alloc _ _ _
     have hcb8:w8.cell? ⟨w7.heap.size,0,none⟩=some (.func (.func 137) #[] #[]):=by rw[hw8];exact cell_of (Ex.alloc_new w7 _) 0 _ rfl
     have hv8:Upd (fun b=>b=br) w6 w8:=HV7.out.trans (n8.mono (fun _ _ h=>h.elim))
     obtain⟨g0,g1,g2,g3⟩:=HCE.out _ hv8
     have HV8:=Lib.hid (And.intro hv8 hcb8)
     clear hw8 n8 hcb8 hv8)
  | (go_at_call 202
     refine(H202.out w8 _ HV8.out.1 HV8.out.2).mono ?_
     rintro e w9 ⟨A9,n9,c9,rfl,hb9,hn9,hat9⟩
     have hv9:Upd (fun b=>b=br) w6 w9:=HV8.out.1.trans (hn9.mono (fun _ _ h=>h.elim))
     obtain⟨r0,r1,r2,r3⟩:=HCE.out _ hv9
     have HV9:=Lib.hid (And.intro hv9 hb9)
     clear hb9 hn9 hat9 hv9)
  | (go_at_call 178
     refine(equal_c HV9.out.2 (HFIN.out _ HV9.out.1).1).mono ?_
     rintro e w10 ⟨rfl,rfl⟩
     rw[decide_eq_true rfl]))
 obtain⟨-,hb0,hlr,hnw⟩:=HFIN.out _ HV9.out.1
 have hb1:=setCell_at hb0 (.slice R m d) (i:=0)
 have hb2:=setCell_at hb1 (.int .u64 (y:Int)) (i:=1)
 have c0:=cell_of hb0 0 _ rfl
 have z0:=frozen_of hb0 0
 have c1:(w10.setCell ⟨w.heap.size,0,none⟩ (.slice R m d)).cell? ⟨w.heap.size,1,none⟩=some (.int .u64 0):=cell_of hb1 1 _ rfl
 have z1:(w10.setCell ⟨w.heap.size,0,none⟩ (.slice R m d)).frozen? ⟨w.heap.size,1,none⟩=false:=frozen_of hb1 1
 have q0:((w10.setCell ⟨w.heap.size,0,none⟩ (.slice R m d)).setCell ⟨w.heap.size,1,none⟩ (.int .u64 (y:Int))).cell? ⟨w.heap.size,0,none⟩=some (.slice R m d):=cell_of hb2 0 _ rfl
 have q1:((w10.setCell ⟨w.heap.size,0,none⟩ (.slice R m d)).setCell ⟨w.heap.size,1,none⟩ (.int .u64 (y:Int))).cell? ⟨w.heap.size,1,none⟩=some (.int .u64 (y:Int)):=cell_of hb2 1 _ rfl
 have HLR:=Lib.hid hlr;have HNW:=Lib.hid hnw;have QQ:=Lib.hid (And.intro q0 q1)
 clear hb0 hb1 hb2 hlr hnw q0 q1
 all_goals go_wp2
 obtain⟨q0,q1⟩:=QQ.out
 refine bodyPost_ret (by simp[results,Tryz.results230,go_sem,q0,q1];try rfl) rfl ?_
 have hset:Upd (fun b=>b=w.heap.size) w10 ((w10.setCell ⟨w.heap.size,0,none⟩ (.slice R m d)).setCell ⟨w.heap.size,1,none⟩ (.int .u64 (y:Int))):=(Upd.setCell (S:=fun b=>b=w.heap.size) w10 _ rfl).trans (Upd.setCell _ _ rfl)
 refine⟨R,m,d,rfl,?_,HNW.out.then hset (fun b hb e=>by have e:b=w.heap.size:=e;omega)⟩
 exact(HLR.out.upd hset (fun b hb e=>by have e:b=w.heap.size:=e;have hb:w.heap.size<b:=hb;omega)).mono (fun b _ hb=>Nat.le_of_lt hb)
theorem getter_h (w:World):Calls Tryz.prog 172 #[.func (.func 137) #[] #[]] w fun e w'=>e=.returned (.func (.func 230) #[] #[.pointer (some ⟨w.heap.size,0,none⟩)])/\w'=w.alloc (.cells #[.func (.func 137) #[] #[]] 214):=by
 go_enter Tryz.func172,Tryz.ntmps172
 go_wp2
 go_ret
 exact⟨rfl,rfl⟩
theorem rhistory_c {w:World} {A:Option Addr} {n c x y:Nat} (h:By w A n c (F1.encH x y)) (hb:F1.nb x<=255) (hy:y<18446744073709551616):
 Calls Tryz.prog 112 #[.slice A n c] w (HistR w x y):=by
 obtain⟨W1,hW1⟩:∃W1,W1=w.alloc (.cells #[.slice none 0 0,.int .u64 0] 120):=⟨_,rfl⟩
 have n1:New w W1:=by rw[hW1];exact Upd.alloc _ _ _
 have b1:=Ex.alloc_new w (.cells #[.slice none 0 0,.int .u64 0] 120)
 rw[<-hW1]at b1
 have s1:W1.heap.size=w.heap.size+1:=by rw[hW1];exact alloc_size _ _
 have h230:∀W cb,New w W->W.cell? ⟨cb,0,none⟩=some (.func (.func 137) #[] #[])->Calls Tryz.prog 230 #[.slice A n c,.pointer (some ⟨cb,0,none⟩)] W (HistR W x y):=fun W cb hn hc=>get_h1 (h.new hn) hb hy hc
 have H2:=Lib.hid h230;have N1:=Lib.hid n1;have B1:=Lib.hid b1;have S1:=Lib.hid s1
 clear h230 n1 b1 s1 h hb hy
 go_enter Tryz.func112,Tryz.ntmps112
 go_upto_region 1 with fail
 rw[<-hW1]
 clear hW1
 go_wp2_with (first
  | (go_at_call 172
     refine(getter_h _).mono ?_
     rintro e W2 ⟨rfl,hW2⟩
     have n2:New W1 W2:=by rw[hW2];exact Upd.alloc _ _ _
     have hcb:W2.cell? ⟨W1.heap.size,0,none⟩=some (.func (.func 137) #[] #[]):=by rw[hW2];exact cell_of (Ex.alloc_new W1 _) 0 _ rfl
     have HCB:=Lib.hid hcb;have N2:=Lib.hid n2
     clear hW2 hcb n2)
  | (go_at_call 230
     refine(H2.out W2 _ (N1.out.trans N2.out) HCB.out).mono ?_
     rintro e W3 ⟨R,m,d,rfl,hr3,hn3⟩
     have hb3:W3.heap[w.heap.size]?=_:=((N2.out.trans hn3).block _ (by have:=S1.out;omega) id).trans B1.out
     have hb4:=setCell_at hb3 (.slice R m d) (i:=0)
     have hb5:=setCell_at hb4 (.int .u64 (y:Int)) (i:=1)
     have c0:=cell_of hb3 0 _ rfl
     have z0:=frozen_of hb3 0
     have c1:(W3.setCell ⟨w.heap.size,0,none⟩ (.slice R m d)).cell? ⟨w.heap.size,1,none⟩=some (.int .u64 0):=cell_of hb4 1 _ rfl
     have z1:(W3.setCell ⟨w.heap.size,0,none⟩ (.slice R m d)).frozen? ⟨w.heap.size,1,none⟩=false:=frozen_of hb4 1
     have q0:((W3.setCell ⟨w.heap.size,0,none⟩ (.slice R m d)).setCell ⟨w.heap.size,1,none⟩ (.int .u64 (y:Int))).cell? ⟨w.heap.size,0,none⟩=some (.slice R m d):=cell_of hb5 0 _ rfl
     have q1:((W3.setCell ⟨w.heap.size,0,none⟩ (.slice R m d)).setCell ⟨w.heap.size,1,none⟩ (.int .u64 (y:Int))).cell? ⟨w.heap.size,1,none⟩=some (.int .u64 (y:Int)):=cell_of hb5 1 _ rfl
     have HR3:=Lib.hid (And.intro hr3 hn3);have QQ:=Lib.hid (And.intro q0 q1)
     clear hr3 hn3 hb3 hb4 hb5 q0 q1))
 obtain⟨q0,q1⟩:=QQ.out
 obtain⟨hr3,hn3⟩:=HR3.out
 refine bodyPost_ret (by simp[results,Tryz.results112,go_sem,q0,q1];try rfl) rfl ?_
 have hset:Upd (fun b=>b=w.heap.size) W3 ((W3.setCell ⟨w.heap.size,0,none⟩ (.slice R m d)).setCell ⟨w.heap.size,1,none⟩ (.int .u64 (y:Int))):=(Upd.setCell (S:=fun b=>b=w.heap.size) W3 _ rfl).trans (Upd.setCell _ _ rfl)
 have hnw:New w W3:=(N1.out.trans N2.out).trans hn3
 have hs1:=S1.out
 have hs2:=N2.out.size
 refine⟨R,m,d,rfl,?_,hnw.then hset (fun b hb e=>by have e:b=w.heap.size:=e;omega)⟩
 exact(hr3.upd hset (fun b hb e=>by have e:b=w.heap.size:=e;have hb:W2.heap.size<=b:=hb;omega)).mono (fun b _ hb=>by have hb:W2.heap.size<=b:=hb;show w.heap.size<=b;omega)
theorem of_c {w:World} (x:Nat) (hx:x<18446744073709551616):Calls Tryz.prog 24 #[.int .u64 (x:Int)] w (DecR w (x*10 ^ 36)):=by
 obtain⟨W,hW⟩:∃W,W=w.alloc (.cells #[.slice none 0 0] 26):=⟨_,rfl⟩
 have hnw:New w W:=by rw[hW];exact Upd.alloc _ _ _
 have hbt:=Ex.alloc_new w (.cells #[.slice none 0 0] 26)
 rw[<-hW]at hbt
 have hs:W.heap.size=w.heap.size+1:=by rw[hW];exact alloc_size _ _
 have hxb:x*10 ^ 36<Gn.B ^ 1000:=by
  have h1:x*10 ^ 36<Gn.B*Gn.B ^ 2:=Nat.mul_lt_mul_of_lt_of_le hx (by decide) (by decide)
  exact Nat.lt_of_lt_of_le h1 (by rw[<-Nat.pow_succ'];exact @pow_le 3 1000 (by omega))
 have h1:=nof x hx W
 have h2:∀W' Q A n c,LQ Q W' A n c x->Calls Tryz.prog 74 #[.slice A n c] W' (DecR W' (x*10 ^ 36)):=fun W' Q A n c h=>ofnat_c h hxb
 obtain⟨X,hX⟩:∃X,X=x*10 ^ 36:=⟨_,rfl⟩
 rw[<-hX]at h2 ⊢
 have H1:=Lib.hid h1;have H2:=Lib.hid h2;have HB:=Lib.hid hbt;have HN:=Lib.hid hnw;have HS:=Lib.hid hs
 clear h1 h2 hbt hnw hs hX hxb hx
 go_enter Tryz.func24,Tryz.ntmps24
 go_upto_region 1 with fail
 rw[<-hW]
 clear hW
 go_wp2_with (first
  | (go_at_call 30;refine H1.out.mono ?_;rintro e w1 ⟨A,n,c,rfl,hr1,hn1⟩;have h74:=H2.out w1 _ A n c hr1.lq;have N1:=Lib.hid hn1;clear H1 hr1 hn1)
  | (go_at_call 74;refine h74.mono ?_;rintro e w2 ⟨R,m,d,rfl,hr2,hn2⟩;obtain⟨c0,z0,q0,hl,hnw⟩:=dec_end (HN.out.trans (N1.out.trans hn2)) (((N1.out.trans hn2).block _ (by have:=HS.out;omega) id).trans HB.out) (Nat.le_refl _) (hr2.mono (fun b _ hb=>by have hb:w1.heap.size<=b:=hb;have:=HS.out;have:=N1.out.size;show w.heap.size<b;omega));have QQ:=Lib.hid (And.intro q0 (And.intro hl hnw));clear h74 hr2 hn2 q0 hl hnw))
 obtain⟨q0,hl,hnw⟩:=QQ.out
 refine bodyPost_ret (by simp[results,Tryz.results24,go_sem,q0];try rfl) rfl ?_
 exact⟨R,m,d,rfl,hl,hnw⟩
theorem boxes2 (w:World) (v v':Value):∃W,W=((w.alloc (.cells #[v] 26)).alloc (.cells #[v'] 26)).alloc (.cells #[.slice none 0 0] 26)/\New w W/\W.heap.size=w.heap.size+1+1+1/\W.cell? ⟨w.heap.size,0,none⟩=some v/\W.cell? ⟨w.heap.size+1,0,none⟩=some v'/\W.heap[w.heap.size+1+1]?=some (.cells #[.slice none 0 0] 26 (0,0)):=by
 obtain⟨W1,h1⟩:∃W1,W1=w.alloc (.cells #[v] 26):=⟨_,rfl⟩
 obtain⟨W2,h2⟩:∃W2,W2=W1.alloc (.cells #[v'] 26):=⟨_,rfl⟩
 obtain⟨W3,h3⟩:∃W3,W3=W2.alloc (.cells #[.slice none 0 0] 26):=⟨_,rfl⟩
 have s1:W1.heap.size=w.heap.size+1:=by rw[h1];exact alloc_size _ _
 have s2:W2.heap.size=w.heap.size+1+1:=by rw[h2,alloc_size,s1]
 have n1:New w W1:=by rw[h1];exact Upd.alloc _ _ _
 have n2:New W1 W2:=by rw[h2];exact Upd.alloc _ _ _
 have n3:New W2 W3:=by rw[h3];exact Upd.alloc _ _ _
 refine⟨W3,by rw[h3,h2,h1],n1.trans (n2.trans n3),by rw[h3,alloc_size,s2],?_,?_,?_⟩
 · exact cell_of ((n3.block _ (by omega) id).trans ((n2.block _ (by omega) id).trans (by rw[h1];exact Ex.alloc_new w _))) 0 _ rfl
 · exact cell_of ((n3.block _ (by omega) id).trans (by rw[h2,<-s1];exact Ex.alloc_new W1 _)) 0 _ rfl
 · rw[h3,<-s2];exact Ex.alloc_new W2 _
theorem dadd_c {Q Q':Nat->Prop} {w:World} {A A':Option Addr} {n c n' c' x y:Nat} (h:LQ Q w A n c x) (h':LQ Q' w A' n' c' y) (hb:x+y<Gn.B ^ 1000):Calls Tryz.prog 36 #[.agg #[.slice A n c],.agg #[.slice A' n' c']] w (DecR w (x+y)):=by
 obtain⟨W,hW,hnw,hs,c1,c2,hbt⟩:=boxes2 w (.slice A n c) (.slice A' n' c')
 have h1:=nadd (h.new hnw) (h'.new hnw) hb
 have H1:=Lib.hid h1;have HB:=Lib.hid hbt;have HN:=Lib.hid hnw;have HS:=Lib.hid hs
 clear h1 hbt hnw hs h h' hb
 go_enter Tryz.func36,Tryz.ntmps36
 go_upto_region 1 with fail
 rw[<-hW]
 clear hW
 go_wp2_with (go_at_call 28;refine H1.out.mono ?_;rintro e w2 ⟨R,m,d,rfl,hr2,hn2⟩;obtain⟨c0,z0,q0,hl,hnw⟩:=dec_end (b:=w.heap.size+1+1) (HN.out.trans hn2) ((hn2.block _ (by have:=HS.out;omega) id).trans HB.out) (by omega) (hr2.mono (fun b _ hb=>by have hb:W.heap.size<=b:=hb;have:=HS.out;show w.heap.size+1+1<b;omega));have QQ:=Lib.hid (And.intro q0 (And.intro hl hnw));clear H1 hr2 hn2 q0 hl hnw)
 obtain⟨q0,hl,hnw⟩:=QQ.out
 refine bodyPost_ret (by simp[results,Tryz.results36,go_sem,q0];try rfl) rfl ?_
 exact⟨R,m,d,rfl,hl,hnw⟩
def DecE (w:World) (x:Nat) (er:Int) (e:Ending) (w':World):Prop:=∃R m d,e=.returned (.tuple #[.agg #[.slice R m d],.int .i64 er])/\LN (NB w) w' R m d x/\New w w'
theorem dsub_c {Q Q':Nat->Prop} {w:World} {A A':Option Addr} {n c n' c' x y:Nat} (h:LQ Q w A n c x) (h':LQ Q' w A' n' c' y) (hle:y<=x):Calls Tryz.prog 88 #[.agg #[.slice A n c],.agg #[.slice A' n' c']] w (DecE w (x-y) 0):=by
 obtain⟨W,hW,hnw,hs,c1,c2,hbt⟩:=boxes2 w (.slice A n c) (.slice A' n' c')
 have h1:=nsub (h.new hnw) (h'.new hnw) hle
 have H1:=Lib.hid h1;have HB:=Lib.hid hbt;have HN:=Lib.hid hnw;have HS:=Lib.hid hs
 clear h1 hbt hnw hs h h' hle
 go_enter Tryz.func88,Tryz.ntmps88
 go_upto_region 1 with fail
 rw[<-hW]
 clear hW
 go_wp2_with (go_at_call 141;refine H1.out.mono ?_;rintro e w2 ⟨R,m,d,rfl,hr2,hn2⟩;obtain⟨c0,z0,q0,hl,hnw⟩:=dec_end (b:=w.heap.size+1+1) (HN.out.trans hn2) ((hn2.block _ (by have:=HS.out;omega) id).trans HB.out) (by omega) (hr2.mono (fun b _ hb=>by have hb:W.heap.size<=b:=hb;have:=HS.out;show w.heap.size+1+1<b;omega));have QQ:=Lib.hid (And.intro q0 (And.intro hl hnw));clear H1 hr2 hn2 q0 hl hnw)
 obtain⟨q0,hl,hnw⟩:=QQ.out
 refine bodyPost_ret (by simp[results,Tryz.results88,go_sem,q0];try rfl) rfl ?_
 exact⟨R,m,d,rfl,hl,hnw⟩
theorem rounder_c (w:World):Calls Tryz.prog 90 #[.slice none 0 0] w fun e w'=>e=.returned (.func (.func 143) #[] #[.pointer (some ⟨w.heap.size,0,none⟩)])/\w'=w.alloc (.cells #[.slice none 0 0] 24):=by
 go_enter Tryz.func90,Tryz.ntmps90
 go_wp2
 go_ret
 exact⟨rfl,rfl⟩
theorem round1_c {Q Q' Q'':Nat->Prop} {w:World} {A A' A'':Option Addr} {n c n' c' n'' c'' x y z ub:Nat} (h:LQ Q w A n c x) (h':LQ Q' w A' n' c' y) (h'':LQ Q'' w A'' n'' c'' z) (h0:0<z) (hb:x*y<Gn.B ^ 1000) (hub:w.cell? ⟨ub,0,none⟩=some (.slice none 0 0)):
 Calls Tryz.prog 143 #[.slice A n c,.slice A' n' c',.slice A'' n'' c'',.pointer (some ⟨ub,0,none⟩)] w (DecE w (x*y / z) 0):=by
 obtain⟨W,hW⟩:∃W,W=w.alloc (.cells #[.slice none 0 0] 26):=⟨_,rfl⟩
 have hnw:New w W:=by rw[hW];exact Upd.alloc _ _ _
 have hbt:=Ex.alloc_new w (.cells #[.slice none 0 0] 26)
 rw[<-hW]at hbt
 have hs:W.heap.size=w.heap.size+1:=by rw[hW];exact alloc_size _ _
 have hul:=World.block_lt_of_cell? w _ hub
 have hub1:=(hnw.cell (a:=⟨ub,0,none⟩) hul id).trans hub
 have h1:=nmuldiv (h.new hnw) (h'.new hnw) (h''.new hnw) h0 hb
 have hqb:x*y / z+0<Gn.B ^ 1000:=Nat.lt_of_le_of_lt (Nat.div_le_self _ _) hb
 obtain⟨X,hX⟩:∃X,X=x*y / z:=⟨_,rfl⟩
 obtain⟨Y,hY⟩:∃Y,Y=x*y % z:=⟨_,rfl⟩
 unfold DivN at h1
 rw[<-hX,<-hY]at h1
 rw[<-hX]at hqb ⊢
 have H1:=Lib.hid h1;have HB:=Lib.hid hbt;have HN:=Lib.hid hnw;have HS:=Lib.hid hs;have HQ:=Lib.hid hqb;have HUB:=Lib.hid (And.intro hul hub1)
 clear h1 hbt hnw hs hX hY hqb h h' h'' hb h0 hub hul hub1
 go_enter Tryz.func143,Tryz.ntmps143
 go_upto_region 1 with fail
 rw[<-hW]
 clear hW
 go_upto_region 4 with(go_at_call 144;refine H1.out.mono ?_;rintro e w2 ⟨R,m,d,R',m',d',rfl,hr2,hr2',hn2⟩;have H2:=Lib.hid (And.intro hr2 (And.intro hr2'.few hn2));clear H1 hr2 hr2' hn2)
 obtain⟨hr2,hm',hn2⟩:=H2.out
 by_cases hm0:0<m'
 · have hu2:w2.cell? ⟨ub,0,none⟩=some (.slice none 0 0):=(hn2.cell (a:=⟨ub,0,none⟩) (Nat.lt_of_lt_of_le HUB.out.1 HN.out.size) id).trans HUB.out.2
   have h28:=nadd hr2.lq (LN.nil (fun _=>False) w2).lq HQ.out
   have H28:=Lib.hid h28;have N2:=Lib.hid hn2
   clear hr2 hn2 h28
   go_wp2_with (go_at_call 28;refine H28.out.mono ?_;rintro e w3 ⟨R3,m3,d3,rfl,hr3,hn3⟩;rw[Nat.add_zero]at hr3;obtain⟨c0,z0,q0,hl,hnw⟩:=dec_end (b:=w.heap.size) (HN.out.trans (N2.out.trans hn3)) (((N2.out.trans hn3).block _ (by have:=HS.out;omega) id).trans HB.out) (Nat.le_refl _) (hr3.mono (fun b _ hb=>by have hb:w2.heap.size<=b:=hb;have:=HS.out;have:=N2.out.size;show w.heap.size<b;omega));have QQ:=Lib.hid (And.intro q0 (And.intro hl hnw));clear H28 hr3 hn3 q0 hl hnw)
   obtain⟨q0,hl,hnw⟩:=QQ.out
   refine bodyPost_ret (by simp[results,Tryz.results143,go_sem,q0];try rfl) rfl ?_
   exact⟨R3,m3,d3,rfl,hl,hnw⟩
 · obtain rfl:m'=0:=by omega
   obtain⟨c0,z0,q0,hl,hnw⟩:=dec_end (b:=w.heap.size) (HN.out.trans hn2) ((hn2.block _ (by have:=HS.out;omega) id).trans HB.out) (Nat.le_refl _) (hr2.mono (fun b _ hb=>by have hb:W.heap.size<=b:=hb;have:=HS.out;show w.heap.size<b;omega))
   have QQ:=Lib.hid (And.intro q0 (And.intro hl hnw))
   clear q0 hl hnw hr2 hn2
   go_wp2
   obtain⟨q0,hl,hnw⟩:=QQ.out
   refine bodyPost_ret (by simp[results,Tryz.results143,go_sem,q0];try rfl) rfl ?_
   exact⟨R,m,d,rfl,hl,hnw⟩
theorem over_c {Q:Nat->Prop} {w:World} {A:Option Addr} {n c x t:Nat} (h:LQ Q w A n c x) (h0:0<t) (ht:t<18446744073709551616):
 Calls Tryz.prog 39 #[.agg #[.slice A n c],.int .u64 (t:Int)] w (DecE w (x / t) 0):=by
 obtain⟨W1,hW1⟩:∃W1,W1=w.alloc (.cells #[.slice A n c] 26):=⟨_,rfl⟩
 obtain⟨W,hW⟩:∃W,W=W1.alloc (.cells #[.slice none 0 0] 26):=⟨_,rfl⟩
 have s1:W1.heap.size=w.heap.size+1:=by rw[hW1];exact alloc_size _ _
 have s2:W.heap.size=w.heap.size+1+1:=by rw[hW,alloc_size,s1]
 have n1:New w W1:=by rw[hW1];exact Upd.alloc _ _ _
 have n2:New W1 W:=by rw[hW];exact Upd.alloc _ _ _
 have hnw:New w W:=n1.trans n2
 have b1:W.heap[w.heap.size]?=some (.cells #[.slice A n c] 26 (0,0)):=(n2.block _ (by omega) id).trans (by rw[hW1];exact Ex.alloc_new w _)
 have hbt:W.heap[w.heap.size+1]?=some (.cells #[.slice none 0 0] 26 (0,0)):=by rw[hW,<-s1];exact Ex.alloc_new W1 _
 have l0:W.cell? ⟨w.heap.size,0,none⟩=some (.slice A n c):=cell_of b1 0 _ rfl
 have hkeep:∀W',New W W'->W'.cell? ⟨w.heap.size,0,none⟩=some (.slice A n c):=fun W' hn=>(hn.cell (a:=⟨w.heap.size,0,none⟩) (by show w.heap.size<_;omega) id).trans l0
 have hx:=h.lt
 have hxb:x*1<Gn.B ^ 1000:=by rw[Nat.mul_one];exact Nat.lt_of_lt_of_le hx (@pow_le _ 1000 h.few)
 have h143:∀W' A1 k1 e1 A2 k2 e2 ub,New W W'->LQ (NB W) W' A1 k1 e1 1->LQ (NB W) W' A2 k2 e2 t->W'.cell? ⟨ub,0,none⟩=some (.slice none 0 0)->Calls Tryz.prog 143 #[.slice A n c,.slice A1 k1 e1,.slice A2 k2 e2,.pointer (some ⟨ub,0,none⟩)] W' (DecE W' (x / t) 0):=fun W' A1 k1 e1 A2 k2 e2 ub hn g1 g2 hu=>by
  have:=round1_c (h.new (hnw.trans hn)) g1 g2 h0 hxb hu
  rwa [Nat.mul_one]at this
 have H3:=Lib.hid h143;have HK:=Lib.hid hkeep;have HB:=Lib.hid hbt;have HN:=Lib.hid hnw;have S2:=Lib.hid s2;have HT:=Lib.hid ht
 clear h143 hkeep hbt hnw s1 s2 n1 n2 b1 hx hxb h h0 ht
 go_enter Tryz.func39,Tryz.ntmps39
 go_upto_region 1 with fail
 rw[<-hW1,<-hW]
 clear hW1 hW
 go_region_held (fun w'=>w'.cell? ⟨w.heap.size,0,none⟩=some (.slice A n c)) (go_keep) (first
  | (go_at_call 90
     refine(rounder_c _).mono ?_
     rintro e w1 ⟨rfl,hw1⟩
     have n1:New W w1:=by rw[hw1];exact(Upd.refl _ W).drew.trans (Upd.alloc _ _ _)
     have hu1:w1.cell? ⟨W.drew.heap.size,0,none⟩=some (.slice none 0 0):=by rw[hw1];exact cell_of (Ex.alloc_new W.drew _) 0 _ rfl
     have d1:=HK.out _ n1
     have E1:=Lib.hid (And.intro n1 hu1)
     clear hw1 n1 hu1)
  | (go_at_call_of 30 (Value.int IntKind.u64 1)
     refine(nof 1 (by decide) w1).mono ?_
     rintro e w2 ⟨A1,k1,e1,rfl,hr1,hn2⟩
     have d2:=HK.out _ (E1.out.1.trans hn2)
     have E2:=Lib.hid (And.intro hr1 hn2)
     clear hr1 hn2)
  | (go_at_call_of 30 (Value.int IntKind.u64 (t:Int))
     refine(nof t HT.out w2).mono ?_
     rintro e w3 ⟨A2,k2,e2,rfl,hr2,hn3⟩
     have d3:=HK.out _ ((E1.out.1.trans E2.out.2).trans hn3)
     have E3:=Lib.hid (And.intro hr2 hn3)
     clear hr2 hn3)
  | (go_at_call 143
     refine(H3.out w3 A1 k1 e1 A2 k2 e2 _ ((E1.out.1.trans E2.out.2).trans E3.out.2) ((E2.out.1.lq.mono (fun b _ hb=>Nat.le_trans E1.out.1.size hb)).new E3.out.2) (E3.out.1.lq.mono (fun b _ hb=>Nat.le_trans (E1.out.1.trans E2.out.2).size hb)) (((E2.out.2.trans E3.out.2).cell (a:=⟨W.drew.heap.size,0,none⟩) (World.block_lt_of_cell? w1 _ E1.out.2) id).trans E1.out.2)).mono ?_
     rintro e w4 ⟨R,m,d,rfl,hr4,hn4⟩
     have n4:New W w4:=((E1.out.1.trans E2.out.2).trans E3.out.2).trans hn4
     have d4:=HK.out _ n4
     obtain⟨c0,z0,q0,hl,hnw⟩:=dec_end (b:=w.heap.size+1) (HN.out.trans n4) ((n4.block _ (by have:=S2.out;omega) id).trans HB.out) (by omega) (hr4.mono (fun b _ hb=>by have hb:w3.heap.size<=b:=hb;have:=S2.out;have:=((E1.out.1.trans E2.out.2).trans E3.out.2).size;show w.heap.size+1<b;omega))
     have QQ:=Lib.hid (And.intro q0 (And.intro hl hnw))
     clear hr4 hn4 n4 q0 hl hnw))
 clear c0 z0
 go_wp2
 obtain⟨q0,hl,hnw⟩:=QQ.out
 refine bodyPost_ret (by simp[results,Tryz.results39,go_sem,q0];try rfl) rfl ?_
 exact⟨R,m,d,rfl,hl,hnw⟩
theorem boxes3 (w:World) (v v' v'':Value):∃W,W=(((w.alloc (.cells #[v] 26)).alloc (.cells #[v'] 26)).alloc (.cells #[v''] 26)).alloc (.cells #[.slice none 0 0] 26)/\New w W/\W.heap.size=w.heap.size+1+1+1+1/\W.cell? ⟨w.heap.size,0,none⟩=some v/\W.cell? ⟨w.heap.size+1,0,none⟩=some v'/\W.cell? ⟨w.heap.size+1+1,0,none⟩=some v''/\W.heap[w.heap.size+1+1+1]?=some (.cells #[.slice none 0 0] 26 (0,0)):=by
 obtain⟨W1,h1⟩:∃W1,W1=w.alloc (.cells #[v] 26):=⟨_,rfl⟩
 obtain⟨W2,h2⟩:∃W2,W2=W1.alloc (.cells #[v'] 26):=⟨_,rfl⟩
 obtain⟨W3,h3⟩:∃W3,W3=W2.alloc (.cells #[v''] 26):=⟨_,rfl⟩
 obtain⟨W4,h4⟩:∃W4,W4=W3.alloc (.cells #[.slice none 0 0] 26):=⟨_,rfl⟩
 have s1:W1.heap.size=w.heap.size+1:=by rw[h1];exact alloc_size _ _
 have s2:W2.heap.size=w.heap.size+1+1:=by rw[h2,alloc_size,s1]
 have s3:W3.heap.size=w.heap.size+1+1+1:=by rw[h3,alloc_size,s2]
 have n1:New w W1:=by rw[h1];exact Upd.alloc _ _ _
 have n2:New W1 W2:=by rw[h2];exact Upd.alloc _ _ _
 have n3:New W2 W3:=by rw[h3];exact Upd.alloc _ _ _
 have n4:New W3 W4:=by rw[h4];exact Upd.alloc _ _ _
 refine⟨W4,by rw[h4,h3,h2,h1],n1.trans (n2.trans (n3.trans n4)),by rw[h4,alloc_size,s3],?_,?_,?_,?_⟩
 · exact cell_of (((n3.trans n4).block _ (by omega) id).trans ((n2.block _ (by omega) id).trans (by rw[h1];exact Ex.alloc_new w _))) 0 _ rfl
 · exact cell_of (((n3.trans n4).block _ (by omega) id).trans (by rw[h2,<-s1];exact Ex.alloc_new W1 _)) 0 _ rfl
 · exact cell_of ((n4.block _ (by omega) id).trans (by rw[h3,<-s2];exact Ex.alloc_new W2 _)) 0 _ rfl
 · rw[h4,<-s3];exact Ex.alloc_new W3 _
theorem dmuldiv_c {Q Q' Q'':Nat->Prop} {w:World} {A A' A'':Option Addr} {n c n' c' n'' c'' x y z:Nat} (h:LQ Q w A n c x) (h':LQ Q' w A' n' c' y) (h'':LQ Q'' w A'' n'' c'' z) (h0:0<z) (hb:x*y<Gn.B ^ 1000):
 Calls Tryz.prog 63 #[.agg #[.slice A n c],.agg #[.slice A' n' c'],.agg #[.slice A'' n'' c'']] w (DecE w (x*y / z) 0):=by
 obtain⟨W,hW,hnw,hs,l0,l1,l2,hbt⟩:=boxes3 w (.slice A n c) (.slice A' n' c') (.slice A'' n'' c'')
 have hkeep:∀W',New W W'->W'.cell? ⟨w.heap.size,0,none⟩=some (.slice A n c)/\W'.cell? ⟨w.heap.size+1,0,none⟩=some (.slice A' n' c')/\W'.cell? ⟨w.heap.size+1+1,0,none⟩=some (.slice A'' n'' c''):=fun W' hn=>⟨(hn.cell (a:=⟨w.heap.size,0,none⟩) (by show w.heap.size<_;omega) id).trans l0,(hn.cell (a:=⟨w.heap.size+1,0,none⟩) (by show w.heap.size+1<_;omega) id).trans l1,(hn.cell (a:=⟨w.heap.size+1+1,0,none⟩) (by show w.heap.size+1+1<_;omega) id).trans l2⟩
 have h143:∀W' ub,New W W'->W'.cell? ⟨ub,0,none⟩=some (.slice none 0 0)->Calls Tryz.prog 143 #[.slice A n c,.slice A' n' c',.slice A'' n'' c'',.pointer (some ⟨ub,0,none⟩)] W' (DecE W' (x*y / z) 0):=fun W' ub hn hu=>
  round1_c (h.new (hnw.trans hn)) (h'.new (hnw.trans hn)) (h''.new (hnw.trans hn)) h0 hb hu
 obtain⟨X,hX⟩:∃X,X=x*y / z:=⟨_,rfl⟩
 rw[<-hX]at h143 ⊢
 have H3:=Lib.hid h143;have HK:=Lib.hid hkeep;have HB:=Lib.hid hbt;have HN:=Lib.hid hnw;have S2:=Lib.hid hs
 clear h143 hkeep hbt hnw hs hX h h' h'' h0 hb
 go_enter Tryz.func63,Tryz.ntmps63
 go_upto_region 1 with fail
 rw[<-hW]
 clear hW
 go_region_held (fun w'=>w'.cell? ⟨w.heap.size,0,none⟩=some (.slice A n c)/\w'.cell? ⟨w.heap.size+1,0,none⟩=some (.slice A' n' c')/\w'.cell? ⟨w.heap.size+1+1,0,none⟩=some (.slice A'' n'' c'')) (go_keep) (first
  | (go_at_call 90
     refine(rounder_c _).mono ?_
     rintro e w1 ⟨rfl,hw1⟩
     have n1:New W w1:=by rw[hw1];exact(Upd.refl _ W).drew.trans (Upd.alloc _ _ _)
     have hu1:w1.cell? ⟨W.drew.heap.size,0,none⟩=some (.slice none 0 0):=by rw[hw1];exact cell_of (Ex.alloc_new W.drew _) 0 _ rfl
     obtain⟨d1,d2,d3⟩:=HK.out _ n1
     have E1:=Lib.hid (And.intro n1 hu1)
     clear hw1 n1 hu1)
  | (go_at_call 143
     refine(H3.out w1 _ E1.out.1 E1.out.2).mono ?_
     rintro e w4 ⟨R,m,d,rfl,hr4,hn4⟩
     have n4:New W w4:=E1.out.1.trans hn4
     obtain⟨e1,e2,e3⟩:=HK.out _ n4
     obtain⟨c0,z0,q0,hl,hnw⟩:=dec_end (b:=w.heap.size+1+1+1) (HN.out.trans n4) ((n4.block _ (by have:=S2.out;omega) id).trans HB.out) (by omega) (hr4.mono (fun b _ hb=>by have hb:w1.heap.size<=b:=hb;have:=S2.out;have:=E1.out.1.size;show w.heap.size+1+1+1<b;omega))
     have hst:Upd (fun b=>b=w.heap.size+1+1+1) w4 (w4.setCell ⟨w.heap.size+1+1+1,0,none⟩ (.slice R m d)):=Upd.setCell w4 _ rfl
     have hsz4:w.heap.size+1+1+1<w4.heap.size:=by have:=S2.out;have:=n4.size;omega
     have g1:=(hst.cell (a:=⟨w.heap.size,0,none⟩) (by show w.heap.size<_;omega) (by show ¬w.heap.size=_;omega)).trans e1
     have g2:=(hst.cell (a:=⟨w.heap.size+1,0,none⟩) (by show w.heap.size+1<_;omega) (by show ¬w.heap.size+1=_;omega)).trans e2
     have g3:=(hst.cell (a:=⟨w.heap.size+1+1,0,none⟩) (by show w.heap.size+1+1<_;omega) (by show ¬w.heap.size+1+1=_;omega)).trans e3
     have QQ:=Lib.hid (And.intro q0 (And.intro hl hnw))
     clear hr4 hn4 n4 q0 hl hnw hst hsz4))
 clear c0 z0
 go_wp2
 obtain⟨q0,hl,hnw⟩:=QQ.out
 refine bodyPost_ret (by simp[results,Tryz.results63,go_sem,q0];try rfl) rfl ?_
 exact⟨R,m,d,rfl,hl,hnw⟩
theorem rounder_n (w:World):Calls Tryz.prog 90 #[.slice none 0 0] w fun e w'=>∃ub,e=.returned (.func (.func 143) #[] #[.pointer (some ⟨ub,0,none⟩)])/\New w w'/\w'.cell? ⟨ub,0,none⟩=some (.slice none 0 0):=by
 refine(rounder_c w).mono ?_
 rintro e w' ⟨rfl,rfl⟩
 exact⟨_,rfl,Upd.alloc _ _ _,cell_of (Ex.alloc_new w _) 0 _ rfl⟩
def AL5 (W:World) (b:Nat) (w:World):Prop:=w.heap[b]?=some (.cells #[.slice none 0 0] 26 (0,0))/\W.heap.size<=b
theorem AL5.next {W w w':World} {b:Nat} (h:AL5 W b w) (hn:New w w'):AL5 W b w':=⟨(hn.block b (Array.getElem?_eq_some_iff.1 h.1).1 id).trans h.1,h.2⟩
theorem AL5.lt {W w:World} {b:Nat} (h:AL5 W b w):b<w.heap.size:=(Array.getElem?_eq_some_iff.1 h.1).1
theorem AL5.make {W w w':World} (h:w'=w.alloc (.cells #[.slice none 0 0] 26)) (hs:W.heap.size<=w.heap.size):AL5 W w.heap.size w'/\New w w':=⟨⟨by rw[h];exact Ex.alloc_new w _,hs⟩,by rw[h];exact Upd.alloc _ _ _⟩
theorem AL5.facts {W w:World} {b a a':Nat} (h:AL5 W b w) {u u':Value} (e1:w.cell? ⟨a,0,none⟩=some u) (e2:w.cell? ⟨a',0,none⟩=some u') (h1:a<W.heap.size) (h2:a'<W.heap.size) (v:Value):
 w.cell? ⟨b,0,none⟩=some (.slice none 0 0)/\w.frozen? ⟨b,0,none⟩=false/\(w.setCell ⟨b,0,none⟩ v).cell? ⟨a,0,none⟩=some u/\(w.setCell ⟨b,0,none⟩ v).cell? ⟨a',0,none⟩=some u':=by
 have hst:Upd (fun x=>x=b) w (w.setCell ⟨b,0,none⟩ v):=Upd.setCell w _ rfl
 have:=h.2
 exact⟨cell_of h.1 0 _ rfl,frozen_of h.1 0,(hst.cell (a:=⟨a,0,none⟩) (World.block_lt_of_cell? w _ e1) (by show ¬a=b;omega)).trans e1,(hst.cell (a:=⟨a',0,none⟩) (World.block_lt_of_cell? w _ e2) (by show ¬a'=b;omega)).trans e2⟩
def MulEnd (w WF:World) (b5:Nat) (R:Option Addr) (m d X:Nat):Prop:=WF.cell? ⟨b5,0,none⟩=some (.slice R m d)/\WF.cell? ⟨w.heap.size+1+1,0,none⟩=some (.slice none 0 0)/\WF.frozen? ⟨w.heap.size+1+1,0,none⟩=false/\(WF.setCell ⟨w.heap.size+1+1,0,none⟩ (.slice R m d)).cell? ⟨w.heap.size+1+1,0,none⟩=some (.slice R m d)/\Hid (LN (NB w) (WF.setCell ⟨w.heap.size+1+1,0,none⟩ (.slice R m d)) R m d X/\New w (WF.setCell ⟨w.heap.size+1+1,0,none⟩ (.slice R m d)))
theorem mul_endA {w W w3 w4:World} {b:Nat} {R:Option Addr} {m d X:Nat} (hn:New w W) (hs:W.heap.size=w.heap.size+1+1+1) (hb:W.heap[w.heap.size+1+1]?=some (.cells #[.slice none 0 0] 26 (0,0))) (al:AL5 W b w4/\b<w3.heap.size) (h4:LN (NB w3) w4 R m d X/\New W w4) (hz:W.heap.size<=w3.heap.size):
 MulEnd w (w4.setCell ⟨b,0,none⟩ (.slice R m d)) b R m d X:=by
 obtain⟨⟨a1,a2⟩,a3⟩:=al
 obtain⟨hr4,n4⟩:=h4
 have hst:Upd (fun x=>x=b) w4 (w4.setCell ⟨b,0,none⟩ (.slice R m d)):=Upd.setCell w4 _ rfl
 have bres:w4.heap[w.heap.size+1+1]?=some (.cells #[.slice none 0 0] 26 (0,0)):=(n4.block _ (by omega) id).trans hb
 have h4s:=n4.size
 have n5:New w (w4.setCell ⟨b,0,none⟩ (.slice R m d)):=(hn.trans n4).then hst (fun x hx e=>by have e:x=b:=e;omega)
 have hr5:LN (fun x=>w.heap.size+1+1<x) (w4.setCell ⟨b,0,none⟩ (.slice R m d)) R m d X:=(hr4.upd hst (fun x hx e=>by have e:x=b:=e;have hx:w3.heap.size<=x:=hx;omega)).mono (fun x _ hx=>by have hx:w3.heap.size<=x:=hx;show w.heap.size+1+1<x;omega)
 obtain⟨c0,z0,q0,hl,hnw⟩:=dec_end (b:=w.heap.size+1+1) n5 ((hst.block _ (by omega) (by omega)).trans bres) (by omega) hr5
 exact⟨cell_of (setCell_at a1 (.slice R m d) (i:=0)) 0 _ rfl,c0,z0,q0,Lib.hid ⟨hl,hnw⟩⟩
theorem mul_endB {w W w3 w4:World} {R:Option Addr} {m d X:Nat} (hn:New w W) (hs:W.heap.size=w.heap.size+1+1+1) (hb:W.heap[w.heap.size+1+1]?=some (.cells #[.slice none 0 0] 26 (0,0))) (h4:LN (NB w3) w4 R m d X/\New W w4) (hz:W.heap.size<=w3.heap.size):
 MulEnd w (w4.alloc (.cells #[.slice R m d] 26)) w4.heap.size R m d X:=by
 obtain⟨hr4,n4⟩:=h4
 have hst:New w4 (w4.alloc (.cells #[.slice R m d] 26)):=Upd.alloc _ _ _
 have h4s:=n4.size
 have bres:w4.heap[w.heap.size+1+1]?=some (.cells #[.slice none 0 0] 26 (0,0)):=(n4.block _ (by omega) id).trans hb
 obtain⟨c0,z0,q0,hl,hnw⟩:=dec_end (b:=w.heap.size+1+1) (hn.trans (n4.trans hst)) ((hst.block _ (by omega) id).trans bres) (by omega) ((hr4.new hst).mono (fun x _ hx=>by have hx:w3.heap.size<=x:=hx;show w.heap.size+1+1<x;omega))
 exact⟨cell_of (Ex.alloc_new w4 _) 0 _ rfl,c0,z0,q0,Lib.hid ⟨hl,hnw⟩⟩
theorem dmul_c {Q Q':Nat->Prop} {w:World} {A A':Option Addr} {n c n' c' x y:Nat} (h:LQ Q w A n c x) (h':LQ Q' w A' n' c' y) (hb:x*y<Gn.B ^ 1000):
 Calls Tryz.prog 60 #[.agg #[.slice A n c],.agg #[.slice A' n' c']] w (DecR w (x*y / 10 ^ 36)):=by
 obtain⟨W,hW,hnw,hs,l0,l1,hbt⟩:=boxes2 w (.slice A n c) (.slice A' n' c')
 have hkeep:∀W',New W W'->W'.cell? ⟨w.heap.size,0,none⟩=some (.slice A n c)/\W'.cell? ⟨w.heap.size+1,0,none⟩=some (.slice A' n' c'):=fun W' hn=>⟨(hn.cell (a:=⟨w.heap.size,0,none⟩) (by show w.heap.size<_;omega) id).trans l0,(hn.cell (a:=⟨w.heap.size+1,0,none⟩) (by show w.heap.size+1<_;omega) id).trans l1⟩
 obtain⟨U,hU⟩:∃U,U=10 ^ 36:=⟨_,rfl⟩
 have hunit:=fun W'=>unit_ln W'
 rw[<-hU]at hunit ⊢
 have hU0:0<U:=by rw[hU];decide
 have h143:∀W' A1 k1 e1 ub,New W W'->LQ (NB W) W' A1 k1 e1 U->W'.cell? ⟨ub,0,none⟩=some (.slice none 0 0)->Calls Tryz.prog 143 #[.slice A n c,.slice A' n' c',.slice A1 k1 e1,.pointer (some ⟨ub,0,none⟩)] W' (DecE W' (x*y / U) 0):=fun W' A1 k1 e1 ub hn g1 hu=>
  round1_c (h.new (hnw.trans hn)) (h'.new (hnw.trans hn)) g1 hU0 hb hu
 obtain⟨X,hX⟩:∃X,X=x*y / U:=⟨_,rfl⟩
 rw[<-hX]at h143 ⊢
 have H3:=Lib.hid h143;have HK:=Lib.hid hkeep;have HB:=Lib.hid hbt;have HN:=Lib.hid hnw;have S2:=Lib.hid hs;have HUN:=Lib.hid hunit
 clear h143 hkeep hbt hnw hs hX h h' hb hunit hU hU0
 go_enter Tryz.func60,Tryz.ntmps60
 go_upto_region 1 with fail
 rw[<-hW]
 clear hW
 go_region_held (fun w'=>w'.cell? ⟨w.heap.size,0,none⟩=some (.slice A n c)/\w'.cell? ⟨w.heap.size+1,0,none⟩=some (.slice A' n' c')) (go_keep) (first
  | (go_at_call 90
     obtain⟨w0,hw0⟩:∃w0,w0=W.alloc (.cells #[.slice none 0 0] 26):=⟨_,rfl⟩
     rw[<-hw0]
     obtain⟨al,n0⟩:=AL5.make (W:=W) hw0 (Nat.le_refl _)
     refine(rounder_n _).mono ?_
     rintro e w1 ⟨ub,rfl,hn1,hu1⟩
     have n1:New W w1:=n0.trans ((Upd.refl _ w0).drew.trans hn1)
     obtain⟨d1,d2⟩:=HK.out _ n1
     have E1:=Lib.hid (And.intro n1 hu1)
     have AL1:=Lib.hid (al.next ((Upd.refl _ w0).drew.trans hn1))
     clear hn1 n1 hu1 al n0 hw0)
  | (go_at_call 90
     refine(rounder_n _).mono ?_
     rintro e w1 ⟨ub,rfl,hn1,hu1⟩
     have n1:New W w1:=(Upd.refl _ W).drew.trans hn1
     obtain⟨d1,d2⟩:=HK.out _ n1
     have E1:=Lib.hid (And.intro n1 hu1)
     clear hn1 n1 hu1)
  | (go_at_call 113
     obtain⟨w0,hw0⟩:∃w0,w0=w1.alloc (.cells #[.slice none 0 0] 26):=⟨_,rfl⟩
     rw[<-hw0]
     obtain⟨al,n0⟩:=AL5.make (W:=W) hw0 E1.out.1.size
     refine(HUN.out w0).mono ?_
     rintro e w2 ⟨rfl,hr2,hn2⟩
     obtain⟨f1,f2⟩:=HK.out _ (E1.out.1.trans (n0.trans hn2))
     have E2:=Lib.hid (And.intro (hr2.lq.mono (Q':=NB W) (fun b _ hb=>Nat.le_trans E1.out.1.size (Nat.le_trans n0.size hb))) (n0.trans hn2))
     have AL:=Lib.hid (al.next hn2)
     clear hr2 hn2 n0 al hw0)
  | (go_at_call 113
     refine(HUN.out w1).mono ?_
     rintro e w2 ⟨rfl,hr2,hn2⟩
     obtain⟨f1,f2⟩:=HK.out _ (E1.out.1.trans hn2)
     have E2:=Lib.hid (And.intro (hr2.lq.mono (Q':=NB W) (fun b _ hb=>Nat.le_trans E1.out.1.size hb)) hn2)
     first
      | (have AL:=Lib.hid (AL1.out.next hn2);clear AL1)
      | skip
     clear hr2 hn2)
  | (go_at_call 143
     obtain⟨w3,hw3⟩:∃w3,w3=w2.alloc (.cells #[.slice none 0 0] 26):=⟨_,rfl⟩
     rw[<-hw3]
     obtain⟨al,n3⟩:=AL5.make (W:=W) hw3 (E1.out.1.trans E2.out.2).size
     refine(H3.out w3 _ 2 2 _ ((E1.out.1.trans E2.out.2).trans n3) (E2.out.1.new n3) (((E2.out.2.trans n3).cell (a:=⟨ub,0,none⟩) (World.block_lt_of_cell? w1 _ E1.out.2) id).trans E1.out.2)).mono ?_
     rintro e w4 ⟨R,m,d,rfl,hr4,hn4⟩
     have n4:New W w4:=((E1.out.1.trans E2.out.2).trans n3).trans hn4
     obtain⟨e1,e2⟩:=HK.out _ n4
     have ALE:=Lib.hid (And.intro (al.next hn4) al.lt)
     obtain⟨c0,z0,g1,g2⟩:=ALE.out.1.facts e1 e2 (by have:=S2.out;omega) (by have:=S2.out;omega) (.slice R m d)
     have E4:=Lib.hid (And.intro hr4 n4)
     have SZ:=Lib.hid ((E1.out.1.trans E2.out.2).trans n3).size
     clear hr4 hn4 n4 al hw3 n3)
  | (go_at_call 143
     have AL0:=AL
     clear AL
     refine(H3.out w2 _ 2 2 _ (E1.out.1.trans E2.out.2) E2.out.1 ((E2.out.2.cell (a:=⟨ub,0,none⟩) (World.block_lt_of_cell? w1 _ E1.out.2) id).trans E1.out.2)).mono ?_
     rintro e w4 ⟨R,m,d,rfl,hr4,hn4⟩
     have n4:New W w4:=(E1.out.1.trans E2.out.2).trans hn4
     obtain⟨e1,e2⟩:=HK.out _ n4
     have ALE:=Lib.hid (And.intro (AL0.out.next hn4) AL0.out.lt)
     obtain⟨c0,z0,g1,g2⟩:=ALE.out.1.facts e1 e2 (by have:=S2.out;omega) (by have:=S2.out;omega) (.slice R m d)
     have E4:=Lib.hid (And.intro hr4 n4)
     have SZ:=Lib.hid (E1.out.1.trans E2.out.2).size
     clear hr4 hn4 n4 AL0)
  | (go_at_call 143
     refine(H3.out w2 _ 2 2 _ (E1.out.1.trans E2.out.2) E2.out.1 ((E2.out.2.cell (a:=⟨ub,0,none⟩) (World.block_lt_of_cell? w1 _ E1.out.2) id).trans E1.out.2)).mono ?_
     rintro e w4 ⟨R,m,d,rfl,hr4,hn4⟩
     have n4:New W w4:=(E1.out.1.trans E2.out.2).trans hn4
     obtain⟨e1,e2⟩:=HK.out _ n4
     have SZ:=Lib.hid (E1.out.1.trans E2.out.2).size
     have E4:=Lib.hid (And.intro hr4 n4)
     clear hr4 hn4 n4))
 · obtain⟨l5,c0,z0,q0,HE⟩:=mul_endB HN.out S2.out HB.out E4.out SZ.out
   obtain⟨WF,hWF⟩:∃WF,WF=w4.alloc (.cells #[.slice R m d] 26):=⟨_,rfl⟩
   rw[<-hWF]at l5 c0 z0 q0 HE ⊢
   clear hWF d1 d2 e1 e2
   go_wp2
   refine bodyPost_ret (by simp[results,Tryz.results60,go_sem,q0];try rfl) rfl ?_
   exact⟨R,m,d,rfl,HE.out⟩
 · clear c0 z0
   obtain⟨l5,c0,z0,q0,HE⟩:=mul_endA HN.out S2.out HB.out ALE.out E4.out SZ.out
   obtain⟨WF,hWF⟩:∃WF,WF=w4.setCell ⟨w2.heap.size,0,none⟩ (.slice R m d):=⟨_,rfl⟩
   rw[<-hWF]at l5 c0 z0 q0 HE ⊢
   clear hWF d1 d2 e1 e2 g1 g2
   go_wp2
   refine bodyPost_ret (by simp[results,Tryz.results60,go_sem,q0];try rfl) rfl ?_
   exact⟨R,m,d,rfl,HE.out⟩
 · clear c0 z0
   obtain⟨l5,c0,z0,q0,HE⟩:=mul_endA HN.out S2.out HB.out ALE.out E4.out SZ.out
   obtain⟨WF,hWF⟩:∃WF,WF=w4.setCell ⟨w1.heap.size,0,none⟩ (.slice R m d):=⟨_,rfl⟩
   rw[<-hWF]at l5 c0 z0 q0 HE ⊢
   clear hWF d1 d2 e1 e2 g1 g2
   go_wp2
   refine bodyPost_ret (by simp[results,Tryz.results60,go_sem,q0];try rfl) rfl ?_
   exact⟨R,m,d,rfl,HE.out⟩
 · clear c0 z0
   obtain⟨l5,c0,z0,q0,HE⟩:=mul_endA HN.out S2.out HB.out ALE.out E4.out SZ.out
   obtain⟨WF,hWF⟩:∃WF,WF=w4.setCell ⟨W.heap.size,0,none⟩ (.slice R m d):=⟨_,rfl⟩
   rw[<-hWF]at l5 c0 z0 q0 HE ⊢
   clear hWF d1 d2 e1 e2 g1 g2
   go_wp2
   refine bodyPost_ret (by simp[results,Tryz.results60,go_sem,q0];try rfl) rfl ?_
   exact⟨R,m,d,rfl,HE.out⟩
theorem dzero_c {Q:Nat->Prop} {w:World} {A:Option Addr} {n c x:Nat} (h:LQ Q w A n c x):Calls Tryz.prog 26 #[.agg #[.slice A n c]] w fun e w'=>e=.returned (.bool (decide (x=0)))/\New w w':=by
 obtain⟨l,h1,h2⟩:=h.nat
 refine(DZero_c h1 (by have:=h.few;omega)).mono ?_
 rintro e w' ⟨rfl,hb⟩
 exact⟨by rw[h2],new_of_below hb⟩
theorem by_n (w:World):Calls Tryz.prog 130 #[.bool false] w fun e w'=>∃ub,e=.returned (.func (.func 191) #[] #[.pointer (some ⟨ub,0,none⟩)])/\New w w'/\w'.cell? ⟨ub,0,none⟩=some (.bool false):=by
 go_enter Tryz.func130,Tryz.ntmps130
 go_wp2
 go_ret
 exact⟨w.heap.size,rfl,Upd.alloc _ _ _,cell_of (Ex.alloc_new w _) 0 _ rfl⟩
theorem by1_c {Q Q' Q'':Nat->Prop} {w:World} {A A' A'':Option Addr} {n c n' c' n'' c'' x y z ub:Nat} (h:LQ Q w A n c x) (h':LQ Q' w A' n' c' y) (h'':LQ Q'' w A'' n'' c'' z) (h0:0<z) (hb:x*y<Gn.B ^ 1000) (hub:w.cell? ⟨ub,0,none⟩=some (.bool false)):
 Calls Tryz.prog 191 #[.agg #[.slice A n c],.agg #[.slice A' n' c'],.agg #[.slice A'' n'' c''],.pointer (some ⟨ub,0,none⟩)] w (DecR w (x*y / z)):=by
 obtain⟨W,hW,hnw,hs,l0,l1,l2,hbt⟩:=boxes3 w (.slice A n c) (.slice A' n' c') (.slice A'' n'' c'')
 have hu1:W.cell? ⟨ub,0,none⟩=some (.bool false):=(hnw.cell (a:=⟨ub,0,none⟩) (World.block_lt_of_cell? w _ hub) id).trans hub
 have h63:=dmuldiv_c (h.new hnw) (h'.new hnw) (h''.new hnw) h0 hb
 obtain⟨X,hX⟩:∃X,X=x*y / z:=⟨_,rfl⟩
 rw[<-hX]at h63 ⊢
 have H63:=Lib.hid h63;have HB:=Lib.hid hbt;have HN:=Lib.hid hnw;have S2:=Lib.hid hs
 clear h63 hbt hnw hs hX h h' h'' h0 hb hub
 go_enter Tryz.func191,Tryz.ntmps191
 go_upto_region 1 with fail
 rw[<-hW]
 clear hW
 go_upto_region 5 with(go_at_call 63;refine H63.out.mono ?_;rintro e w2 ⟨R,m,d,rfl,hr2,hn2⟩;have H2:=Lib.hid (And.intro hr2 hn2);clear H63 hr2 hn2)
 obtain⟨W3,hW3⟩:∃W3,W3=w2.alloc (.cells #[.slice R m d] 26):=⟨_,rfl⟩
 rw[<-hW3]
 have n3:New w2 W3:=by rw[hW3];exact Upd.alloc _ _ _
 have l3:W3.cell? ⟨w2.heap.size,0,none⟩=some (.slice R m d):=by rw[hW3];exact cell_of (Ex.alloc_new w2 _) 0 _ rfl
 obtain⟨hr2,hn2⟩:=H2.out
 have hs2:=S2.out
 obtain⟨c0,z0,q0,hl,hnw⟩:=dec_end (b:=w.heap.size+1+1+1) (HN.out.trans (hn2.trans n3)) (((hn2.trans n3).block _ (by omega) id).trans HB.out) (by omega) ((hr2.new n3).mono (fun b _ hb=>by have hb:W.heap.size<=b:=hb;show w.heap.size+1+1+1<b;omega))
 have QQ:=Lib.hid (And.intro hl hnw)
 clear hl hnw hr2 hn2 n3 hW3
 go_wp2
 refine bodyPost_ret (by simp[results,Tryz.results191,go_sem,q0];try rfl) rfl ?_
 exact⟨R,m,d,rfl,QQ.out⟩
theorem worth_c {Q Q':Nat->Prop} {w:World} {A A':Option Addr} {n c n' c' x y t:Nat} (h:LQ Q w A n c y) (h':LQ Q' w A' n' c' x) (h0:0<y) (ht:t<18446744073709551616) (hb:x*(t*10 ^ 36)<Gn.B ^ 1000):
 Calls Tryz.prog 75 #[.int .u64 (t:Int),.agg #[.slice A n c],.agg #[.slice A' n' c']] w (DecR w (x*(t*10 ^ 36) / y)):=by
 obtain⟨W,hW,hnw,hs,l0,l1,hbt⟩:=boxes2 w (.slice A n c) (.slice A' n' c')
 have hkeep:∀W',New W W'->W'.cell? ⟨w.heap.size,0,none⟩=some (.slice A n c)/\W'.cell? ⟨w.heap.size+1,0,none⟩=some (.slice A' n' c'):=fun W' hn=>⟨(hn.cell (a:=⟨w.heap.size,0,none⟩) (by show w.heap.size<_;omega) id).trans l0,(hn.cell (a:=⟨w.heap.size+1,0,none⟩) (by show w.heap.size+1<_;omega) id).trans l1⟩
 obtain⟨U,hU⟩:∃U,U=t*10 ^ 36:=⟨_,rfl⟩
 have hof:∀W',Calls Tryz.prog 24 #[.int .u64 (t:Int)] W' (DecR W' U):=fun W'=>by rw[hU];exact of_c t ht
 rw[<-hU]at hb ⊢
 have h191:∀W' A1 k1 e1 ub,New W W'->LQ (NB W) W' A1 k1 e1 U->W'.cell? ⟨ub,0,none⟩=some (.bool false)->Calls Tryz.prog 191 #[.agg #[.slice A' n' c'],.agg #[.slice A1 k1 e1],.agg #[.slice A n c],.pointer (some ⟨ub,0,none⟩)] W' (DecR W' (x*U / y)):=fun W' A1 k1 e1 ub hn g1 hu=>
  by1_c (h'.new (hnw.trans hn)) g1 (h.new (hnw.trans hn)) h0 hb hu
 have hz:=dzero_c (h.new hnw)
 have hy0:decide (y=0)=false:=by simp;omega
 rw[hy0]at hz
 obtain⟨X,hX⟩:∃X,X=x*U / y:=⟨_,rfl⟩
 rw[<-hX]at h191 ⊢
 have H3:=Lib.hid h191;have HK:=Lib.hid hkeep;have HB:=Lib.hid hbt;have HN:=Lib.hid hnw;have S2:=Lib.hid hs;have HOF:=Lib.hid hof;have HZ:=Lib.hid hz
 clear h191 hkeep hbt hnw hs hX h h' hb hof hU h0 hy0 hz ht
 go_enter Tryz.func75,Tryz.ntmps75
 go_upto_region 1 with fail
 rw[<-hW]
 clear hW
 go_upto_region 3 with(go_at_call 26;refine HZ.out.mono ?_;rintro e W0 ⟨rfl,hn0⟩;have N0:=Lib.hid hn0;obtain⟨d1,d2⟩:=HK.out _ hn0;clear hn0 HZ l0 l1)
 go_region_held (fun w'=>w'.cell? ⟨w.heap.size,0,none⟩=some (.slice A n c)/\w'.cell? ⟨w.heap.size+1,0,none⟩=some (.slice A' n' c')) (go_keep) (first
  | (go_at_call 130
     refine(by_n _).mono ?_
     rintro e w1 ⟨ub,rfl,hn1,hu1⟩
     have n1:New W w1:=N0.out.trans ((Upd.refl _ W0).drew.trans hn1)
     obtain⟨e1,e2⟩:=HK.out _ n1
     have E1:=Lib.hid (And.intro n1 hu1)
     clear hn1 n1 hu1)
  | (go_at_call 24
     refine(HOF.out w1).mono ?_
     rintro e w2 ⟨A1,k1,f1,rfl,hr2,hn2⟩
     have n2:New W w2:=E1.out.1.trans hn2
     obtain⟨e3,e4⟩:=HK.out _ n2
     have E2:=Lib.hid (And.intro (hr2.lq.mono (Q':=NB W) (fun b _ hb=>Nat.le_trans E1.out.1.size hb)) (And.intro n2 ((hn2.cell (a:=⟨ub,0,none⟩) (World.block_lt_of_cell? w1 _ E1.out.2) id).trans E1.out.2)))
     clear hr2 hn2 n2)
  | (go_at_call 191
     refine(H3.out w2 _ _ _ _ E2.out.2.1 E2.out.1 E2.out.2.2).mono ?_
     rintro e w4 ⟨R,m,d,rfl,hr4,hn4⟩
     have n4:New W w4:=E2.out.2.1.trans hn4
     obtain⟨e5,e6⟩:=HK.out _ n4
     obtain⟨c0,z0,q0,hl,hnw⟩:=dec_end (b:=w.heap.size+1+1) (HN.out.trans n4) ((n4.block _ (by have:=S2.out;omega) id).trans HB.out) (by omega) (hr4.mono (fun b _ hb=>by have hb:w2.heap.size<=b:=hb;have:=S2.out;have:=E2.out.2.1.size;show w.heap.size+1+1<b;omega))
     have hst:Upd (fun b=>b=w.heap.size+1+1) w4 (w4.setCell ⟨w.heap.size+1+1,0,none⟩ (.slice R m d)):=Upd.setCell w4 _ rfl
     have hsz4:w.heap.size+1+1<w4.heap.size:=by have:=S2.out;have:=n4.size;omega
     have g1:=(hst.cell (a:=⟨w.heap.size,0,none⟩) (by show w.heap.size<_;omega) (by show ¬w.heap.size=_;omega)).trans e5
     have g2:=(hst.cell (a:=⟨w.heap.size+1,0,none⟩) (by show w.heap.size+1<_;omega) (by show ¬w.heap.size+1=_;omega)).trans e6
     have QQ:=Lib.hid (And.intro q0 (And.intro hl hnw))
     clear hr4 hn4 n4 q0 hl hnw hst hsz4))
 clear c0 z0
 go_wp2
 obtain⟨q0,hl,hnw⟩:=QQ.out
 refine bodyPost_ret (by simp[results,Tryz.results75,go_sem,q0];try rfl) rfl ?_
 exact⟨R,m,d,rfl,hl,hnw⟩
theorem dcmp_c {Q Q':Nat->Prop} {w:World} {A A':Option Addr} {n c n' c' x y:Nat} (h:LQ Q w A n c x) (h':LQ Q' w A' n' c' y):Calls Tryz.prog 37 #[.agg #[.slice A n c],.agg #[.slice A' n' c']] w fun e w'=>e=.returned (.int .i64 (cmpI x y))/\New w w':=by
 obtain⟨W1,hW1⟩:∃W1,W1=w.alloc (.cells #[.slice A n c] 26):=⟨_,rfl⟩
 obtain⟨W,hW⟩:∃W,W=W1.alloc (.cells #[.slice A' n' c'] 26):=⟨_,rfl⟩
 have s1:W1.heap.size=w.heap.size+1:=by rw[hW1];exact alloc_size _ _
 have n1:New w W1:=by rw[hW1];exact Upd.alloc _ _ _
 have n2:New W1 W:=by rw[hW];exact Upd.alloc _ _ _
 have hnw:New w W:=n1.trans n2
 have l0:W.cell? ⟨w.heap.size,0,none⟩=some (.slice A n c):=cell_of ((n2.block _ (by omega) id).trans (by rw[hW1];exact Ex.alloc_new w _)) 0 _ rfl
 have l1:W.cell? ⟨w.heap.size+1,0,none⟩=some (.slice A' n' c'):=cell_of (by rw[hW,<-s1];exact Ex.alloc_new W1 _) 0 _ rfl
 have H1:=Lib.hid (ncmp (h.new hnw) (h'.new hnw));have HN:=Lib.hid hnw
 obtain⟨z,hz⟩:∃z,z=cmpI (x:Int) (y:Int):=⟨_,rfl⟩
 rw[<-hz]at H1 ⊢
 clear hz n1 n2 hnw h h' s1
 go_enter Tryz.func37,Tryz.ntmps37
 go_upto_region 1 with fail
 rw[<-hW1,<-hW]
 clear hW1 hW
 go_wp2_with (go_at_call 31;refine H1.out.mono ?_;rintro e w2 ⟨rfl,q,hq⟩;have HQ:=Lib.hid hq;clear hq)
 go_ret
 exact⟨rfl,by rw[HQ.out];exact HN.out.drewN q⟩
theorem times_c {Q:Nat->Prop} {w:World} {A:Option Addr} {n c x t:Nat} (h:LQ Q w A n c x) (ht:t<18446744073709551616) (hb:x*t<Gn.B ^ 1000):
 Calls Tryz.prog 40 #[.agg #[.slice A n c],.int .u64 (t:Int)] w (DecR w (x*t)):=by
 obtain⟨W1,hW1⟩:∃W1,W1=w.alloc (.cells #[.slice A n c] 26):=⟨_,rfl⟩
 obtain⟨W,hW⟩:∃W,W=W1.alloc (.cells #[.slice none 0 0] 26):=⟨_,rfl⟩
 have s1:W1.heap.size=w.heap.size+1:=by rw[hW1];exact alloc_size _ _
 have s2:W.heap.size=w.heap.size+1+1:=by rw[hW,alloc_size,s1]
 have n1:New w W1:=by rw[hW1];exact Upd.alloc _ _ _
 have n2:New W1 W:=by rw[hW];exact Upd.alloc _ _ _
 have hnw:New w W:=n1.trans n2
 have b1:W.heap[w.heap.size]?=some (.cells #[.slice A n c] 26 (0,0)):=(n2.block _ (by omega) id).trans (by rw[hW1];exact Ex.alloc_new w _)
 have hbt:W.heap[w.heap.size+1]?=some (.cells #[.slice none 0 0] 26 (0,0)):=by rw[hW,<-s1];exact Ex.alloc_new W1 _
 have l0:W.cell? ⟨w.heap.size,0,none⟩=some (.slice A n c):=cell_of b1 0 _ rfl
 have hkeep:∀W',New W W'->W'.cell? ⟨w.heap.size,0,none⟩=some (.slice A n c):=fun W' hn=>(hn.cell (a:=⟨w.heap.size,0,none⟩) (by show w.heap.size<_;omega) id).trans l0
 have h29:∀W' A1 k1 e1,New W W'->LQ (NB W) W' A1 k1 e1 t->Calls Tryz.prog 29 #[.slice A n c,.slice A1 k1 e1] W' (NumR W' (x*t)):=fun W' A1 k1 e1 hn g1=>nmul (h.new (hnw.trans hn)) g1 hb
 obtain⟨X,hX⟩:∃X,X=x*t:=⟨_,rfl⟩
 rw[<-hX]at h29 ⊢
 have H3:=Lib.hid h29;have HK:=Lib.hid hkeep;have HB:=Lib.hid hbt;have HN:=Lib.hid hnw;have S2:=Lib.hid s2;have HT:=Lib.hid ht
 clear h29 hkeep hbt hnw s1 s2 n1 n2 b1 hX h hb ht
 go_enter Tryz.func40,Tryz.ntmps40
 go_upto_region 1 with fail
 rw[<-hW1,<-hW]
 clear hW1 hW
 go_region_held (fun w'=>w'.cell? ⟨w.heap.size,0,none⟩=some (.slice A n c)) (go_keep) (first
  | (go_at_call 30
     refine(nof t HT.out _).mono ?_
     rintro e w2 ⟨A1,k1,e1,rfl,hr1,hn2⟩
     have n2:New W w2:=(Upd.refl _ W).drew.trans hn2
     have d2:=HK.out _ n2
     have E2:=Lib.hid (And.intro hr1 n2)
     clear hr1 hn2 n2)
  | (go_at_call 29
     refine(H3.out w2 A1 k1 e1 E2.out.2 E2.out.1.lq).mono ?_
     rintro e w4 ⟨R,m,d,rfl,hr4,hn4⟩
     have n4:New W w4:=E2.out.2.trans hn4
     have d4:=HK.out _ n4
     obtain⟨c0,z0,q0,hl,hnw⟩:=dec_end (b:=w.heap.size+1) (HN.out.trans n4) ((n4.block _ (by have:=S2.out;omega) id).trans HB.out) (by omega) (hr4.mono (fun b _ hb=>by have hb:w2.heap.size<=b:=hb;have:=S2.out;have:=E2.out.2.size;show w.heap.size+1<b;omega))
     have QQ:=Lib.hid (And.intro q0 (And.intro hl hnw))
     clear hr4 hn4 n4 q0 hl hnw))
 clear c0 z0
 go_wp2
 obtain⟨q0,hl,hnw⟩:=QQ.out
 refine bodyPost_ret (by simp[results,Tryz.results40,go_sem,q0];try rfl) rfl ?_
 exact⟨R,m,d,rfl,hl,hnw⟩
theorem minus_c {Q Q':Nat->Prop} {w:World} {A A':Option Addr} {n c n' c' x y:Nat} (h:LQ Q w A n c x) (h':LQ Q' w A' n' c' y) (hle:y<=x):Calls Tryz.prog 61 #[.agg #[.slice A n c],.agg #[.slice A' n' c']] w (DecR w (x-y)):=by
 obtain⟨W,hW,hnw,hs,c1,c2,hbt⟩:=boxes2 w (.slice A n c) (.slice A' n' c')
 have h1:=dsub_c (h.new hnw) (h'.new hnw) hle
 have H1:=Lib.hid h1;have HB:=Lib.hid hbt;have HN:=Lib.hid hnw;have HS:=Lib.hid hs
 clear h1 hbt hnw hs h h' hle
 go_enter Tryz.func61,Tryz.ntmps61
 go_upto_region 1 with fail
 rw[<-hW]
 clear hW
 go_upto_region 2 with(go_at_call 88;refine H1.out.mono ?_;rintro e w2 ⟨R,m,d,rfl,hr2,hn2⟩;have H2:=Lib.hid (And.intro hr2 hn2);clear H1 hr2 hn2)
 obtain⟨hr2,hn2⟩:=H2.out
 obtain⟨w3,hw3⟩:∃w3,w3=w2.alloc (.cells #[.slice R m d] 26):=⟨_,rfl⟩
 rw[<-hw3]
 have n3:New w2 w3:=by rw[hw3];exact Upd.alloc _ _ _
 have l3:w3.cell? ⟨w2.heap.size,0,none⟩=some (.slice R m d):=cell_of (by rw[hw3];exact Ex.alloc_new w2 _) 0 _ rfl
 obtain⟨c0,z0,q0,hl,hnw⟩:=dec_end (b:=w.heap.size+1+1) (HN.out.trans (hn2.trans n3)) (((hn2.trans n3).block _ (by have:=HS.out;omega) id).trans HB.out) (by omega) ((hr2.new n3).mono (fun b _ hb=>by have hb:W.heap.size<=b:=hb;have:=HS.out;show w.heap.size+1+1<b;omega))
 have QQ:=Lib.hid (And.intro q0 (And.intro hl hnw))
 clear q0 hl hnw hr2 hn2 n3 hw3
 go_wp2
 obtain⟨q0,hl,hnw⟩:=QQ.out
 refine bodyPost_ret (by simp[results,Tryz.results61,go_sem,q0];try rfl) rfl ?_
 exact⟨R,m,d,rfl,hl,hnw⟩
theorem field26 (W:World) (R:Option Addr) (m d:Nat):(Instr.field 26 (.agg #[.slice R m d]) 0).run Tryz.prog W=.ok (.slice R m d) W:=by
 simp[Instr.field,asAgg,go_sem]
theorem letW {S:Nat->Prop} {w W:World} {b:Nat} {o:Obj} (h1:W.heap[b]?=some o) (h2:Upd S w W):∃W',W=W'/\W'.heap[b]?=some o/\Upd S w W':=⟨W,rfl,h1,h2⟩
theorem cmp_le {x y:Nat} (h:x<=y):decide ((0:Int)<cmpI x y)=false:=by
 unfold cmpI;split<;>first|rfl|(split<;>first|rfl|omega)
theorem cmp_gt {x y:Nat} (h:y<x):decide (cmpI x y<=(0:Int))=false:=by
 unfold cmpI;split<;>first|omega|(split<;>first|rfl|omega)
end Go.Proofs.YtbhnjkegkadodaaGreatDoor

/- Part of the proof. -/
import Derived.Test.YtbhnjkegkadodaaGreatDoorG27
import Derived.Test.YtbhnjkegkadodaaGreatDoorG20
set_option linter.all false
set_option maxRecDepth 100000
set_option maxHeartbeats 8000000
namespace Go.Proofs.YtbhnjkegkadodaaGreatDoor
open Go Go.RowKit Go.Proofs Gl
theorem alloc3 {w W1 W2 W3:World} {o1 o2 o3:Obj} (h1:W1=w.alloc o1) (h2:W2=W1.alloc o2) (h3:W3=W2.alloc o3):New w W3/\W3.heap.size=w.heap.size+1+1+1/\W3.heap[w.heap.size]?=some o1/\W3.heap[w.heap.size+1]?=some o2/\W3.heap[w.heap.size+1+1]?=some o3:=by
 have s1:W1.heap.size=w.heap.size+1:=by rw[h1];exact zad _ _
 have s2:W2.heap.size=w.heap.size+1+1:=by rw[h2,zad,s1]
 have n1:New w W1:=by rw[h1];exact Upd.alloc _ _ _
 have n2:New W1 W2:=by rw[h2];exact Upd.alloc _ _ _
 have n3:New W2 W3:=by rw[h3];exact Upd.alloc _ _ _
 refine⟨n1.trans (n2.trans n3),by rw[h3,zad,s2],?_,?_,?_⟩
 · exact(n3.block _ (by omega) id).trans ((n2.block _ (by omega) id).trans (by rw[h1];exact Ex.alloc_new w _))
 · exact(n3.block _ (by omega) id).trans (by rw[h2,<-s1];exact Ex.alloc_new W1 _)
 · rw[h3,<-s2];exact Ex.alloc_new W2 _
def HistR (w:World) (x y:Nat) (e:Ending) (w':World):Prop:=
 ∃R m d,e=.returned (.tuple #[.agg #[.slice R m d,.int .u64 (y:Int)],.int .i64 0])/\LN (NB w) w' R m d x/\New w w'
theorem get_h1 {w:World} {cb:Nat} {A:Option Addr} {n c x y:Nat} (h:By w A n c (F1.encH x y)) (hb:F1.nb x<=255) (hy:y<18446744073709551616) (hcb:w.cell? ⟨cb,0,none⟩=some (.func (.func 137) #[] #[])):
 Calls Tryz.prog 230 #[.slice A n c,.pointer (some ⟨cb,0,none⟩)] w (HistR w x y):=by
 obtain⟨W1,hW1⟩:∃W1,W1=w.alloc (.cells #[.slice none 0 0,.int .u64 0] 120):=⟨_,rfl⟩
 obtain⟨W2,hW2⟩:∃W2,W2=W1.alloc (.cells #[.slice none 0 0,.int .u64 0] 120):=⟨_,rfl⟩
 obtain⟨W3,hW3⟩:∃W3,W3=W2.alloc (.cells #[.slice none 0 0,.int .u64 0] 120):=⟨_,rfl⟩
 obtain⟨hn,hs,b0,b1,b2⟩:=alloc3 hW1 hW2 hW3
 have hlen:=h.len
 have hln:n=1+F1.nb x+8:=by rw[<-hlen];simp[F1.encH,zah];omega
 have hcl:=zqB w _ hcb
 have hcb3:=(hn.cell (a:=⟨cb,0,none⟩) hcl id).trans hcb
 have hnr:=newReader (h.new hn) (by omega)
 have HNR:=zqH hnr;have HN:=zqH hn;have HS:=zqH hs;have HB:=zqH (And.intro b0 (And.intro b1 b2));have H:=zqH h;have HBB:=zqH hb;have HY:=zqH hy;have HLN:=zqH hln
 clear hnr hn hs b0 b1 b2 h hb hy hlen hcb hln
 go_enter Tryz.func230,Tryz.ntmps230
 go_upto_region 2 with fail
 rw[<-hW1,<-hW2,<-hW3]
 clear hW1 hW2 hW3
 go_upto_region 3 with(go_at_call 231;refine HNR.out.mono ?_;rintro e w4 ⟨br,A4,c4,rfl,hR4,hn4,hbr,hA4⟩;have H4:=zqH (And.intro hR4 (And.intro hn4 (And.intro hbr hA4)));clear HNR hR4 hn4 hbr hA4)
 obtain⟨hR4,hn4,hbr,hA4⟩:=H4.out
 obtain⟨W5,hW5⟩:∃W5,W5=w4.alloc (.cells #[.pointer none,.pointer (some ⟨br,0,none⟩)] 288):=⟨_,rfl⟩
 have n5:New w4 W5:=by rw[hW5];exact Upd.alloc _ _ _
 have hs3:=HS.out
 have hs4:=hn4.size
 have hs5:W5.heap.size=w4.heap.size+1:=by rw[hW5];exact zad _ _
 have hbt:=Ex.alloc_new w4 (.cells #[.pointer none,.pointer (some ⟨br,0,none⟩)] 288)
 rw[<-hW5]at hbt
 have n35:New W3 W5:=hn4.trans n5
 have k0:W5.heap[w.heap.size]?=_:=(n35.block _ (by omega) id).trans HB.out.1
 have k1:W5.heap[w.heap.size+1]?=_:=(n35.block _ (by omega) id).trans HB.out.2.1
 have k2:W5.heap[w.heap.size+1+1]?=_:=(n35.block _ (by omega) id).trans HB.out.2.2
 have hcb5:=(n35.cell (a:=⟨cb,0,none⟩) (by show cb<_;have:cb<w.heap.size:=hcl;omega) id).trans hcb3
 have q0:W5.cell? ⟨w4.heap.size,0,none⟩=some (.pointer none):=zaa hbt 0 _ rfl
 have q1:W5.cell? ⟨w4.heap.size,1,none⟩=some (.pointer (some ⟨br,0,none⟩)):=zaa hbt 1 _ rfl
 have hbrl:=hR4.lt
 have h137:=rhist (hR4.upd n5 id (fun _ _ _=>id)) HBB.out HY.out (by have:=HLN.out;have:=HBB.out;omega) k1 (by omega) (fun a ha=>by have h1:=hA4 a ha;have h2:=hR4.by_.sl.lt ha (by have:=HLN.out;omega);omega)
 have H1:=zqH h137;have N5:=zqH (HN.out.trans n35);have K:=zqH (And.intro k0 k2);have HCB5:=zqH hcb5;have Q1:=zqH q1
 clear h137 n5 n35 k0 k1 k2 hbt hR4 hn4 hA4 hcb3
 rw[<-hW5]
 clear hW5
 go_upto_region 4 with(go_at_call 137;refine H1.out.mono ?_;rintro e w6 ⟨R,m,d,A6,n6,c6,rfl,hr6,hx6,hR6,hu6⟩;have H6:=zqH (And.intro hr6 (And.intro hx6 (And.intro hR6 hu6)));clear H1 hr6 hx6 hR6 hu6)
 obtain⟨hr6,hx6,hR6,hu6⟩:=H6.out
 have hcl':cb<w.heap.size:=hcl
 have hcb6:w6.cell? ⟨cb,0,none⟩=some (.func (.func 137) #[] #[]):=(hu6.cell (a:=⟨cb,0,none⟩) (by show cb<_;omega) (fun e=>e.elim (fun e=>by have e:cb=br:=e;omega) (fun e=>by have e:cb=w.heap.size+1:=e;omega))).trans HCB5.out
 have t1:w6.cell? ⟨w4.heap.size,1,none⟩=some (.pointer (some ⟨br,0,none⟩)):=(hu6.cell (a:=⟨w4.heap.size,1,none⟩) (by show w4.heap.size<_;omega) (fun e=>e.elim (fun e=>by have e:w4.heap.size=br:=e;omega) (fun e=>by have e:w4.heap.size=w.heap.size+1:=e;omega))).trans Q1.out
 have x0:w6.cell? ⟨w.heap.size+1,0,none⟩=some (.slice R m d):=zaa hx6 0 _ rfl
 have x1:w6.cell? ⟨w.heap.size+1,1,none⟩=some (.int .u64 (y:Int)):=zaa hx6 1 _ rfl
 have hn6:n6=0:=by have:=hR6.by_.len;simpa using this.symm
 subst hn6
 have hs6:=hu6.size
 have hbr6:=hR6.lt
 have h232:∀W',New w6 W'->Calls Tryz.prog 232 #[.pointer (some ⟨br,0,none⟩)] W' fun e w'=>e=.returned (.int .i64 0)/\Upd (fun b=>b=br) W' w':=fun W' hn'=>(rEnd (hR6.upd hn' id (fun _ _ _=>id))).mono (fun e w' h=>⟨by rw[h.1];rfl,h.2⟩)
 have h202:∀W' cb',Upd (fun b=>b=br) w6 W'->W'.cell? ⟨cb',0,none⟩=some (.func (.func 137) #[] #[])->Calls Tryz.prog 202 #[.agg #[.slice R m d,.int .u64 (y:Int)],.pointer (some ⟨cb',0,none⟩)] W' (ByR W' (F1.encH x y)):=fun W' cb' hu' hc'=>put_h1 (hr6.lq.upd hu' (fun b hb e=>by have hb:W5.heap.size<=b:=hb;have e:b=br:=e;omega)) HBB.out HY.out hc'
 have hfin:∀W',Upd (fun b=>b=br) w6 W'->By W' A n c (F1.encH x y)/\W'.heap[w.heap.size]?=some (.cells #[.slice none 0 0,.int .u64 0] 120 (0,0))/\LN (fun b=>w.heap.size<b) W' R m d x/\New w W':=fun W' hu'=>by
  have hall:Upd (fun b=>b=br\/b=w.heap.size+1) w W':=((N5.out.mono (fun _ _ h=>h.elim)).trans hu6).trans (hu'.mono (fun b _ h=>.inl h))
  have hnw:New w W':=hall.mono (fun b hb h=>by omega)
  refine⟨H.out.new hnw,?_,?_,hnw⟩
  · exact(hu'.block _ (by omega) (by omega)).trans ((hu6.block _ (by omega) (fun e=>by omega)).trans K.out.1)
  · exact(hr6.upd hu' (fun b hb e=>by have hb:W5.heap.size<=b:=hb;have e:b=br:=e;omega)).mono (fun b _ hb=>by have hb:W5.heap.size<=b:=hb;show w.heap.size<b;omega)
 have H232:=zqH h232;have H202:=zqH h202;have HFIN:=zqH hfin
 have hcell:∀W',Upd (fun b=>b=br) w6 W'->W'.cell? ⟨w4.heap.size,1,none⟩=some (.pointer (some ⟨br,0,none⟩))/\W'.cell? ⟨cb,0,none⟩=some (.func (.func 137) #[] #[])/\W'.cell? ⟨w.heap.size+1,0,none⟩=some (.slice R m d)/\W'.cell? ⟨w.heap.size+1,1,none⟩=some (.int .u64 (y:Int)):=fun W' hu'=>
  ⟨(hu'.cell (a:=⟨w4.heap.size,1,none⟩) (by show w4.heap.size<_;omega) (by show ¬w4.heap.size=br;omega)).trans t1,(hu'.cell (a:=⟨cb,0,none⟩) (by show cb<_;omega) (by show ¬cb=br;omega)).trans hcb6,
   (hu'.cell (a:=⟨w.heap.size+1,0,none⟩) (by show w.heap.size+1<_;omega) (by show ¬w.heap.size+1=br;omega)).trans x0,(hu'.cell (a:=⟨w.heap.size+1,1,none⟩) (by show w.heap.size+1<_;omega) (by show ¬w.heap.size+1=br;omega)).trans x1⟩
 have HCE:=zqH hcell
 clear h232 h202 hfin hcell hr6 hx6 hR6 hu6 q0 q1
 go_region_held (fun w'=>w'.cell? ⟨w4.heap.size,1,none⟩=some (.pointer (some ⟨br,0,none⟩))/\w'.cell? ⟨cb,0,none⟩=some (.func (.func 137) #[] #[])/\w'.cell? ⟨w.heap.size+1,0,none⟩=some (.slice R m d)/\w'.cell? ⟨w.heap.size+1,1,none⟩=some (.int .u64 (y:Int))) (go_keep) (first
  | (go_at_call 232
     refine(H232.out _ ((Upd.refl _ w6).drew)).mono ?_
     rintro e w7 ⟨rfl,hu7⟩
     have hv7:Upd (fun b=>b=br) w6 w7:=(Upd.refl _ w6).drew.trans hu7
     obtain⟨f0,f1,f2,f3⟩:=HCE.out _ hv7
     have HV7:=zqH hv7
     clear hu7 hv7)
  | (go_at_call 136
     refine(putter_h _).mono ?_
     rintro e w8 ⟨rfl,hw8⟩
     have n8:New w7 w8:=by rw[hw8];exact Upd.alloc _ _ _
     have hcb8:w8.cell? ⟨w7.heap.size,0,none⟩=some (.func (.func 137) #[] #[]):=by rw[hw8];exact zaa (Ex.alloc_new w7 _) 0 _ rfl
     have hv8:Upd (fun b=>b=br) w6 w8:=HV7.out.trans (n8.mono (fun _ _ h=>h.elim))
     obtain⟨g0,g1,g2,g3⟩:=HCE.out _ hv8
     have HV8:=zqH (And.intro hv8 hcb8)
     clear hw8 n8 hcb8 hv8)
  | (go_at_call 202
     refine(H202.out w8 _ HV8.out.1 HV8.out.2).mono ?_
     rintro e w9 ⟨A9,n9,c9,rfl,hb9,hn9,hat9⟩
     have hv9:Upd (fun b=>b=br) w6 w9:=HV8.out.1.trans (hn9.mono (fun _ _ h=>h.elim))
     obtain⟨r0,r1,r2,r3⟩:=HCE.out _ hv9
     have HV9:=zqH (And.intro hv9 hb9)
     clear hb9 hn9 hat9 hv9)
  | (go_at_call 178
     refine(equal_c HV9.out.2 (HFIN.out _ HV9.out.1).1).mono ?_
     rintro e w10 ⟨rfl,rfl⟩
     rw[decide_eq_true rfl]))
 obtain⟨-,hb0,hlr,hnw⟩:=HFIN.out _ HV9.out.1
 have hb1:=zab hb0 (.slice R m d) (i:=0)
 have hb2:=zab hb1 (.int .u64 (y:Int)) (i:=1)
 have c0:=zaa hb0 0 _ rfl
 have z0:=zac hb0 0
 have c1:(w10.setCell ⟨w.heap.size,0,none⟩ (.slice R m d)).cell? ⟨w.heap.size,1,none⟩=some (.int .u64 0):=zaa hb1 1 _ rfl
 have z1:(w10.setCell ⟨w.heap.size,0,none⟩ (.slice R m d)).frozen? ⟨w.heap.size,1,none⟩=false:=zac hb1 1
 have q0:((w10.setCell ⟨w.heap.size,0,none⟩ (.slice R m d)).setCell ⟨w.heap.size,1,none⟩ (.int .u64 (y:Int))).cell? ⟨w.heap.size,0,none⟩=some (.slice R m d):=zaa hb2 0 _ rfl
 have q1:((w10.setCell ⟨w.heap.size,0,none⟩ (.slice R m d)).setCell ⟨w.heap.size,1,none⟩ (.int .u64 (y:Int))).cell? ⟨w.heap.size,1,none⟩=some (.int .u64 (y:Int)):=zaa hb2 1 _ rfl
 have HLR:=zqH hlr;have HNW:=zqH hnw;have QQ:=zqH (And.intro q0 q1)
 clear hb0 hb1 hb2 hlr hnw q0 q1
 all_goals go_wp2
 obtain⟨q0,q1⟩:=QQ.out
 refine bodyPost_ret (by simp[results,Tryz.results230,go_sem,q0,q1];try rfl) rfl ?_
 have hset:Upd (fun b=>b=w.heap.size) w10 ((w10.setCell ⟨w.heap.size,0,none⟩ (.slice R m d)).setCell ⟨w.heap.size,1,none⟩ (.int .u64 (y:Int))):=(Upd.setCell (S:=fun b=>b=w.heap.size) w10 _ rfl).trans (Upd.setCell _ _ rfl)
 refine⟨R,m,d,rfl,?_,HNW.out.then hset (fun b hb e=>by have e:b=w.heap.size:=e;omega)⟩
 exact(HLR.out.upd hset (fun b hb e=>by have e:b=w.heap.size:=e;have hb:w.heap.size<b:=hb;omega)).mono (fun b _ hb=>Nat.le_of_lt hb)
theorem getter_h (w:World):Calls Tryz.prog 172 #[.func (.func 137) #[] #[]] w fun e w'=>e=.returned (.func (.func 230) #[] #[.pointer (some ⟨w.heap.size,0,none⟩)])/\w'=w.alloc (.cells #[.func (.func 137) #[] #[]] 214):=by
 go_enter Tryz.func172,Tryz.ntmps172
 go_wp2
 go_ret
 exact⟨rfl,rfl⟩
theorem rhistory_c {w:World} {A:Option Addr} {n c x y:Nat} (h:By w A n c (F1.encH x y)) (hb:F1.nb x<=255) (hy:y<18446744073709551616):
 Calls Tryz.prog 112 #[.slice A n c] w (HistR w x y):=by
 obtain⟨W1,hW1⟩:∃W1,W1=w.alloc (.cells #[.slice none 0 0,.int .u64 0] 120):=⟨_,rfl⟩
 have n1:New w W1:=by rw[hW1];exact Upd.alloc _ _ _
 have b1:=Ex.alloc_new w (.cells #[.slice none 0 0,.int .u64 0] 120)
 rw[<-hW1]at b1
 have s1:W1.heap.size=w.heap.size+1:=by rw[hW1];exact zad _ _
 have h230:∀W cb,New w W->W.cell? ⟨cb,0,none⟩=some (.func (.func 137) #[] #[])->Calls Tryz.prog 230 #[.slice A n c,.pointer (some ⟨cb,0,none⟩)] W (HistR W x y):=fun W cb hn hc=>get_h1 (h.new hn) hb hy hc
 have H2:=zqH h230;have N1:=zqH n1;have B1:=zqH b1;have S1:=zqH s1
 clear h230 n1 b1 s1 h hb hy
 go_enter Tryz.func112,Tryz.ntmps112
 go_upto_region 1 with fail
 rw[<-hW1]
 clear hW1
 go_wp2_with (first
  | (go_at_call 172
     refine(getter_h _).mono ?_
     rintro e W2 ⟨rfl,hW2⟩
     have n2:New W1 W2:=by rw[hW2];exact Upd.alloc _ _ _
     have hcb:W2.cell? ⟨W1.heap.size,0,none⟩=some (.func (.func 137) #[] #[]):=by rw[hW2];exact zaa (Ex.alloc_new W1 _) 0 _ rfl
     have HCB:=zqH hcb;have N2:=zqH n2
     clear hW2 hcb n2)
  | (go_at_call 230
     refine(H2.out W2 _ (N1.out.trans N2.out) HCB.out).mono ?_
     rintro e W3 ⟨R,m,d,rfl,hr3,hn3⟩
     have hb3:W3.heap[w.heap.size]?=_:=((N2.out.trans hn3).block _ (by have:=S1.out;omega) id).trans B1.out
     have hb4:=zab hb3 (.slice R m d) (i:=0)
     have hb5:=zab hb4 (.int .u64 (y:Int)) (i:=1)
     have c0:=zaa hb3 0 _ rfl
     have z0:=zac hb3 0
     have c1:(W3.setCell ⟨w.heap.size,0,none⟩ (.slice R m d)).cell? ⟨w.heap.size,1,none⟩=some (.int .u64 0):=zaa hb4 1 _ rfl
     have z1:(W3.setCell ⟨w.heap.size,0,none⟩ (.slice R m d)).frozen? ⟨w.heap.size,1,none⟩=false:=zac hb4 1
     have q0:((W3.setCell ⟨w.heap.size,0,none⟩ (.slice R m d)).setCell ⟨w.heap.size,1,none⟩ (.int .u64 (y:Int))).cell? ⟨w.heap.size,0,none⟩=some (.slice R m d):=zaa hb5 0 _ rfl
     have q1:((W3.setCell ⟨w.heap.size,0,none⟩ (.slice R m d)).setCell ⟨w.heap.size,1,none⟩ (.int .u64 (y:Int))).cell? ⟨w.heap.size,1,none⟩=some (.int .u64 (y:Int)):=zaa hb5 1 _ rfl
     have HR3:=zqH (And.intro hr3 hn3);have QQ:=zqH (And.intro q0 q1)
     clear hr3 hn3 hb3 hb4 hb5 q0 q1))
 obtain⟨q0,q1⟩:=QQ.out
 obtain⟨hr3,hn3⟩:=HR3.out
 refine bodyPost_ret (by simp[results,Tryz.results112,go_sem,q0,q1];try rfl) rfl ?_
 have hset:Upd (fun b=>b=w.heap.size) W3 ((W3.setCell ⟨w.heap.size,0,none⟩ (.slice R m d)).setCell ⟨w.heap.size,1,none⟩ (.int .u64 (y:Int))):=(Upd.setCell (S:=fun b=>b=w.heap.size) W3 _ rfl).trans (Upd.setCell _ _ rfl)
 have hnw:New w W3:=(N1.out.trans N2.out).trans hn3
 have hs1:=S1.out
 have hs2:=N2.out.size
 refine⟨R,m,d,rfl,?_,hnw.then hset (fun b hb e=>by have e:b=w.heap.size:=e;omega)⟩
 exact(hr3.upd hset (fun b hb e=>by have e:b=w.heap.size:=e;have hb:W2.heap.size<=b:=hb;omega)).mono (fun b _ hb=>by have hb:W2.heap.size<=b:=hb;show w.heap.size<=b;omega)
def Rz (br:Nat) (w:World) (e:Nat):Prop:=∃A c,Rd br w A 0 c [] e
theorem Rz.upd {br e:Nat} {w w':World} {S:Nat->Prop} (h:Rz br w e) (hu:Upd S w w') (h1:¬S br):Rz br w' e:=by
 obtain⟨A,c,h⟩:=h
 exact⟨A,c,h.upd hu h1 (fun _ _ h=>by omega)⟩
theorem Rz.lt {br e:Nat} {w:World} (h:Rz br w e):br<w.heap.size:=by obtain⟨A,c,h⟩:=h;exact h.lt
abbrev Ez (e:Nat):Prop:=e=0\/e=40
theorem zpeek {br e0:Nat} {w:World} (h:Rz br w e0) (he:Ez e0):Calls Tryz.prog 290 #[.pointer (some ⟨br,0,none⟩),.int .i64 1] w fun e w'=>e=.returned (.tuple #[.int .u64 0,.bool false])/\Rz br w' 40/\Upd (fun b=>b=br) w w':=by
 obtain⟨A,c,h⟩:=h
 refine(rpeek h 1 (by omega) (by omega) (by omega)).mono ?_
 rintro e w' ⟨_,h2,h3⟩
 obtain⟨h4,h5⟩:=h2 (by omega)
 refine⟨h4,⟨A,c,?_⟩,h3⟩
 rcases he with rfl|rfl<;>exact h5
theorem zNat {br e0:Nat} {w:World} (h:Rz br w e0) (he:Ez e0):Calls Tryz.prog 269 #[.pointer (some ⟨br,0,none⟩)] w fun e w'=>e=.returned (.slice none 0 0)/\Rz br w' 40/\Upd (fun b=>b=br) w w':=by
 have H:=zqH (zpeek h he)
 clear h he
 go_enter Tryz.func269,Tryz.ntmps269
 go_wp2_with (go_at_call 290;refine H.out.mono ?_;rintro e w' ⟨rfl,h1,h2⟩;have H1:=zqH (And.intro h1 h2);clear h1 h2)
 go_ret
 exact⟨rfl,H1.out⟩
theorem zDec {br e0:Nat} {w:World} (h:Rz br w e0) (he:Ez e0):Calls Tryz.prog 242 #[.pointer (some ⟨br,0,none⟩)] w fun e w'=>e=.returned (.agg #[.slice none 0 0])/\Rz br w' 40/\Upd (fun b=>b=br) w w':=by
 obtain⟨W,hW⟩:∃W,W=w.alloc (.cells #[.slice none 0 0] 26):=⟨_,rfl⟩
 have hnw:New w W:=by rw[hW];exact Upd.alloc _ _ _
 have hbt:=Ex.alloc_new w (.cells #[.slice none 0 0] 26)
 rw[<-hW]at hbt
 have hbl:=h.lt
 have hWs:W.heap.size=w.heap.size+1:=by rw[hW];exact zad _ _
 have H1:=zqH (zNat (h.upd hnw id) he);have HN:=zqH hnw;have HB:=zqH hbt
 clear hnw hbt h he
 go_enter Tryz.func242,Tryz.ntmps242
 go_wp2_with (rw[<-hW];go_at_call 269;refine H1.out.mono ?_;rintro e w2 ⟨rfl,hR2,hu2⟩;have hb2:=(hu2.block w.heap.size (zqA.1 HB.out).1 (by omega)).trans HB.out;have q1:=zaa hb2 0 _ rfl;have q2:=zac hb2 0;have H2:=zqH (And.intro hR2 hu2);have HB2:=zqH hb2;clear hR2 hu2 hb2 H1)
 have q0:(w2.setCell ⟨w.heap.size,0,none⟩ (.slice none 0 0)).cell? ⟨w.heap.size,0,none⟩=some (.slice none 0 0):=zaa (zab HB2.out (.slice none 0 0) (i:=0)) 0 _ rfl
 refine bodyPost_ret (by simp[results,Tryz.results242,go_sem,q0];try rfl) rfl ?_
 obtain⟨hR2,hu2⟩:=H2.out
 have hset:Upd (fun b=>b=w.heap.size) w2 (w2.setCell ⟨w.heap.size,0,none⟩ (.slice none 0 0)):=Upd.setCell w2 _ rfl
 exact⟨rfl,hR2.upd hset (by omega),((HN.out.mono (fun _ _ h=>h.elim)).trans hu2).then hset (fun b hb e=>by omega)⟩
theorem zU64 {br e0:Nat} {w:World} (h:Rz br w e0) (he:Ez e0):Calls Tryz.prog 244 #[.pointer (some ⟨br,0,none⟩)] w fun e w'=>e=.returned (.int .u64 0)/\Rz br w' 40/\Upd (fun b=>b=br) w w':=by
 obtain⟨A,c,h⟩:=h
 refine(rU64 h (by omega)).mono ?_
 rintro e w' ⟨rfl,A',n',c',h1,h2,h3⟩
 have h4:rOk 8 [] e0=false:=by simp[rOk]
 unfold rb re at h1
 rw[h4]at h1
 simp only[Bool.false_eq_true,if_false]at h1
 have hn:n'=0:=by have:=h1.by_.len;simpa using this.symm
 subst hn
 refine⟨by unfold rv;rw[h4];rfl,⟨A',c',?_⟩,h2⟩
 rcases he with rfl|rfl<;>exact h1
def FieldZ (br bx ox:Nat) (cs:Array Value) (t:TypeId) (v:Value) (w:World) (e:Ending) (w':World):Prop:=
 e=.returned (.tuple #[])/\w'.heap[bx]?=some (.cells (cs.setIfInBounds ox v) t (0,0))/\Rz br w' 40/\Upd (fun b=>b=br\/b=bx) w w'
theorem zdecs {br bx ox lb e0:Nat} {cs:Array Value} {t:TypeId} {w:World} (hR:Rz br w e0) (he:Ez e0)
 (hl:w.cell? ⟨lb,0,none⟩=some (.pointer (some ⟨bx,ox,none⟩))) (hx:w.heap[bx]?=some (.cells cs t (0,0))) (hox:ox<cs.size) (hbx:bx≠br):
 Calls Tryz.prog 204 #[.agg #[.pointer none,.pointer (some ⟨br,0,none⟩)],.slice (some ⟨lb,0,none⟩) 1 1] w (FieldZ br bx ox cs t (.slice none 0 0) w):=by
 obtain⟨W,hW⟩:∃W,W=w.alloc (.cells #[.pointer none,.pointer (some ⟨br,0,none⟩)] 288):=⟨_,rfl⟩
 have hnw:New w W:=by rw[hW];exact Upd.alloc _ _ _
 have hbt:=Ex.alloc_new w (.cells #[.pointer none,.pointer (some ⟨br,0,none⟩)] 288)
 rw[<-hW]at hbt
 have hl1:=(hnw.cell (a:=⟨lb,0,none⟩) (zqB w _ hl) id).trans hl
 have ht0:W.cell? ⟨w.heap.size,0,none⟩=some (.pointer none):=zaa hbt 0 _ rfl
 have ht1:W.cell? ⟨w.heap.size,1,none⟩=some (.pointer (some ⟨br,0,none⟩)):=zaa hbt 1 _ rfl
 have hbxl:=(zqA.1 hx).1
 have H1:=zqH (zDec (hR.upd hnw id) he);have HN:=zqH hnw;have HX:=zqH ((hnw.block _ hbxl id).trans hx);have HC:=zqH (And.intro hl1 (And.intro ht0 ht1))
 clear hnw hR hl hx hbt hl1 ht0 ht1 he
 go_enter Tryz.func204,Tryz.ntmps204
 go_wp2
 rw[<-hW]
 clear hW
 go_loopw [8] (fun i wr=>(i=.int .i64 0/\wr=W)\/(i=.int .i64 1/\Hid (FieldZ br bx ox cs t (.slice none 0 0) w (.returned (.tuple #[])) wr))) (fun i _=>1-(intOf i).toNat)
 case atStart=>exact .inl ⟨rfl,rfl⟩
 case round=>
  rcases hrel with⟨rfl,rfl⟩|⟨rfl,hw⟩
  · obtain⟨hl1,ht0,ht1⟩:=HC.out
    go_wp2_with (go_at_call 242
                 refine H1.out.mono ?_
                 rintro e w2 ⟨rfl,hR2,hu2⟩
                 have hx2:=(hu2.block bx (zqL hbxl HN.out.size) hbx).trans HX.out
                 have q1:=zaa hx2 ox _ (Array.getElem?_eq_getElem hox)
                 have q2:=zac hx2 ox
                 have H2:=zqH (And.intro hR2 hu2);have HX2:=zqH hx2
                 clear hR2 hu2 hx2)
    have hset:Upd (fun b=>b=bx) w2 (w2.setCell ⟨bx,ox,none⟩ (.slice none 0 0)):=Upd.setCell w2 _ rfl
    exact⟨.inr ⟨rfl,zqH ⟨rfl,zab HX2.out _,H2.out.1.upd hset (fun e=>hbx e.symm),((HN.out.mono (fun _ _ h=>h.elim)).trans (H2.out.2.mono (fun b _ h=>.inl h))).trans (hset.mono (fun b _ h=>.inr h))⟩⟩,by simp[intOf]⟩
  · go_wp2
    go_end0
    exact hw.out
theorem znum1 {br bx ox lb e0:Nat} {cs:Array Value} {t:TypeId} {w:World} (hR:Rz br w e0) (he:Ez e0)
 (hl:w.cell? ⟨lb,0,none⟩=some (.pointer (some ⟨bx,ox,none⟩))) (hx:w.heap[bx]?=some (.cells cs t (0,0))) (hox:ox<cs.size) (hbx:bx≠br):
 Calls Tryz.prog 205 #[.agg #[.pointer none,.pointer (some ⟨br,0,none⟩)],.slice (some ⟨lb,0,none⟩) 1 1] w (FieldZ br bx ox cs t (.int .u64 0) w):=by
 obtain⟨W,hW⟩:∃W,W=w.alloc (.cells #[.pointer none,.pointer (some ⟨br,0,none⟩)] 288):=⟨_,rfl⟩
 have hnw:New w W:=by rw[hW];exact Upd.alloc _ _ _
 have hbt:=Ex.alloc_new w (.cells #[.pointer none,.pointer (some ⟨br,0,none⟩)] 288)
 rw[<-hW]at hbt
 have hl1:=(hnw.cell (a:=⟨lb,0,none⟩) (zqB w _ hl) id).trans hl
 have ht0:W.cell? ⟨w.heap.size,0,none⟩=some (.pointer none):=zaa hbt 0 _ rfl
 have ht1:W.cell? ⟨w.heap.size,1,none⟩=some (.pointer (some ⟨br,0,none⟩)):=zaa hbt 1 _ rfl
 have hbxl:=(zqA.1 hx).1
 have H1:=zqH (zU64 (hR.upd hnw id) he);have HN:=zqH hnw;have HX:=zqH ((hnw.block _ hbxl id).trans hx);have HC:=zqH (And.intro hl1 (And.intro ht0 ht1))
 clear hnw hR hl hx hbt hl1 ht0 ht1 he
 go_enter Tryz.func205,Tryz.ntmps205
 go_wp2
 rw[<-hW]
 clear hW
 go_loopw [8] (fun i wr=>(i=.int .i64 0/\wr=W)\/(i=.int .i64 1/\Hid (FieldZ br bx ox cs t (.int .u64 0) w (.returned (.tuple #[])) wr))) (fun i _=>1-(intOf i).toNat)
 case atStart=>exact .inl ⟨rfl,rfl⟩
 case round=>
  rcases hrel with⟨rfl,rfl⟩|⟨rfl,hw⟩
  · obtain⟨hl1,ht0,ht1⟩:=HC.out
    go_wp2_with (go_at_call 244
                 refine H1.out.mono ?_
                 rintro e w2 ⟨rfl,hR2,hu2⟩
                 have hx2:=(hu2.block bx (zqL hbxl HN.out.size) hbx).trans HX.out
                 have q1:=zaa hx2 ox _ (Array.getElem?_eq_getElem hox)
                 have q2:=zac hx2 ox
                 have H2:=zqH (And.intro hR2 hu2);have HX2:=zqH hx2
                 clear hR2 hu2 hx2)
    have hset:Upd (fun b=>b=bx) w2 (w2.setCell ⟨bx,ox,none⟩ (.int .u64 0)):=Upd.setCell w2 _ rfl
    exact⟨.inr ⟨rfl,zqH ⟨rfl,zab HX2.out _,H2.out.1.upd hset (fun e=>hbx e.symm),((HN.out.mono (fun _ _ h=>h.elim)).trans (H2.out.2.mono (fun b _ h=>.inl h))).trans (hset.mono (fun b _ h=>.inr h))⟩⟩,by simp[intOf]⟩
  · go_wp2
    go_end0
    exact hw.out
theorem zEnd {br e0:Nat} {w:World} (h:Rz br w e0):Calls Tryz.prog 232 #[.pointer (some ⟨br,0,none⟩)] w fun e w'=>e=.returned (.int .i64 (e0:Int))/\w'=w:=by
 obtain⟨A,c,h⟩:=h
 have h0:=h.cell0
 have h1:=h.cell1
 clear h
 go_enter Tryz.func232,Tryz.ntmps232
 go_wp2
 go_ret
 exact⟨rfl,rfl⟩
theorem zhist {br bx:Nat} {t:TypeId} {w:World} (hR:Rz br w 0) (hx:w.heap[bx]?=some (.cells #[.slice none 0 0,.int .u64 0] t (0,0))) (hbx:bx≠br):
 Calls Tryz.prog 137 #[.agg #[.pointer none,.pointer (some ⟨br,0,none⟩)],.pointer (some ⟨bx,0,none⟩)] w fun e w'=>e=.returned (.tuple #[])/\w'.heap[bx]?=some (.cells #[.slice none 0 0,.int .u64 0] t (0,0))/\Rz br w' 40/\Upd (fun b=>b=br\/b=bx) w w':=by
 obtain⟨W,hW⟩:∃W,W=w.alloc (.cells #[.pointer none,.pointer (some ⟨br,0,none⟩)] 288):=⟨_,rfl⟩
 have hnw:New w W:=by rw[hW];exact Upd.alloc _ _ _
 have hbt:=Ex.alloc_new w (.cells #[.pointer none,.pointer (some ⟨br,0,none⟩)] 288)
 rw[<-hW]at hbt
 have hbxl:=(zqA.1 hx).1
 have hbl:=hR.lt
 have ht0:W.cell? ⟨w.heap.size,0,none⟩=some (.pointer none):=zaa hbt 0 _ rfl
 have ht1:W.cell? ⟨w.heap.size,1,none⟩=some (.pointer (some ⟨br,0,none⟩)):=zaa hbt 1 _ rfl
 have hkeep:∀W5 W6 i v,W5.heap.size > w.heap.size->Upd (fun b=>b=br\/b=bx) W5 W6->W5.cell? ⟨w.heap.size,i,none⟩=some v->W6.cell? ⟨w.heap.size,i,none⟩=some v:=fun W5 W6 i v hs hu hv=>
  (hu.cell (a:=⟨w.heap.size,i,none⟩) hs (fun e=>e.elim (fun e=>by have e:w.heap.size=br:=e;omega) (fun e=>by have e:w.heap.size=bx:=e;omega))).trans hv
 have hWs:w.heap.size<W.heap.size:=by rw[hW,zad];omega
 have HR:=zqH hR;have HX:=zqH (And.intro hx hbx);have HK:=zqH hkeep;have HN:=zqH hnw;have HWS:=zqH hWs;have HBXL:=zqH hbxl
 clear hkeep hnw hWs hR hx hbx hbt hbl hbxl
 go_enter Tryz.func137,Tryz.ntmps137
 go_wp2
 rw[<-hW]
 clear hW
 go_region_held (fun w'=>w'.cell? ⟨w.heap.size,0,none⟩=some (.pointer none)/\w'.cell? ⟨w.heap.size,1,none⟩=some (.pointer (some ⟨br,0,none⟩))) (go_keep) (
  (go_at_call 204
   obtain⟨W5,hW5⟩:∃W5,W5=(W.alloc (.cells #[.pointer (some ⟨bx,0,none⟩)] 292)).drew:=⟨_,rfl⟩
   rw[<-hW5]
   have n5:New W W5:=by rw[hW5];exact(Upd.alloc _ _ _).drew
   have hl5:W5.cell? ⟨W.heap.size,0,none⟩=some (.pointer (some ⟨bx,0,none⟩)):=by rw[hW5];exact zaa (Ex.alloc_new W _) 0 _ rfl
   refine(zdecs (HR.out.upd (HN.out.trans n5) id) (.inl rfl) hl5 (((HN.out.trans n5).block _ HBXL.out id).trans HX.out.1) (by simp) HX.out.2).mono ?_
   rintro e W6 ⟨rfl,hx6,hR6,hu6⟩
   have s5:w.heap.size<W5.heap.size:=zqL HWS.out n5.size
   have t0:=HK.out W5 W6 0 _ s5 hu6 ((n5.cell (a:=⟨w.heap.size,0,none⟩) HWS.out id).trans ht0)
   have t1:=HK.out W5 W6 1 _ s5 hu6 ((n5.cell (a:=⟨w.heap.size,1,none⟩) HWS.out id).trans ht1)
   have H6:=zqH (show W6.heap[bx]?=some (.cells #[.slice none 0 0,.int .u64 0] t (0,0))/\Rz br W6 40/\Upd (fun b=>b=br\/b=bx) w W6/\w.heap.size<W6.heap.size from⟨hx6,hR6,((HN.out.trans n5).mono (fun _ _ h=>h.elim)).trans hu6,zqL s5 hu6.size⟩)
   clear n5 hl5 hW5 hx6 hR6 hu6 s5))
 all_goals go_wp2
 go_region_held (fun w'=>w'.cell? ⟨w.heap.size,0,none⟩=some (.pointer none)/\w'.cell? ⟨w.heap.size,1,none⟩=some (.pointer (some ⟨br,0,none⟩))) (go_keep) (
  (go_at_call 205
   obtain⟨W7,hW7⟩:∃W7,W7=(W6.alloc (.cells #[.pointer (some ⟨bx,1,none⟩)] 294)).drew:=⟨_,rfl⟩
   rw[<-hW7]
   have n7:New W6 W7:=by rw[hW7];exact(Upd.alloc _ _ _).drew
   have hl7:W7.cell? ⟨W6.heap.size,0,none⟩=some (.pointer (some ⟨bx,1,none⟩)):=by rw[hW7];exact zaa (Ex.alloc_new W6 _) 0 _ rfl
   refine(znum1 (H6.out.2.1.upd n7 id) (.inr rfl) hl7 ((n7.block _ (zqA.1 H6.out.1).1 id).trans H6.out.1) (by simp) HX.out.2).mono ?_
   rintro e W8 ⟨rfl,hx8,hR8,hu8⟩
   have s7:w.heap.size<W7.heap.size:=zqL H6.out.2.2.2 n7.size
   have u0:=HK.out W7 W8 0 _ s7 hu8 ((n7.cell (a:=⟨w.heap.size,0,none⟩) H6.out.2.2.2 id).trans t0)
   have u1:=HK.out W7 W8 1 _ s7 hu8 ((n7.cell (a:=⟨w.heap.size,1,none⟩) H6.out.2.2.2 id).trans t1)
   have HY:=zqH (And.intro hx8 (And.intro hR8 ((H6.out.2.2.1.trans (n7.mono (fun _ _ h=>h.elim))).trans hu8)))
   clear n7 hl7 hW7 hx8 hR8 hu8 s7))
 all_goals go_wp2
 all_goals go_end0
 exact⟨rfl,HY.out⟩
theorem zget {w:World} {cb:Nat} (hcb:w.cell? ⟨cb,0,none⟩=some (.func (.func 137) #[] #[])):
 Calls Tryz.prog 230 #[.slice none 0 0,.pointer (some ⟨cb,0,none⟩)] w fun e w'=>e=.returned (.tuple #[.agg #[.slice none 0 0,.int .u64 0],.int .i64 80])/\New w w':=by
 obtain⟨W1,hW1⟩:∃W1,W1=w.alloc (.cells #[.slice none 0 0,.int .u64 0] 120):=⟨_,rfl⟩
 obtain⟨W2,hW2⟩:∃W2,W2=W1.alloc (.cells #[.slice none 0 0,.int .u64 0] 120):=⟨_,rfl⟩
 obtain⟨W3,hW3⟩:∃W3,W3=W2.alloc (.cells #[.slice none 0 0,.int .u64 0] 120):=⟨_,rfl⟩
 obtain⟨hn,hs,b0,b1,b2⟩:=alloc3 hW1 hW2 hW3
 have hcl:=zqB w _ hcb
 have hcb3:=(hn.cell (a:=⟨cb,0,none⟩) hcl id).trans hcb
 have HNR:=zqH (newReader (By.nil W3) (by omega));have HN:=zqH hn;have HS:=zqH hs;have HB:=zqH (And.intro b0 (And.intro b1 b2))
 clear hn hs b0 b1 b2 hcb
 go_enter Tryz.func230,Tryz.ntmps230
 go_upto_region 2 with fail
 rw[<-hW1,<-hW2,<-hW3]
 clear hW1 hW2 hW3
 go_upto_region 3 with(go_at_call 231;refine HNR.out.mono ?_;rintro e w4 ⟨br,A4,c4,rfl,hR4,hn4,hbr,hA4⟩;have H4:=zqH (And.intro (show Rz br w4 0 from⟨A4,c4,hR4⟩) (And.intro hn4 hbr));clear HNR hR4 hn4 hbr hA4)
 obtain⟨hR4,hn4,hbr⟩:=H4.out
 obtain⟨W5,hW5⟩:∃W5,W5=w4.alloc (.cells #[.pointer none,.pointer (some ⟨br,0,none⟩)] 288):=⟨_,rfl⟩
 have n5:New w4 W5:=by rw[hW5];exact Upd.alloc _ _ _
 have hs3:=HS.out
 have hs4:=hn4.size
 have hs5:W5.heap.size=w4.heap.size+1:=by rw[hW5];exact zad _ _
 have hbt:=Ex.alloc_new w4 (.cells #[.pointer none,.pointer (some ⟨br,0,none⟩)] 288)
 rw[<-hW5]at hbt
 have n35:New W3 W5:=hn4.trans n5
 have k0:W5.heap[w.heap.size]?=_:=(n35.block _ (by omega) id).trans HB.out.1
 have k1:W5.heap[w.heap.size+1]?=_:=(n35.block _ (by omega) id).trans HB.out.2.1
 have k2:W5.heap[w.heap.size+1+1]?=_:=(n35.block _ (by omega) id).trans HB.out.2.2
 have hcb5:=(n35.cell (a:=⟨cb,0,none⟩) (by show cb<_;have:cb<w.heap.size:=hcl;omega) id).trans hcb3
 have q0:W5.cell? ⟨w4.heap.size,0,none⟩=some (.pointer none):=zaa hbt 0 _ rfl
 have q1:W5.cell? ⟨w4.heap.size,1,none⟩=some (.pointer (some ⟨br,0,none⟩)):=zaa hbt 1 _ rfl
 have hbrl:=hR4.lt
 have H1:=zqH (zhist (hR4.upd n5 id) k1 (by omega));have N5:=zqH (HN.out.trans n35);have K:=zqH (And.intro k0 k2);have Q1:=zqH q1
 clear n5 n35 k0 k1 k2 hbt hR4 hn4 hcb3
 rw[<-hW5]
 clear hW5
 go_upto_region 4 with(go_at_call 137;refine H1.out.mono ?_;rintro e w6 ⟨rfl,hx6,hR6,hu6⟩;have H6:=zqH (And.intro hx6 (And.intro hR6 hu6));clear H1 hx6 hR6 hu6)
 obtain⟨hx6,hR6,hu6⟩:=H6.out
 have t1:w6.cell? ⟨w4.heap.size,1,none⟩=some (.pointer (some ⟨br,0,none⟩)):=(hu6.cell (a:=⟨w4.heap.size,1,none⟩) (by show w4.heap.size<_;omega) (fun e=>e.elim (fun e=>by have e:w4.heap.size=br:=e;omega) (fun e=>by have e:w4.heap.size=w.heap.size+1:=e;omega))).trans Q1.out
 have h232:∀n,Calls Tryz.prog 232 #[.pointer (some ⟨br,0,none⟩)] (w6.drewN n) fun e w'=>e=.returned (.int .i64 40)/\w6.drewN n=w':=fun n=>by
  obtain⟨A,c,h⟩:=hR6
  exact(zEnd ⟨A,c,h.drewN n⟩).mono fun e w' h=>⟨h.1,h.2.symm⟩
 have x0:w6.heap[w.heap.size]?=some (.cells #[.slice none 0 0,.int .u64 0] 120 (0,0)):=(hu6.block _ (by omega) (fun e=>by omega)).trans K.out.1
 have x2:w6.heap[w.heap.size+1+1]?=some (.cells #[.slice none 0 0,.int .u64 0] 120 (0,0)):=(hu6.block _ (by omega) (fun e=>by omega)).trans K.out.2
 have hnw:New w w6:=(N5.out.mono (fun _ _ h=>h.elim)).then hu6 (fun b hb e=>by omega)
 have H232:=zqH h232;have HX:=zqH (And.intro x0 (And.intro x2 hnw))
 clear h232 x0 x2 hnw hx6 hR6 hu6 q0 q1
 go_quiet ((go_at_call 232;exact quiet_l (H232.out _)))
 obtain⟨x0,x2,hnw⟩:=HX.out
 obtain⟨W,hW⟩:∃W,W=w6.drewN nq:=⟨_,rfl⟩
 rw[<-hW]
 replace x0:W.heap[w.heap.size]?=some (.cells #[.slice none 0 0,.int .u64 0] 120 (0,0)):=by rw[hW];exact x0
 replace x2:W.heap[w.heap.size+1+1]?=some (.cells #[.slice none 0 0,.int .u64 0] 120 (0,0)):=by rw[hW];exact x2
 replace hnw:New w W:=by rw[hW];exact hnw.drewN _
 have hb1:=zab x0 (.slice none 0 0) (i:=0)
 have hb2:=zab hb1 (.int .u64 0) (i:=1)
 have c0:=zaa x0 0 _ rfl
 have z0:=zac x0 0
 have c1:(W.setCell ⟨w.heap.size,0,none⟩ (.slice none 0 0)).cell? ⟨w.heap.size,1,none⟩=some (.int .u64 0):=zaa hb1 1 _ rfl
 have z1:(W.setCell ⟨w.heap.size,0,none⟩ (.slice none 0 0)).frozen? ⟨w.heap.size,1,none⟩=false:=zac hb1 1
 have y0:=zaa x2 0 _ rfl
 have y1:=zaa x2 1 _ rfl
 have q0:((W.setCell ⟨w.heap.size,0,none⟩ (.slice none 0 0)).setCell ⟨w.heap.size,1,none⟩ (.int .u64 0)).cell? ⟨w.heap.size,0,none⟩=some (.slice none 0 0):=zaa hb2 0 _ rfl
 have q1:((W.setCell ⟨w.heap.size,0,none⟩ (.slice none 0 0)).setCell ⟨w.heap.size,1,none⟩ (.int .u64 0)).cell? ⟨w.heap.size,1,none⟩=some (.int .u64 0):=zaa hb2 1 _ rfl
 have HQ:=zqH (And.intro q0 (And.intro q1 hnw))
 clear hb1 hb2 q0 q1 x0 x2 hnw hW
 go_wp2
 obtain⟨q0,q1,hnw⟩:=HQ.out
 refine bodyPost_ret (by simp[results,Tryz.results230,go_sem,q0,q1];try rfl) rfl ?_
 have hset:Upd (fun b=>b=w.heap.size) W ((W.setCell ⟨w.heap.size,0,none⟩ (.slice none 0 0)).setCell ⟨w.heap.size,1,none⟩ (.int .u64 0)):=(Upd.setCell (S:=fun b=>b=w.heap.size) W _ rfl).trans (Upd.setCell _ _ rfl)
 exact⟨rfl,hnw.then hset (fun b hb e=>by have e:b=w.heap.size:=e;omega)⟩
theorem history_nil (w:World):Calls Tryz.prog 112 #[.slice none 0 0] w fun e w'=>e=.returned (.tuple #[.agg #[.slice none 0 0,.int .u64 0],.int .i64 80])/\New w w':=by
 obtain⟨W1,hW1⟩:∃W1,W1=w.alloc (.cells #[.slice none 0 0,.int .u64 0] 120):=⟨_,rfl⟩
 have n1:New w W1:=by rw[hW1];exact Upd.alloc _ _ _
 have b1:=Ex.alloc_new w (.cells #[.slice none 0 0,.int .u64 0] 120)
 rw[<-hW1]at b1
 have s1:W1.heap.size=w.heap.size+1:=by rw[hW1];exact zad _ _
 have N1:=zqH n1;have B1:=zqH b1;have S1:=zqH s1
 clear n1 b1 s1
 go_enter Tryz.func112,Tryz.ntmps112
 go_upto_region 1 with fail
 rw[<-hW1]
 clear hW1
 go_wp2_with (first
  | (go_at_call 172
     refine(getter_h _).mono ?_
     rintro e W2 ⟨rfl,hW2⟩
     have n2:New W1 W2:=by rw[hW2];exact Upd.alloc _ _ _
     have hcb:W2.cell? ⟨W1.heap.size,0,none⟩=some (.func (.func 137) #[] #[]):=by rw[hW2];exact zaa (Ex.alloc_new W1 _) 0 _ rfl
     have HCB:=zqH hcb;have N2:=zqH n2
     clear hW2 hcb n2)
  | (go_at_call 230
     refine(zget HCB.out).mono ?_
     rintro e W3 ⟨rfl,hn3⟩
     have hb3:W3.heap[w.heap.size]?=_:=((N2.out.trans hn3).block _ (by have:=S1.out;omega) id).trans B1.out
     have hb4:=zab hb3 (.slice none 0 0) (i:=0)
     have hb5:=zab hb4 (.int .u64 0) (i:=1)
     have c0:=zaa hb3 0 _ rfl
     have z0:=zac hb3 0
     have c1:(W3.setCell ⟨w.heap.size,0,none⟩ (.slice none 0 0)).cell? ⟨w.heap.size,1,none⟩=some (.int .u64 0):=zaa hb4 1 _ rfl
     have z1:(W3.setCell ⟨w.heap.size,0,none⟩ (.slice none 0 0)).frozen? ⟨w.heap.size,1,none⟩=false:=zac hb4 1
     have q0:((W3.setCell ⟨w.heap.size,0,none⟩ (.slice none 0 0)).setCell ⟨w.heap.size,1,none⟩ (.int .u64 0)).cell? ⟨w.heap.size,0,none⟩=some (.slice none 0 0):=zaa hb5 0 _ rfl
     have q1:((W3.setCell ⟨w.heap.size,0,none⟩ (.slice none 0 0)).setCell ⟨w.heap.size,1,none⟩ (.int .u64 0)).cell? ⟨w.heap.size,1,none⟩=some (.int .u64 0):=zaa hb5 1 _ rfl
     have HR3:=zqH hn3;have QQ:=zqH (And.intro q0 q1)
     clear hn3 hb3 hb4 hb5 q0 q1))
 obtain⟨q0,q1⟩:=QQ.out
 refine bodyPost_ret (by simp[results,Tryz.results112,go_sem,q0,q1];try rfl) rfl ?_
 have hset:Upd (fun b=>b=w.heap.size) W3 ((W3.setCell ⟨w.heap.size,0,none⟩ (.slice none 0 0)).setCell ⟨w.heap.size,1,none⟩ (.int .u64 0)):=(Upd.setCell (S:=fun b=>b=w.heap.size) W3 _ rfl).trans (Upd.setCell _ _ rfl)
 exact⟨rfl,((N1.out.trans N2.out).trans HR3.out).then hset (fun b hb e=>by have e:b=w.heap.size:=e;omega)⟩
theorem dcmp_c {Q Q':Nat->Prop} {w:World} {A A':Option Addr} {n c n' c' x y:Nat} (h:LQ Q w A n c x) (h':LQ Q' w A' n' c' y):Calls Tryz.prog 37 #[.agg #[.slice A n c],.agg #[.slice A' n' c']] w fun e w'=>e=.returned (.int .i64 (cmpI x y))/\New w w':=by
 obtain⟨W1,hW1⟩:∃W1,W1=w.alloc (.cells #[.slice A n c] 26):=⟨_,rfl⟩
 obtain⟨W,hW⟩:∃W,W=W1.alloc (.cells #[.slice A' n' c'] 26):=⟨_,rfl⟩
 have s1:W1.heap.size=w.heap.size+1:=by rw[hW1];exact zad _ _
 have n1:New w W1:=by rw[hW1];exact Upd.alloc _ _ _
 have n2:New W1 W:=by rw[hW];exact Upd.alloc _ _ _
 have hnw:New w W:=n1.trans n2
 have l0:W.cell? ⟨w.heap.size,0,none⟩=some (.slice A n c):=zaa ((n2.block _ (by omega) id).trans (by rw[hW1];exact Ex.alloc_new w _)) 0 _ rfl
 have l1:W.cell? ⟨w.heap.size+1,0,none⟩=some (.slice A' n' c'):=zaa (by rw[hW,<-s1];exact Ex.alloc_new W1 _) 0 _ rfl
 have H1:=zqH (ncmp (h.new hnw) (h'.new hnw));have HN:=zqH hnw
 obtain⟨z,hz⟩:∃z,z=cmpI (x:Int) (y:Int):=⟨_,rfl⟩
 rw[<-hz]at H1 ⊢
 clear hz n1 n2 hnw h h' s1
 go_enter Tryz.func37,Tryz.ntmps37
 go_upto_region 1 with fail
 rw[<-hW1,<-hW]
 clear hW1 hW
 go_wp2_with (go_at_call 31;refine H1.out.mono ?_;rintro e w2 ⟨rfl,q,hq⟩;have HQ:=zqH hq;clear hq)
 go_ret
 exact⟨rfl,by rw[HQ.out];exact HN.out.drewN q⟩
theorem times_c {Q:Nat->Prop} {w:World} {A:Option Addr} {n c x t:Nat} (h:LQ Q w A n c x) (ht:t<18446744073709551616) (hb:x*t<Gn.B ^ 1000):
 Calls Tryz.prog 40 #[.agg #[.slice A n c],.int .u64 (t:Int)] w (DecR w (x*t)):=by
 obtain⟨W1,hW1⟩:∃W1,W1=w.alloc (.cells #[.slice A n c] 26):=⟨_,rfl⟩
 obtain⟨W,hW⟩:∃W,W=W1.alloc (.cells #[.slice none 0 0] 26):=⟨_,rfl⟩
 have s1:W1.heap.size=w.heap.size+1:=by rw[hW1];exact zad _ _
 have s2:W.heap.size=w.heap.size+1+1:=by rw[hW,zad,s1]
 have n1:New w W1:=by rw[hW1];exact Upd.alloc _ _ _
 have n2:New W1 W:=by rw[hW];exact Upd.alloc _ _ _
 have hnw:New w W:=n1.trans n2
 have b1:W.heap[w.heap.size]?=some (.cells #[.slice A n c] 26 (0,0)):=(n2.block _ (by omega) id).trans (by rw[hW1];exact Ex.alloc_new w _)
 have hbt:W.heap[w.heap.size+1]?=some (.cells #[.slice none 0 0] 26 (0,0)):=by rw[hW,<-s1];exact Ex.alloc_new W1 _
 have l0:W.cell? ⟨w.heap.size,0,none⟩=some (.slice A n c):=zaa b1 0 _ rfl
 have hkeep:∀W',New W W'->W'.cell? ⟨w.heap.size,0,none⟩=some (.slice A n c):=fun W' hn=>(hn.cell (a:=⟨w.heap.size,0,none⟩) (by show w.heap.size<_;omega) id).trans l0
 have h29:∀W' A1 k1 e1,New W W'->LQ (NB W) W' A1 k1 e1 t->Calls Tryz.prog 29 #[.slice A n c,.slice A1 k1 e1] W' (NumR W' (x*t)):=fun W' A1 k1 e1 hn g1=>nmul (h.new (hnw.trans hn)) g1 hb
 obtain⟨X,hX⟩:∃X,X=x*t:=⟨_,rfl⟩
 rw[<-hX]at h29 ⊢
 have H3:=zqH h29;have HK:=zqH hkeep;have HB:=zqH hbt;have HN:=zqH hnw;have S2:=zqH s2;have HT:=zqH ht
 clear h29 hkeep hbt hnw s1 s2 n1 n2 b1 hX h hb ht
 go_enter Tryz.func40,Tryz.ntmps40
 go_upto_region 1 with fail
 rw[<-hW1,<-hW]
 clear hW1 hW
 go_region_held (fun w'=>w'.cell? ⟨w.heap.size,0,none⟩=some (.slice A n c)) (go_keep) (first
  | (go_at_call 30
     refine(nof t HT.out _).mono ?_
     rintro e w2 ⟨A1,k1,e1,rfl,hr1,hn2⟩
     have n2:New W w2:=(Upd.refl _ W).drew.trans hn2
     have d2:=HK.out _ n2
     have E2:=zqH (And.intro hr1 n2)
     clear hr1 hn2 n2)
  | (go_at_call 29
     refine(H3.out w2 A1 k1 e1 E2.out.2 E2.out.1.lq).mono ?_
     rintro e w4 ⟨R,m,d,rfl,hr4,hn4⟩
     have n4:New W w4:=E2.out.2.trans hn4
     have d4:=HK.out _ n4
     obtain⟨c0,z0,q0,hl,hnw⟩:=zbc (b:=w.heap.size+1) (HN.out.trans n4) ((n4.block _ (by have:=S2.out;omega) id).trans HB.out) (by omega) (hr4.mono (fun b _ hb=>by have hb:w2.heap.size<=b:=hb;have:=S2.out;have:=E2.out.2.size;show w.heap.size+1<b;omega))
     have QQ:=zqH (And.intro q0 (And.intro hl hnw))
     clear hr4 hn4 n4 q0 hl hnw))
 clear c0 z0
 go_wp2
 obtain⟨q0,hl,hnw⟩:=QQ.out
 refine bodyPost_ret (by simp[results,Tryz.results40,go_sem,q0];try rfl) rfl ?_
 exact⟨R,m,d,rfl,hl,hnw⟩
theorem trunc_c {Q:Nat->Prop} {w:World} {A:Option Addr} {n c x:Nat} (h:LQ Q w A n c x):
 Calls Tryz.prog 86 #[.agg #[.slice A n c]] w fun e w'=>∃R m d R' m' d',e=.returned (.tuple #[.slice R m d,.agg #[.slice R' m' d']])/\LN (NB w) w' R m d (x / 10 ^ 36)/\LN (NB w) w' R' m' d' (x % 10 ^ 36)/\New w w':=by
 obtain⟨W1,hW1⟩:∃W1,W1=w.alloc (.cells #[.slice A n c] 26):=⟨_,rfl⟩
 obtain⟨W,hW⟩:∃W,W=W1.alloc (.cells #[.slice none 0 0] 26):=⟨_,rfl⟩
 have s1:W1.heap.size=w.heap.size+1:=by rw[hW1];exact zad _ _
 have s2:W.heap.size=w.heap.size+1+1:=by rw[hW,zad,s1]
 have n1:New w W1:=by rw[hW1];exact Upd.alloc _ _ _
 have n2:New W1 W:=by rw[hW];exact Upd.alloc _ _ _
 have hnw:New w W:=n1.trans n2
 have b1:W.heap[w.heap.size]?=some (.cells #[.slice A n c] 26 (0,0)):=(n2.block _ (by omega) id).trans (by rw[hW1];exact Ex.alloc_new w _)
 have hbt:W.heap[w.heap.size+1]?=some (.cells #[.slice none 0 0] 26 (0,0)):=by rw[hW,<-s1];exact Ex.alloc_new W1 _
 have l0:W.cell? ⟨w.heap.size,0,none⟩=some (.slice A n c):=zaa b1 0 _ rfl
 have hkeep:∀W',New W W'->W'.cell? ⟨w.heap.size,0,none⟩=some (.slice A n c):=fun W' hn=>(hn.cell (a:=⟨w.heap.size,0,none⟩) (by show w.heap.size<_;omega) id).trans l0
 obtain⟨U,hU⟩:∃U,U=10 ^ 36:=⟨_,rfl⟩
 have hunit:=fun W'=>unit_ln W'
 rw[<-hU]at hunit ⊢
 have hU0:0<U:=by rw[hU];decide
 have h140:∀W' A1 k1 e1,New W W'->LQ (NB W) W' A1 k1 e1 U->Calls Tryz.prog 140 #[.slice A n c,.slice A1 k1 e1] W' (DivN W' x U):=fun W' A1 k1 e1 hn g1=>ndivmod (h.new (hnw.trans hn)) g1 hU0
 have H3:=zqH h140;have HK:=zqH hkeep;have HB:=zqH hbt;have HN:=zqH hnw;have S2:=zqH s2;have HUN:=zqH hunit
 obtain⟨X,hX⟩:∃X,X=x / U:=⟨_,rfl⟩
 obtain⟨Y,hY⟩:∃Y,Y=x % U:=⟨_,rfl⟩
 unfold DivN at H3
 rw[<-hX,<-hY]at H3 ⊢
 clear h140 hkeep hbt hnw s1 s2 n1 n2 b1 h hU hU0 hunit hX hY
 go_enter Tryz.func86,Tryz.ntmps86
 go_upto_region 1 with fail
 rw[<-hW1,<-hW]
 clear hW1 hW
 go_region_held (fun w'=>w'.cell? ⟨w.heap.size,0,none⟩=some (.slice A n c)) (go_keep) (first
  | (go_at_call 113
     refine(HUN.out _).mono ?_
     rintro e w2 ⟨rfl,hr1,hn2⟩
     have n2:New W w2:=(Upd.refl _ W).drew.trans hn2
     have d2:=HK.out _ n2
     have E2:=zqH (And.intro hr1 n2)
     clear hr1 hn2 n2)
  | (go_at_call 140
     refine(H3.out w2 _ 2 2 E2.out.2 E2.out.1.lq).mono ?_
     rintro e w4 ⟨R,m,d,R',m',d',rfl,hr4,hr4',hn4⟩
     have n4:New W w4:=E2.out.2.trans hn4
     have d4:=HK.out _ n4
     have HH:=zqH (And.intro (hr4.mono (Q':=fun b=>w.heap.size+1<b) (fun b _ hb=>by have hb:w2.heap.size<=b:=hb;have:=S2.out;have:=E2.out.2.size;show w.heap.size+1<b;omega)) n4)
     obtain⟨c0,z0,q0,hl,hnw⟩:=zbc (b:=w.heap.size+1) (HN.out.trans n4) ((n4.block _ (by have:=S2.out;omega) id).trans HB.out) (by omega) (hr4'.mono (fun b _ hb=>by have hb:w2.heap.size<=b:=hb;have:=S2.out;have:=E2.out.2.size;show w.heap.size+1<b;omega))
     have QQ:=zqH (And.intro q0 (And.intro hl hnw))
     clear hr4 hr4' hn4 n4 q0 hl hnw))
 go_wp2
 obtain⟨q0,hl,hnw⟩:=QQ.out
 refine bodyPost_ret (by simp[results,Tryz.results86,go_sem,q0];try rfl) rfl ?_
 refine⟨R,m,d,R',m',d',rfl,?_,hl,hnw⟩
 exact(HH.out.1.upd (Upd.setCell (S:=fun c=>c=w.heap.size+1) w4 _ rfl) (fun b hb e=>by have hb:w.heap.size+1<b:=hb;have e:b=w.heap.size+1:=e;omega)).mono (fun b _ hb=>by have hb:w.heap.size+1<b:=hb;show w.heap.size<=b;omega)
theorem minus_any {Q Q':Nat->Prop} {w:World} {A A':Option Addr} {n c n' c' x y:Nat} (h:LQ Q w A n c x) (h':LQ Q' w A' n' c' y):Calls Tryz.prog 61 #[.agg #[.slice A n c],.agg #[.slice A' n' c']] w (DecR w (x-y)):=by
 obtain⟨W,hW,hnw,hs,c1,c2,hbt⟩:=boxes2 w (.slice A n c) (.slice A' n' c')
 obtain⟨k,h1⟩:=dsub_any (h.new hnw) (h'.new hnw)
 have H1:=zqH h1;have HB:=zqH hbt;have HN:=zqH hnw;have HS:=zqH hs
 clear h1 hbt hnw hs h h'
 go_enter Tryz.func61,Tryz.ntmps61
 go_upto_region 1 with fail
 rw[<-hW]
 clear hW
 go_upto_region 2 with(go_at_call 88;refine H1.out.mono ?_;rintro e w2 ⟨R,m,d,rfl,hr2,hn2⟩;have H2:=zqH (And.intro hr2 hn2);clear H1 hr2 hn2)
 obtain⟨hr2,hn2⟩:=H2.out
 obtain⟨w3,hw3⟩:∃w3,w3=w2.alloc (.cells #[.slice R m d] 26):=⟨_,rfl⟩
 rw[<-hw3]
 have n3:New w2 w3:=by rw[hw3];exact Upd.alloc _ _ _
 have l3:w3.cell? ⟨w2.heap.size,0,none⟩=some (.slice R m d):=zaa (by rw[hw3];exact Ex.alloc_new w2 _) 0 _ rfl
 obtain⟨c0,z0,q0,hl,hnw⟩:=zbc (b:=w.heap.size+1+1) (HN.out.trans (hn2.trans n3)) (((hn2.trans n3).block _ (by have:=HS.out;omega) id).trans HB.out) (by omega) ((hr2.new n3).mono (fun b _ hb=>by have hb:W.heap.size<=b:=hb;have:=HS.out;show w.heap.size+1+1<b;omega))
 have QQ:=zqH (And.intro q0 (And.intro hl hnw))
 clear q0 hl hnw hr2 hn2 n3 hw3
 go_wp2
 obtain⟨q0,hl,hnw⟩:=QQ.out
 refine bodyPost_ret (by simp[results,Tryz.results61,go_sem,q0];try rfl) rfl ?_
 exact⟨R,m,d,rfl,hl,hnw⟩
theorem letW {S:Nat->Prop} {w W:World} {b:Nat} {o:Obj} (h1:W.heap[b]?=some o) (h2:Upd S w W):∃W',W=W'/\W'.heap[b]?=some o/\Upd S w W':=⟨W,rfl,h1,h2⟩
theorem wnum2 {base bw lb bx:Nat} {tx:TypeId} {w:World} {A:Option Addr} {n c y z:Nat} {bs:List Nat} (h:Wr base bw w A n c bs) (hy:y<18446744073709551616) (hz:z<18446744073709551616) (hn:n+1000<=1073741824) (hbase:base<=w.heap.size)
 (hl:w.heap[lb]?=some (.cells #[.pointer (some ⟨bx,0,none⟩),.pointer (some ⟨bx,1,none⟩)] 294 (0,0))) (hc:w.heap[bx]?=some (.cells #[.int .u64 (y:Int),.int .u64 (z:Int)] tx (0,0))) (hlb:lb≠bw/\(Value.slice A n c).ownBlock≠some lb) (hbx:bx≠bw/\(Value.slice A n c).ownBlock≠some bx):
 Calls Tryz.prog 205 #[.agg #[.pointer (some ⟨bw,0,none⟩),.pointer none],.slice (some ⟨lb,0,none⟩) 2 2] w (Wrote base bw w A n c bs (8+8) (be 8 y ++ be 8 z)):=by
 obtain⟨W,hW⟩:∃W,W=w.alloc (.cells #[.pointer (some ⟨bw,0,none⟩),.pointer none] 288):=⟨_,rfl⟩
 have hnw:New w W:=by rw[hW];exact Upd.alloc _ _ _
 have hbt:=Ex.alloc_new w (.cells #[.pointer (some ⟨bw,0,none⟩),.pointer none] 288)
 rw[<-hW]at hbt
 have hll:=(zqA.1 hl).1
 have hcl:=(zqA.1 hc).1
 have hl1:=(hnw.block _ hll id).trans hl
 have hc1:=(hnw.block _ hcl id).trans hc
 have hbl:=h.lt
 have hol:=fun b hb=>h.own_lt (b:=b) hb
 have hws:W.heap.size=w.heap.size+1:=by rw[hW];exact zad _ _
 have hkeep:∀w6,Upd (fun b=>b=bw\/(Value.slice A n c).ownBlock=some b) W w6->w6.heap[lb]?=some (.cells #[.pointer (some ⟨bx,0,none⟩),.pointer (some ⟨bx,1,none⟩)] 294 (0,0))/\w6.heap[bx]?=some (.cells #[.int .u64 (y:Int),.int .u64 (z:Int)] tx (0,0))/\w6.heap[w.heap.size]?=some (.cells #[.pointer (some ⟨bw,0,none⟩),.pointer none] 288 (0,0)):=fun w6 hu=>
  ⟨(hu.block _ (by omega) (fun e=>e.elim hlb.1 hlb.2)).trans hl1,(hu.block _ (by omega) (fun e=>e.elim hbx.1 hbx.2)).trans hc1,(hu.block _ (by omega) (fun e=>e.elim (fun e=>by omega) (fun e=>by have:=hol _ e;exact Nat.lt_irrefl _ this))).trans hbt⟩
 have h1:∀W',New W W'->Calls Tryz.prog 243 #[.pointer (some ⟨bw,0,none⟩),.int .u64 (y:Int)] W' _:=fun W' hn'=>wU64 (h.new (hnw.trans hn')) y hy (by omega) (Nat.le_trans hbase (hnw.trans hn').size)
 have h2:∀w6 A6 c6,Wr base bw w6 A6 (n+8) c6 (bs ++ be 8 y)->base<=w6.heap.size->∀W',New w6 W'->Calls Tryz.prog 243 #[.pointer (some ⟨bw,0,none⟩),.int .u64 (z:Int)] W' _:=fun w6 A6 c6 hw hb W' hn'=>wU64 (hw.new hn') z hz (by omega) (Nat.le_trans hb hn'.size)
 have HB2:=zqH (show bx<W.heap.size/\¬(bx=bw\/(Value.slice A n c).ownBlock=some bx)/\w.heap.size<W.heap.size/\¬(w.heap.size=bw\/(Value.slice A n c).ownBlock=some w.heap.size) from⟨by omega,fun e=>e.elim hbx.1 hbx.2,by omega,fun e=>e.elim (fun e=>by omega) (fun e=>by have:=hol _ e;exact Nat.lt_irrefl _ this)⟩)
 have H1:=zqH h1;have H2:=zqH h2;have HK:=zqH hkeep;have HN:=zqH hnw;have HBA:=zqH hbase
 clear h1 h2 hkeep h hy hz hn hl hc hlb hbx hll hcl hl1 hc1 hbl hol hws hbt hbase
 go_enter Tryz.func205,Tryz.ntmps205
 go_wp2
 rw[<-hW]
 clear hW
 go_loopw [8] (fun i wr=>(i=.int .i64 0/\wr=W)\/(i=.int .i64 1/\Hid (∃A6 c6,Wr base bw wr A6 (n+8) c6 (bs ++ be 8 y)/\Upd (fun b=>b=bw\/(Value.slice A n c).ownBlock=some b) W wr/\((Value.slice A6 (n+8) c6).ownBlock=(Value.slice A n c).ownBlock\/∃g,(Value.slice A6 (n+8) c6).ownBlock=some g/\W.heap.size<=g)))\/(i=.int .i64 2/\Hid (Wrote base bw w A n c bs (8+8) (be 8 y ++ be 8 z) (.returned (.tuple #[])) wr))) (fun i _=>2-(intOf i).toNat)
 case atStart=>exact .inl ⟨rfl,rfl⟩
 case round=>
  rcases hrel with⟨rfl,rfl⟩|⟨rfl,hw⟩|⟨rfl,hw⟩
  · obtain⟨kl,kx,kt⟩:=HK.out _ (Upd.refl _ _)
    have e0:=zaa kl 0 _ rfl;have e1:=zaa kl 1 _ rfl;have x0:=zaa kx 0 _ rfl;have t0:=zaa kt 0 _ rfl;have t1:=zaa kt 1 _ rfl
    clear kl kx kt
    go_wp2
    go_region_held (fun w'=>w'.cell? ⟨w.heap.size,0,none⟩=some (.pointer (some ⟨bw,0,none⟩))/\w'.cell? ⟨bx,0,none⟩=some (.int .u64 (y:Int))) (go_keep) (
     (go_at_call 243
      refine(H1.out _ (Upd.refl _ wr).drew).mono ?_
      rintro e w6 hw
      obtain rfl:e=.returned (.tuple #[]):=hw.1
      obtain⟨_,A7,c7,hw7,hu7,hf7⟩:=hw
      have hu8:Upd (fun b=>b=bw\/(Value.slice A n c).ownBlock=some b) wr w6:=Upd.of_drew hu7
      obtain⟨kl,kx,kt⟩:=HK.out _ hu8
      have f0:=zaa kt 0 _ rfl;have f1:=zaa kx 0 _ rfl
      have HR:=zqH (And.intro hw7 (And.intro hu8 hf7))
      clear hw7 hu7 hf7 hu8 kl kx kt))
    all_goals go_wp2
    all_goals exact⟨.inr (.inl ⟨rfl,zqH ⟨A7,c7,HR.out.1,HR.out.2.1,HR.out.2.2⟩⟩),by simp[intOf]⟩
  · obtain⟨A6,c6,hw6,hu6,hf6⟩:=hw.out
    obtain⟨kl,kx,kt⟩:=HK.out _ hu6
    have e1:=zaa kl 1 _ rfl;have x1:=zaa kx 1 _ rfl;have t0:=zaa kt 0 _ rfl;have t1:=zaa kt 1 _ rfl
    have hb:=Nat.le_trans HBA.out (Nat.le_trans HN.out.size hu6.size)
    have h3:=H2.out wr A6 c6 hw6 hb
    have hfar:∀w7,Upd (fun b=>b=bw\/(Value.slice A6 (n+8) c6).ownBlock=some b) wr w7->w7.heap[bx]?=wr.heap[bx]?/\w7.heap[w.heap.size]?=wr.heap[w.heap.size]?:=fun w7 hu7=>by
     have h1:∀b,b<W.heap.size->¬(b=bw\/(Value.slice A n c).ownBlock=some b)->¬(b=bw\/(Value.slice A6 (n+8) c6).ownBlock=some b):=fun b hb hn e=>e.elim (fun e=>hn (.inl e)) (fun e=>hf6.elim (fun e2=>hn (.inr (e2▸e))) (fun⟨g,e2,hg⟩=>by rw[e2]at e;injection e with e;omega))
     exact⟨hu7.block _ (zqA.1 kx).1 (h1 _ HB2.out.1 HB2.out.2.1),hu7.block _ (zqA.1 kt).1 (h1 _ HB2.out.2.2.1 HB2.out.2.2.2)⟩
    have HF:=zqH hfar;have H3:=zqH h3;have HW6:=zqH (And.intro hu6 hf6);have HX:=zqH (And.intro kx kt)
    clear hw6 hu6 hf6 kl kx kt h3 hfar hb
    go_wp2
    go_region_held (fun w'=>w'.cell? ⟨w.heap.size,0,none⟩=some (.pointer (some ⟨bw,0,none⟩))/\w'.cell? ⟨bx,1,none⟩=some (.int .u64 (z:Int))) (go_keep) (
     (go_at_call 243
      refine(H3.out _ (Upd.refl _ wr).drew).mono ?_
      rintro e w7 hw
      obtain rfl:e=.returned (.tuple #[]):=hw.1
      obtain⟨_,A9,c9,hw9,hu9,hf9⟩:=hw
      have hu10:Upd (fun b=>b=bw\/(Value.slice A6 (n+8) c6).ownBlock=some b) wr w7:=Upd.of_drew hu9
      obtain⟨kx,kt⟩:=HF.out _ hu10
      have f0:=zaa (kt.trans HX.out.2) 0 _ rfl;have f1:=zaa (kx.trans HX.out.1) 1 _ rfl
      have HR:=zqH (Wrote.both HN.out HW6.out.1 HW6.out.2 hw9 hu10 hf9)
      clear hw9 hu9 hf9 hu10 kx kt))
    all_goals go_wp2
    all_goals exact⟨.inr (.inr ⟨rfl,HR⟩),by simp[intOf]⟩
  · go_wp2
    go_end0
    exact hw.out
theorem wcut {base bw bx:Nat} {tx:TypeId} {w:World} {A:Option Addr} {n c y z:Nat} {bs:List Nat} (h:Wr base bw w A n c bs) (hy:y<18446744073709551616) (hz:z<18446744073709551616) (hn:n+1000<=1073741824) (hbase:base<=w.heap.size)
 (hc:w.heap[bx]?=some (.cells #[.int .u64 (y:Int),.int .u64 (z:Int)] tx (0,0))) (hbx:bx≠bw/\(Value.slice A n c).ownBlock≠some bx):
 Calls Tryz.prog 146 #[.agg #[.pointer (some ⟨bw,0,none⟩),.pointer none],.pointer (some ⟨bx,0,none⟩)] w (Wrote base bw w A n c bs (8+8) (be 8 y ++ be 8 z)):=by
 obtain⟨W,hW⟩:∃W,W=w.alloc (.cells #[.pointer (some ⟨bw,0,none⟩),.pointer none] 288):=⟨_,rfl⟩
 have hnw:New w W:=by rw[hW];exact Upd.alloc _ _ _
 have hbt:=Ex.alloc_new w (.cells #[.pointer (some ⟨bw,0,none⟩),.pointer none] 288)
 rw[<-hW]at hbt
 have hbxl:=(zqA.1 hc).1
 have hbl:=h.lt
 have ht0:W.cell? ⟨w.heap.size,0,none⟩=some (.pointer (some ⟨bw,0,none⟩)):=zaa hbt 0 _ rfl
 have ht1:W.cell? ⟨w.heap.size,1,none⟩=some (.pointer none):=zaa hbt 1 _ rfl
 have h205:∀W7 lb,New w W7->w.heap.size<=lb->W7.heap[lb]?=some (.cells #[.pointer (some ⟨bx,0,none⟩),.pointer (some ⟨bx,1,none⟩)] 294 (0,0))->Calls Tryz.prog 205 #[.agg #[.pointer (some ⟨bw,0,none⟩),.pointer none],.slice (some ⟨lb,0,none⟩) 2 2] W7 (Wrote base bw W7 A n c bs (8+8) (be 8 y ++ be 8 z)):=fun W7 lb h7 hlb hl=>
  wnum2 (h.new h7) hy hz hn (Nat.le_trans hbase h7.size) hl ((h7.block _ hbxl id).trans hc) ⟨by omega,fun e=>by have:=h.own_lt e;omega⟩ hbx
 have hkeep:∀W5 W6 i v,W5.heap.size > w.heap.size->Upd (fun b=>b=bw\/(Value.slice A n c).ownBlock=some b) W5 W6->W5.cell? ⟨w.heap.size,i,none⟩=some v->W6.cell? ⟨w.heap.size,i,none⟩=some v:=fun W5 W6 i v hs hu hv=>
  (hu.cell (a:=⟨w.heap.size,i,none⟩) hs (fun e=>e.elim (fun e=>by have e:w.heap.size=bw:=e;omega) (fun e=>by have:=h.own_lt e;exact Nat.lt_irrefl _ this))).trans hv
 have hWs:w.heap.size<W.heap.size:=by rw[hW,zad];omega
 have H5:=zqH h205;have HK:=zqH hkeep;have HN:=zqH hnw;have HWS:=zqH hWs
 clear h205 hkeep hnw hWs h hy hz hn hbase hc hbx hbt hbxl hbl
 go_enter Tryz.func146,Tryz.ntmps146
 go_wp2
 rw[<-hW]
 clear hW
 go_region_held (fun w'=>w'.cell? ⟨w.heap.size,0,none⟩=some (.pointer (some ⟨bw,0,none⟩))/\w'.cell? ⟨w.heap.size,1,none⟩=some (.pointer none)) (go_keep) (
  (go_at_call 205
   obtain⟨W7,hW7⟩:∃W7,W7=(W.alloc (.cells #[.pointer (some ⟨bx,0,none⟩),.pointer (some ⟨bx,1,none⟩)] 294)).drew:=⟨_,rfl⟩
   rw[<-hW7]
   have n7:New W W7:=by rw[hW7];exact(Upd.alloc _ _ _).drew
   have hl7:W7.heap[W.heap.size]?=some (.cells #[.pointer (some ⟨bx,0,none⟩),.pointer (some ⟨bx,1,none⟩)] 294 (0,0)):=by rw[hW7];exact Ex.alloc_new W _
   refine(H5.out W7 W.heap.size (HN.out.trans n7) (Nat.le_of_lt HWS.out) hl7).mono ?_
   rintro e W8 hw
   obtain rfl:e=.returned (.tuple #[]):=hw.1
   have HY:=zqH (Wrote.from (HN.out.trans n7) hw)
   obtain⟨_,A9,c9,hw9,hu9,hf9⟩:=hw
   have s7:w.heap.size<W7.heap.size:=zqL HWS.out n7.size
   have u0:=HK.out W7 W8 0 _ s7 hu9 ((n7.cell (a:=⟨w.heap.size,0,none⟩) HWS.out id).trans ht0)
   have u1:=HK.out W7 W8 1 _ s7 hu9 ((n7.cell (a:=⟨w.heap.size,1,none⟩) HWS.out id).trans ht1)
   clear n7 hl7 hW7 hw9 hu9 hf9 s7))
 all_goals go_wp2
 all_goals go_end0
 exact HY.out
theorem put_c1 {w:World} {cb y z:Nat} (hy:y<18446744073709551616) (hz:z<18446744073709551616) (hcb:w.cell? ⟨cb,0,none⟩=some (.func (.func 146) #[] #[])):
 Calls Tryz.prog 211 #[.agg #[.int .u64 (y:Int),.int .u64 (z:Int)],.pointer (some ⟨cb,0,none⟩)] w (ByR w (F1.encC y z)):=by
 obtain⟨W1,hW1⟩:∃W1,W1=w.alloc (.cells #[.int .u64 (y:Int),.int .u64 (z:Int)] 127):=⟨_,rfl⟩
 obtain⟨W2,hW2⟩:∃W2,W2=W1.alloc (.cells #[.slice none 0 0,.int .i64 0] 285):=⟨_,rfl⟩
 obtain⟨W3,hW3⟩:∃W3,W3=W2.alloc (.cells #[.pointer (some ⟨w.heap.size+1,0,none⟩),.pointer none] 288):=⟨_,rfl⟩
 have n1:New w W1:=by rw[hW1];exact Upd.alloc _ _ _
 have n2:New W1 W2:=by rw[hW2];exact Upd.alloc _ _ _
 have n3:New W2 W3:=by rw[hW3];exact Upd.alloc _ _ _
 have s1:W1.heap.size=w.heap.size+1:=by rw[hW1];exact zad _ _
 have s2:W2.heap.size=w.heap.size+1+1:=by rw[hW2,zad,s1]
 have b1:W3.heap[w.heap.size]?=some (.cells #[.int .u64 (y:Int),.int .u64 (z:Int)] 127 (0,0)):=(n3.block _ (by omega) id).trans ((n2.block _ (by omega) id).trans (by rw[hW1];exact Ex.alloc_new w _))
 have b2:W3.heap[w.heap.size+1]?=some (.cells #[.slice none 0 0,.int .i64 0] 285 (0,0)):=(n3.block _ (by omega) id).trans (by rw[hW2,<-s1];exact Ex.alloc_new W1 _)
 have b3:W3.heap[w.heap.size+1+1]?=some (.cells #[.pointer (some ⟨w.heap.size+1,0,none⟩),.pointer none] 288 (0,0)):=by rw[hW3,<-s2];exact Ex.alloc_new W2 _
 have hn:New w W3:=n1.trans (n2.trans n3)
 have s3:W3.heap.size=w.heap.size+1+1+1:=by rw[hW3,zad,s2]
 have hcb3:=(hn.cell (a:=⟨cb,0,none⟩) (zqB w _ hcb) id).trans hcb
 have q0:W3.cell? ⟨w.heap.size+1+1,0,none⟩=some (.pointer (some ⟨w.heap.size+1,0,none⟩)):=zaa b3 0 _ rfl
 have q1:W3.cell? ⟨w.heap.size+1+1,1,none⟩=some (.pointer none):=zaa b3 1 _ rfl
 have h146:=wcut (Wr.fresh b2) hy hz (by omega) (by omega) b1 ⟨by omega,fun e=>by cases e⟩
 have H1:=zqH h146;have HN:=zqH hn;have HQ:=zqH q0;have S3:=zqH s3
 clear h146 hn b1 b2 b3 n1 n2 n3 hy hz s1 s2 s3
 go_enter Tryz.func211,Tryz.ntmps211
 go_upto_region 2 with fail
 rw[<-hW1,<-hW2,<-hW3]
 clear hW1 hW2 hW3
 go_wp2_with (first
  | (go_at_call 146;refine H1.out.mono ?_;rintro e w1 ⟨rfl,A4,c4,hw4,hu4,hf4⟩;have k0:=(hu4.cell (a:=⟨w.heap.size+1+1,0,none⟩) (by have:=S3.out;show w.heap.size+1+1<_;omega) (fun h=>h.elim (fun h=>by have h:w.heap.size+1+1=w.heap.size+1:=h;omega) (fun h=>by cases h))).trans HQ.out;have h203:=wOut hw4 (by omega);have H4:=zqH hu4;clear hw4 hu4 hf4 H1)
  | (go_at_call 203;refine h203.mono ?_;rintro e w2 ⟨A5,c5,rfl,hb5,hn5,hat5,_⟩;have H5:=zqH (And.intro hb5 (And.intro hn5 hat5));clear h203 hb5 hn5 hat5))
 go_ret
 obtain⟨hb5,hn5,hat5⟩:=H5.out
 have hn4:New w w1:=HN.out.then H4.out (fun b hb h=>h.elim (fun h=>by omega) (fun h=>by cases h))
 exact⟨A5,_,c5,rfl,by simpa[F1.encC] using hb5,hn4.trans hn5,fun a ha=>Nat.le_trans hn4.size (hat5 a ha)⟩
theorem putter_cut (w:World):Calls Tryz.prog 145 #[.func (.func 146) #[] #[]] w fun e w'=>e=.returned (.func (.func 211) #[] #[.pointer (some ⟨w.heap.size,0,none⟩)])/\w'=w.alloc (.cells #[.func (.func 146) #[] #[]] 223):=by
 go_enter Tryz.func145,Tryz.ntmps145
 go_wp2
 go_ret
 exact⟨rfl,rfl⟩
theorem putcut_c {w:World} {y z:Nat} (hy:y<18446744073709551616) (hz:z<18446744073709551616):
 Calls Tryz.prog 91 #[.agg #[.int .u64 (y:Int),.int .u64 (z:Int)]] w (ByR w (F1.encC y z)):=by
 obtain⟨W1,hW1⟩:∃W1,W1=w.alloc (.cells #[.int .u64 (y:Int),.int .u64 (z:Int)] 127):=⟨_,rfl⟩
 have n1:New w W1:=by rw[hW1];exact Upd.alloc _ _ _
 have b1:=Ex.alloc_new w (.cells #[.int .u64 (y:Int),.int .u64 (z:Int)] 127)
 rw[<-hW1]at b1
 have q0:W1.cell? ⟨w.heap.size,0,none⟩=some (.int .u64 (y:Int)):=zaa b1 0 _ rfl
 have q1:W1.cell? ⟨w.heap.size,1,none⟩=some (.int .u64 (z:Int)):=zaa b1 1 _ rfl
 have h211:∀W cb,New w W->W.cell? ⟨cb,0,none⟩=some (.func (.func 146) #[] #[])->Calls Tryz.prog 211 #[.agg #[.int .u64 (y:Int),.int .u64 (z:Int)],.pointer (some ⟨cb,0,none⟩)] W (ByR W (F1.encC y z)):=fun W cb hn hc=>put_c1 hy hz hc
 have H2:=zqH h211;have N1:=zqH n1;have BL:=zqH (zqA.1 b1).1
 clear h211 n1 b1 hy hz
 go_enter Tryz.func91,Tryz.ntmps91
 go_upto_region 1 with fail
 rw[<-hW1]
 clear hW1
 go_region_held (fun w'=>w'.cell? ⟨w.heap.size,0,none⟩=some (.int .u64 (y:Int))/\w'.cell? ⟨w.heap.size,1,none⟩=some (.int .u64 (z:Int))) (go_keep) (first
  | (go_at_call 145
     refine(putter_cut _).mono ?_
     rintro e W2 ⟨rfl,hW2⟩
     have n2:New W1 W2:=by rw[hW2];exact(Upd.refl _ W1).drew.trans (Upd.alloc _ _ _)
     have hcb:W2.cell? ⟨W1.drew.heap.size,0,none⟩=some (.func (.func 146) #[] #[]):=by rw[hW2];exact zaa (Ex.alloc_new W1.drew _) 0 _ rfl
     have p0:=(n2.cell (a:=⟨w.heap.size,0,none⟩) BL.out id).trans q0
     have p1:=(n2.cell (a:=⟨w.heap.size,1,none⟩) BL.out id).trans q1
     have HCB:=zqH hcb;have N2:=zqH n2
     clear hW2 hcb n2)
  | (go_at_call 211
     refine(H2.out W2 _ (N1.out.trans N2.out) HCB.out).mono ?_
     rintro e W3 ⟨A5,n5,c5,rfl,hb5,hn5,hat5⟩
     have r0:=(hn5.cell (a:=⟨w.heap.size,0,none⟩) (zqL BL.out N2.out.size) id).trans p0
     have r1:=(hn5.cell (a:=⟨w.heap.size,1,none⟩) (zqL BL.out N2.out.size) id).trans p1
     have H5:=zqH (And.intro hb5 (And.intro hn5 hat5))
     clear hb5 hn5 hat5))
 all_goals go_wp2
 all_goals go_ret
 all_goals
  obtain⟨hb5,hn5,hat5⟩:=H5.out
  have hn:=(N1.out.trans N2.out)
  exact⟨A5,n5,c5,rfl,hb5,hn.trans hn5,fun a ha=>Nat.le_trans hn.size (hat5 a ha)⟩
end Go.Proofs.YtbhnjkegkadodaaGreatDoor

/- Part of the proof. -/
import Derived.Test.YtbhnjkegkadodaaGreatDoorG27
set_option linter.all false
set_option maxRecDepth 100000
set_option maxHeartbeats 8000000
namespace Gz
open Go Go.RowKit Go.Proofs Gl
def CutR (w:World) (y z:Nat) (e:Ending) (w':World):Prop:=e=.returned (.tuple #[.agg #[.int .u64 (y:Int),.int .u64 (z:Int)],.int .i64 0])/\New w w'
theorem get_cut1 {w:World} {cb:Nat} {A:Option Addr} {n c y z:Nat} (h:By w A n c (F1.encC y z)) (hy:y<18446744073709551616) (hz:z<18446744073709551616) (hcb:w.cell? ⟨cb,0,none⟩=some (.func (.func 146) #[] #[])):
 Calls Tryz.prog 235 #[.slice A n c,.pointer (some ⟨cb,0,none⟩)] w (CutR w y z):=by
 obtain⟨W1,f4⟩:=zE (w.alloc (.cells #[.int .u64 0,.int .u64 0] 127));obtain⟨W2,f5⟩:=zE (W1.alloc (.cells #[.int .u64 0,.int .u64 0] 127));obtain⟨W3,f6⟩:=zE (W2.alloc (.cells #[.int .u64 0,.int .u64 0] 127));obtain⟨hn,hs,b0,b1,b2⟩:=alloc3 f4 f5 f6;have b9:=h.len;have g4:n=16:=by rw[<-b9];simp[F1.encC,zah]
 have e1:=zqB w _ hcb;have c5:=(hn.cell (a:=⟨cb,0,none⟩) e1 id).trans hcb;have g5:=newReader (h.new hn) (by omega);have g6:=zqH g5;have HN:=zqH hn;have HS:=zqH hs;have HB:=zqH (zN b0 (zN b1 b2));have H:=zqH h;have HY:=zqH hy;have HZ:=zqH hz;have g7:=zqH g4;clear g5 hn hs b0 b1 b2 h hy hz b9 hcb g4;go_enter Tryz.func235,Tryz.ntmps235
 go_upto_region 2 with fail
 rw[<-f4,<-f5,<-f6];clear f4 f5 f6
 go_upto_region 3 with(go_at_call 231;refine g6.out.mono ?_;rintro e w4 ⟨br,A4,c4,rfl,a3,a5,f7,a9⟩;have H4:=zqH (zN a3 (zN a5 (zN f7 a9)));clear g6 a3 a5 f7 a9)
 obtain⟨a3,a5,f7,a9⟩:=H4.out;obtain⟨W5,b5⟩:=zE (w4.alloc (.cells #[.pointer none,.pointer (some ⟨br,0,none⟩)] 288));have n5:New w4 W5:=by rw[b5];exact zU _ _ _
 have k5:=HS.out;have k6:=a5.size;have k7:W5.heap.size=w4.heap.size+1:=by rw[b5];exact zab _ _
 have b6:=zX w4 (.cells #[.pointer none,.pointer (some ⟨br,0,none⟩)] 288);rw[<-b5]at b6;have n35:New W3 W5:=a5.trans n5;have k0:W5.heap[w.heap.size]?=_:=(n35.block _ (by omega) id).trans HB.out.1;have k1:W5.heap[w.heap.size+1]?=_:=(n35.block _ (by omega) id).trans HB.out.2.1;have k2:W5.heap[w.heap.size+1+1]?=_:=(n35.block _ (by omega) id).trans HB.out.2.2;have g8:=(n35.cell (a:=⟨cb,0,none⟩) (by show cb<_;have:cb<w.heap.size:=e1;omega) id).trans c5;have q0:W5.cell? ⟨w4.heap.size,0,none⟩=some (.pointer none):=zaa b6 0 _ rfl;have q1:W5.cell? ⟨w4.heap.size,1,none⟩=some (.pointer (some ⟨br,0,none⟩)):=zaa b6 1 _ rfl;have j3:=a3.lt;have d0:=rcut (a3.upd n5 id (fun _ _ _=>id)) HY.out HZ.out (by have:=g7.out;omega) k1 (by omega) (fun a ha=>by have h1:=a9 a ha;have h2:=a3.by_.sl.lt ha (by have:=g7.out;omega);omega);have H1:=zqH d0;have N5:=zqH (HN.out.trans n35);have K:=zqH (zN k0 k2);have g9:=zqH g8;have Q1:=zqH q1;clear d0 n5 n35 k0 k1 k2 b6 a3 a5 a9 c5;rw[<-b5];clear b5
 go_upto_region 4 with(go_at_call 146;refine H1.out.mono ?_;rintro e w6 ⟨A6,n6,c6,rfl,a6,a4,a2⟩;have H6:=zqH (zN a6 (zN a4 a2));clear H1 a6 a4 a2)
 obtain⟨a6,a4,a2⟩:=H6.out;have j5:cb<w.heap.size:=e1;have h0:w6.cell? ⟨cb,0,none⟩=some (.func (.func 146) #[] #[]):=(a2.cell (a:=⟨cb,0,none⟩) (by show cb<_;omega) (fun e=>e.elim (fun e=>by have e:cb=br:=e;omega) (fun e=>by have e:cb=w.heap.size+1:=e;omega))).trans g9.out;have t1:w6.cell? ⟨w4.heap.size,1,none⟩=some (.pointer (some ⟨br,0,none⟩)):=(a2.cell (a:=⟨w4.heap.size,1,none⟩) (by show w4.heap.size<_;omega) (fun e=>e.elim (fun e=>by have e:w4.heap.size=br:=e;omega) (fun e=>by have e:w4.heap.size=w.heap.size+1:=e;omega))).trans Q1.out;have x0:w6.cell? ⟨w.heap.size+1,0,none⟩=some (.int .u64 (y:Int)):=zaa a6 0 _ rfl;have x1:w6.cell? ⟨w.heap.size+1,1,none⟩=some (.int .u64 (z:Int)):=zaa a6 1 _ rfl;have i4:n6=0:=by have:=a4.by_.len;simpa using this.symm
 subst i4;have l4:=a2.size;have j6:=a4.lt;have d5:∀W',New w6 W'->Calls Tryz.prog 232 #[.pointer (some ⟨br,0,none⟩)] W' fun e w'=>e=.returned (.int .i64 0)/\Upd (fun b=>b=br) W' w':=fun W' hn'=>(rEnd (a4.upd hn' id (fun _ _ _=>id))).mono (fun e w' h=>⟨by rw[h.1];rfl,h.2⟩);have d6:∀W' cb',Upd (fun b=>b=br) w6 W'->W'.cell? ⟨cb',0,none⟩=some (.func (.func 146) #[] #[])->Calls Tryz.prog 211 #[.agg #[.int .u64 (y:Int),.int .u64 (z:Int)],.pointer (some ⟨cb',0,none⟩)] W' (ByR W' (F1.encC y z)):=fun W' cb' hu' hc'=>put_c1 HY.out HZ.out hc';have d7:∀W',Upd (fun b=>b=br) w6 W'->By W' A n c (F1.encC y z)/\W'.heap[w.heap.size]?=some (.cells #[.int .u64 0,.int .u64 0] 127 (0,0))/\New w W':=fun W' hu'=>by
  have h3:Upd (fun b=>b=br\/b=w.heap.size+1) w W':=((N5.out.mono (fun _ _ h=>h.elim)).trans a2).trans (hu'.mono (fun b _ h=>.inl h));have a7:New w W':=h3.mono (fun b hb h=>by omega);refine⟨H.out.new a7,?_,a7⟩
  · exact(hu'.block _ (by omega) (by omega)).trans ((a2.block _ (by omega) (fun e=>by omega)).trans K.out.1)
 have h4:=zqH d5;have h5:=zqH d6;have d8:=zqH d7;have a8:∀W',Upd (fun b=>b=br) w6 W'->W'.cell? ⟨w4.heap.size,1,none⟩=some (.pointer (some ⟨br,0,none⟩))/\W'.cell? ⟨cb,0,none⟩=some (.func (.func 146) #[] #[])/\W'.cell? ⟨w.heap.size+1,0,none⟩=some (.int .u64 (y:Int))/\W'.cell? ⟨w.heap.size+1,1,none⟩=some (.int .u64 (z:Int)):=fun W' hu'=>
  ⟨(hu'.cell (a:=⟨w4.heap.size,1,none⟩) (by show w4.heap.size<_;omega) (by show ¬w4.heap.size=br;omega)).trans t1,(hu'.cell (a:=⟨cb,0,none⟩) (by show cb<_;omega) (by show ¬cb=br;omega)).trans h0,
   (hu'.cell (a:=⟨w.heap.size+1,0,none⟩) (by show w.heap.size+1<_;omega) (by show ¬w.heap.size+1=br;omega)).trans x0,(hu'.cell (a:=⟨w.heap.size+1,1,none⟩) (by show w.heap.size+1<_;omega) (by show ¬w.heap.size+1=br;omega)).trans x1⟩
 have e3:=zqH a8;clear d5 d6 d7 a8 a6 a4 a2 q0 q1
 go_region_held (fun w'=>w'.cell? ⟨w4.heap.size,1,none⟩=some (.pointer (some ⟨br,0,none⟩))/\w'.cell? ⟨cb,0,none⟩=some (.func (.func 146) #[] #[])/\w'.cell? ⟨w.heap.size+1,0,none⟩=some (.int .u64 (y:Int))/\w'.cell? ⟨w.heap.size+1,1,none⟩=some (.int .u64 (z:Int))) (go_keep) (first
  | (go_at_call 232
     refine(h4.out _ ((Upd.refl _ w6).drew)).mono ?_
     rintro e w7 ⟨rfl,h7⟩;have e4:Upd (fun b=>b=br) w6 w7:=(Upd.refl _ w6).drew.trans h7;obtain⟨f0,f1,f2,f3⟩:=e3.out _ e4;have i5:=zqH e4;clear h7 e4)
  | (go_at_call 145
     refine(putter_cut _).mono ?_
     rintro e w8 ⟨rfl,f8⟩;have n8:New w7 w8:=(by rw[f8];exact zU _ _ _);have d9:w8.cell? ⟨w7.heap.size,0,none⟩=some (.func (.func 146) #[] #[]):=(by rw[f8];exact zaa (zX w7 _) 0 _ rfl);have e5:Upd (fun b=>b=br) w6 w8:=i5.out.trans (n8.mono (fun _ _ h=>h.elim));obtain⟨g0,g1,g2,g3⟩:=e3.out _ e5;have e6:=zqH (zN e5 d9);clear f8 n8 d9 e5)
  | (go_at_call 211
     refine(h5.out w8 _ e6.out.1 e6.out.2).mono ?_
     rintro e w9 ⟨A9,n9,c9,rfl,h8,h9,i0⟩;have e7:Upd (fun b=>b=br) w6 w9:=e6.out.1.trans (h9.mono (fun _ _ h=>h.elim));obtain⟨r0,r1,r2,r3⟩:=e3.out _ e7;have e8:=zqH (zN e7 h8);clear h8 h9 i0 e7)
  | (go_at_call 178
     refine(equal_c e8.out.2 (d8.out _ e8.out.1).1).mono ?_
     rintro e w10 ⟨rfl,rfl⟩;rw[decide_eq_true rfl]))
 obtain⟨-,b8,a7⟩:=d8.out _ e8.out.1;have b7:=zac b8 (.int .u64 (y:Int)) (i:=0);have e9:=zac b7 (.int .u64 (z:Int)) (i:=1);have c0:=zaa b8 0 _ rfl;have z0:=zad b8 0;have c1:(w10.setCell ⟨w.heap.size,0,none⟩ (.int .u64 (y:Int))).cell? ⟨w.heap.size,1,none⟩=some (.int .u64 0):=zaa b7 1 _ rfl;have z1:(w10.setCell ⟨w.heap.size,0,none⟩ (.int .u64 (y:Int))).frozen? ⟨w.heap.size,1,none⟩=false:=zad b7 1;have q0:((w10.setCell ⟨w.heap.size,0,none⟩ (.int .u64 (y:Int))).setCell ⟨w.heap.size,1,none⟩ (.int .u64 (z:Int))).cell? ⟨w.heap.size,0,none⟩=some (.int .u64 (y:Int)):=zaa e9 0 _ rfl;have q1:((w10.setCell ⟨w.heap.size,0,none⟩ (.int .u64 (y:Int))).setCell ⟨w.heap.size,1,none⟩ (.int .u64 (z:Int))).cell? ⟨w.heap.size,1,none⟩=some (.int .u64 (z:Int)):=zaa e9 1 _ rfl;have i6:=zqH a7;have QQ:=zqH (zN q0 q1);clear b8 b7 e9 a7 q0 q1
 all_goals go_wp2
 obtain⟨q0,q1⟩:=QQ.out;refine bodyPost_ret (by simp[results,Tryz.results235,go_sem,q0,q1];try rfl) rfl ?_
 have h6:Upd (fun b=>b=w.heap.size) w10 ((w10.setCell ⟨w.heap.size,0,none⟩ (.int .u64 (y:Int))).setCell ⟨w.heap.size,1,none⟩ (.int .u64 (z:Int))):=(Upd.setCell (S:=fun b=>b=w.heap.size) w10 _ rfl).trans (Upd.setCell _ _ rfl);exact⟨rfl,i6.out.then h6 (fun b hb e=>by have e:b=w.heap.size:=e;omega)⟩
theorem getter_cut (w:World):Calls Tryz.prog 179 #[.func (.func 146) #[] #[]] w fun e w'=>e=.returned (.func (.func 235) #[] #[.pointer (some ⟨w.heap.size,0,none⟩)])/\w'=w.alloc (.cells #[.func (.func 146) #[] #[]] 223):=by
 go_enter Tryz.func179,Tryz.ntmps179
 go_wp2
 go_ret
 exact⟨rfl,rfl⟩
theorem rcut_c {w:World} {A:Option Addr} {n c y z:Nat} (h:By w A n c (F1.encC y z)) (hy:y<18446744073709551616) (hz:z<18446744073709551616):
 Calls Tryz.prog 119 #[.slice A n c] w (CutR w y z):=by
 obtain⟨W1,a2⟩:=zE (w.alloc (.cells #[.int .u64 0,.int .u64 0] 127));have n1:New w W1:=by rw[a2];exact zU _ _ _
 have b1:=zX w (.cells #[.int .u64 0,.int .u64 0] 127);rw[<-a2]at b1;have s1:W1.heap.size=w.heap.size+1:=by rw[a2];exact zab _ _
 have a5:∀W cb,New w W->W.cell? ⟨cb,0,none⟩=some (.func (.func 146) #[] #[])->Calls Tryz.prog 235 #[.slice A n c,.pointer (some ⟨cb,0,none⟩)] W (CutR W y z):=fun W cb hn hc=>get_cut1 (h.new hn) hy hz hc;have H2:=zqH a5;have N1:=zqH n1;have B1:=zqH b1;have S1:=zqH s1;clear a5 n1 b1 s1 h hy hz;go_enter Tryz.func119,Tryz.ntmps119
 go_upto_region 1 with fail
 rw[<-a2];clear a2
 go_wp2_with (first
  | (go_at_call 179
     refine(getter_cut _).mono ?_
     rintro e W2 ⟨rfl,a7⟩;have n2:New W1 W2:=(by rw[a7];exact zU _ _ _);have a8:W2.cell? ⟨W1.heap.size,0,none⟩=some (.func (.func 146) #[] #[]):=(by rw[a7];exact zaa (zX W1 _) 0 _ rfl);have b8:=zqH a8;have N2:=zqH n2;clear a7 a8 n2)
  | (go_at_call 235
     refine(H2.out W2 _ (N1.out.trans N2.out) b8.out).mono ?_
     rintro e W3 ⟨rfl,a1⟩;have a3:W3.heap[w.heap.size]?=_:=((N2.out.trans a1).block _ (by have:=S1.out;omega) id).trans B1.out;have a4:=zac a3 (.int .u64 (y:Int)) (i:=0);have a6:=zac a4 (.int .u64 (z:Int)) (i:=1);have c0:=zaa a3 0 _ rfl;have z0:=zad a3 0;have c1:(W3.setCell ⟨w.heap.size,0,none⟩ (.int .u64 (y:Int))).cell? ⟨w.heap.size,1,none⟩=some (.int .u64 0):=zaa a4 1 _ rfl;have z1:(W3.setCell ⟨w.heap.size,0,none⟩ (.int .u64 (y:Int))).frozen? ⟨w.heap.size,1,none⟩=false:=zad a4 1;have q0:((W3.setCell ⟨w.heap.size,0,none⟩ (.int .u64 (y:Int))).setCell ⟨w.heap.size,1,none⟩ (.int .u64 (z:Int))).cell? ⟨w.heap.size,0,none⟩=some (.int .u64 (y:Int)):=zaa a6 0 _ rfl;have q1:((W3.setCell ⟨w.heap.size,0,none⟩ (.int .u64 (y:Int))).setCell ⟨w.heap.size,1,none⟩ (.int .u64 (z:Int))).cell? ⟨w.heap.size,1,none⟩=some (.int .u64 (z:Int)):=zaa a6 1 _ rfl;have b9:=zqH a1;have QQ:=zqH (zN q0 q1);clear a1 a3 a4 a6 q0 q1))
 obtain⟨q0,q1⟩:=QQ.out;have a1:=b9.out;refine bodyPost_ret (by simp[results,Tryz.results119,go_sem,q0,q1];try rfl) rfl ?_
 have a9:Upd (fun b=>b=w.heap.size) W3 ((W3.setCell ⟨w.heap.size,0,none⟩ (.int .u64 (y:Int))).setCell ⟨w.heap.size,1,none⟩ (.int .u64 (z:Int))):=(Upd.setCell (S:=fun b=>b=w.heap.size) W3 _ rfl).trans (Upd.setCell _ _ rfl);have c5:New w W3:=(N1.out.trans N2.out).trans a1;have d8:=S1.out;have d9:=N2.out.size;exact⟨rfl,c5.then a9 (fun b hb e=>by have e:b=w.heap.size:=e;omega)⟩
end Gz

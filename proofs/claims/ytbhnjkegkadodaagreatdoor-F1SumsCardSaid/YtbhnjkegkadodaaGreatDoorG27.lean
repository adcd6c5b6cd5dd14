/- Part of the proof. -/
import Derived.Test.YtbhnjkegkadodaaGreatDoorG26
import Derived.Test.YtbhnjkegkadodaaGreatDoorG19
set_option linter.all false
set_option maxRecDepth 100000
set_option maxHeartbeats 8000000
namespace Gz
open Go Go.RowKit Go.Proofs Gl
theorem alloc3 {w W1 W2 W3:World} {o1 o2 o3:Obj} (h1:W1=w.alloc o1) (h2:W2=W1.alloc o2) (h3:W3=W2.alloc o3):New w W3/\W3.heap.size=w.heap.size+1+1+1/\W3.heap[w.heap.size]?=some o1/\W3.heap[w.heap.size+1]?=some o2/\W3.heap[w.heap.size+1+1]?=some o3:=by
 have s1:W1.heap.size=w.heap.size+1:=by rw[h1];exact zab _ _
 have s2:W2.heap.size=w.heap.size+1+1:=by rw[h2,zab,s1]
 have n1:New w W1:=by rw[h1];exact zU _ _ _
 have n2:New W1 W2:=by rw[h2];exact zU _ _ _
 have n3:New W2 W3:=by rw[h3];exact zU _ _ _
 refine⟨n1.trans (n2.trans n3),by rw[h3,zab,s2],?_,?_,?_⟩
 · exact(n3.block _ (by omega) id).trans ((n2.block _ (by omega) id).trans (by rw[h1];exact zX w _))
 · exact(n3.block _ (by omega) id).trans (by rw[h2,<-s1];exact zX W1 _)
 · rw[h3,<-s2];exact zX W2 _
def HistR (w:World) (x y:Nat) (e:Ending) (w':World):Prop:=
 ∃R m d,e=.returned (.tuple #[.agg #[.slice R m d,.int .u64 (y:Int)],.int .i64 0])/\LN (NB w) w' R m d x/\New w w'
theorem get_h1 {w:World} {cb:Nat} {A:Option Addr} {n c x y:Nat} (h:By w A n c (F1.encH x y)) (hb:F1.nb x<=255) (hy:y<18446744073709551616) (hcb:w.cell? ⟨cb,0,none⟩=some (.func (.func 137) #[] #[])):
 Calls Tryz.prog 230 #[.slice A n c,.pointer (some ⟨cb,0,none⟩)] w (HistR w x y):=by
 obtain⟨W1,f7⟩:=zE (w.alloc (.cells #[.slice none 0 0,.int .u64 0] 120));obtain⟨W2,f8⟩:=zE (W1.alloc (.cells #[.slice none 0 0,.int .u64 0] 120));obtain⟨W3,f9⟩:=zE (W2.alloc (.cells #[.slice none 0 0,.int .u64 0] 120));obtain⟨hn,hs,b0,b1,b2⟩:=alloc3 f7 f8 f9;have d0:=h.len;have g7:n=1+F1.nb x+8:=by rw[<-d0];simp[F1.encH,zah];omega
 have e3:=zqB w _ hcb;have d5:=(hn.cell (a:=⟨cb,0,none⟩) e3 id).trans hcb;have g8:=newReader (h.new hn) (by omega);have g9:=zqH g8;have HN:=zqH hn;have HS:=zqH hs;have HB:=zqH (zN b0 (zN b1 b2));have H:=zqH h;have e4:=zqH hb;have HY:=zqH hy;have h0:=zqH g7;clear g8 hn hs b0 b1 b2 h hb hy d0 hcb g7;go_enter Tryz.func230,Tryz.ntmps230
 go_upto_region 2 with fail
 rw[<-f7,<-f8,<-f9];clear f7 f8 f9
 go_upto_region 3 with(go_at_call 231;refine g9.out.mono ?_;rintro e w4 ⟨br,A4,c4,rfl,a3,a5,g4,b5⟩;have H4:=zqH (zN a3 (zN a5 (zN g4 b5)));clear g9 a3 a5 g4 b5)
 obtain⟨a3,a5,g4,b5⟩:=H4.out;obtain⟨W5,b7⟩:=zE (w4.alloc (.cells #[.pointer none,.pointer (some ⟨br,0,none⟩)] 288));have n5:New w4 W5:=by rw[b7];exact zU _ _ _
 have k8:=HS.out;have k9:=a5.size;have l0:W5.heap.size=w4.heap.size+1:=by rw[b7];exact zab _ _
 have b8:=zX w4 (.cells #[.pointer none,.pointer (some ⟨br,0,none⟩)] 288);rw[<-b7]at b8;have n35:New W3 W5:=a5.trans n5;have k0:W5.heap[w.heap.size]?=_:=(n35.block _ (by omega) id).trans HB.out.1;have k1:W5.heap[w.heap.size+1]?=_:=(n35.block _ (by omega) id).trans HB.out.2.1;have k2:W5.heap[w.heap.size+1+1]?=_:=(n35.block _ (by omega) id).trans HB.out.2.2;have h3:=(n35.cell (a:=⟨cb,0,none⟩) (by show cb<_;have:cb<w.heap.size:=e3;omega) id).trans d5;have q0:W5.cell? ⟨w4.heap.size,0,none⟩=some (.pointer none):=zaa b8 0 _ rfl;have q1:W5.cell? ⟨w4.heap.size,1,none⟩=some (.pointer (some ⟨br,0,none⟩)):=zaa b8 1 _ rfl;have j6:=a3.lt;have d6:=rhist (a3.upd n5 id (fun _ _ _=>id)) e4.out HY.out (by have:=h0.out;have:=e4.out;omega) k1 (by omega) (fun a ha=>by have h1:=b5 a ha;have h2:=a3.by_.sl.lt ha (by have:=h0.out;omega);omega);have H1:=zqH d6;have N5:=zqH (HN.out.trans n35);have K:=zqH (zN k0 k2);have h4:=zqH h3;have Q1:=zqH q1;clear d6 n5 n35 k0 k1 k2 b8 a3 a5 b5 d5;rw[<-b7];clear b7
 go_upto_region 4 with(go_at_call 137;refine H1.out.mono ?_;rintro e w6 ⟨R,m,d,A6,n6,c6,rfl,a6,a7,a4,a2⟩;have H6:=zqH (zN a6 (zN a7 (zN a4 a2)));clear H1 a6 a7 a4 a2)
 obtain⟨a6,a7,a4,a2⟩:=H6.out;have j8:cb<w.heap.size:=e3;have h5:w6.cell? ⟨cb,0,none⟩=some (.func (.func 137) #[] #[]):=(a2.cell (a:=⟨cb,0,none⟩) (by show cb<_;omega) (fun e=>e.elim (fun e=>by have e:cb=br:=e;omega) (fun e=>by have e:cb=w.heap.size+1:=e;omega))).trans h4.out;have t1:w6.cell? ⟨w4.heap.size,1,none⟩=some (.pointer (some ⟨br,0,none⟩)):=(a2.cell (a:=⟨w4.heap.size,1,none⟩) (by show w4.heap.size<_;omega) (fun e=>e.elim (fun e=>by have e:w4.heap.size=br:=e;omega) (fun e=>by have e:w4.heap.size=w.heap.size+1:=e;omega))).trans Q1.out;have x0:w6.cell? ⟨w.heap.size+1,0,none⟩=some (.slice R m d):=zaa a7 0 _ rfl;have x1:w6.cell? ⟨w.heap.size+1,1,none⟩=some (.int .u64 (y:Int)):=zaa a7 1 _ rfl;have i7:n6=0:=by have:=a4.by_.len;simpa using this.symm
 subst i7;have l7:=a2.size;have j9:=a4.lt;have d7:∀W',New w6 W'->Calls Tryz.prog 232 #[.pointer (some ⟨br,0,none⟩)] W' fun e w'=>e=.returned (.int .i64 0)/\Upd (fun b=>b=br) W' w':=fun W' hn'=>(rEnd (a4.upd hn' id (fun _ _ _=>id))).mono (fun e w' h=>⟨by rw[h.1];rfl,h.2⟩);have d8:∀W' cb',Upd (fun b=>b=br) w6 W'->W'.cell? ⟨cb',0,none⟩=some (.func (.func 137) #[] #[])->Calls Tryz.prog 202 #[.agg #[.slice R m d,.int .u64 (y:Int)],.pointer (some ⟨cb',0,none⟩)] W' (ByR W' (F1.encH x y)):=fun W' cb' hu' hc'=>put_h1 (a6.lq.upd hu' (fun b hb e=>by have hb:W5.heap.size<=b:=hb;have e:b=br:=e;omega)) e4.out HY.out hc';have d9:∀W',Upd (fun b=>b=br) w6 W'->By W' A n c (F1.encH x y)/\W'.heap[w.heap.size]?=some (.cells #[.slice none 0 0,.int .u64 0] 120 (0,0))/\LN (fun b=>w.heap.size<b) W' R m d x/\New w W':=fun W' hu'=>by
  have h6:Upd (fun b=>b=br\/b=w.heap.size+1) w W':=((N5.out.mono (fun _ _ h=>h.elim)).trans a2).trans (hu'.mono (fun b _ h=>.inl h));have a8:New w W':=h6.mono (fun b hb h=>by omega);refine⟨H.out.new a8,?_,?_,a8⟩
  · exact(hu'.block _ (by omega) (by omega)).trans ((a2.block _ (by omega) (fun e=>by omega)).trans K.out.1)
  · exact(a6.upd hu' (fun b hb e=>by have hb:W5.heap.size<=b:=hb;have e:b=br:=e;omega)).mono (fun b _ hb=>by have hb:W5.heap.size<=b:=hb;show w.heap.size<b;omega)
 have h7:=zqH d7;have h8:=zqH d8;have e0:=zqH d9;have a9:∀W',Upd (fun b=>b=br) w6 W'->W'.cell? ⟨w4.heap.size,1,none⟩=some (.pointer (some ⟨br,0,none⟩))/\W'.cell? ⟨cb,0,none⟩=some (.func (.func 137) #[] #[])/\W'.cell? ⟨w.heap.size+1,0,none⟩=some (.slice R m d)/\W'.cell? ⟨w.heap.size+1,1,none⟩=some (.int .u64 (y:Int)):=fun W' hu'=>
  ⟨(hu'.cell (a:=⟨w4.heap.size,1,none⟩) (by show w4.heap.size<_;omega) (by show ¬w4.heap.size=br;omega)).trans t1,(hu'.cell (a:=⟨cb,0,none⟩) (by show cb<_;omega) (by show ¬cb=br;omega)).trans h5,
   (hu'.cell (a:=⟨w.heap.size+1,0,none⟩) (by show w.heap.size+1<_;omega) (by show ¬w.heap.size+1=br;omega)).trans x0,(hu'.cell (a:=⟨w.heap.size+1,1,none⟩) (by show w.heap.size+1<_;omega) (by show ¬w.heap.size+1=br;omega)).trans x1⟩
 have e6:=zqH a9;clear d7 d8 d9 a9 a6 a7 a4 a2 q0 q1
 go_region_held (fun w'=>w'.cell? ⟨w4.heap.size,1,none⟩=some (.pointer (some ⟨br,0,none⟩))/\w'.cell? ⟨cb,0,none⟩=some (.func (.func 137) #[] #[])/\w'.cell? ⟨w.heap.size+1,0,none⟩=some (.slice R m d)/\w'.cell? ⟨w.heap.size+1,1,none⟩=some (.int .u64 (y:Int))) (go_keep) (first
  | (go_at_call 232
     refine(h7.out _ ((Upd.refl _ w6).drew)).mono ?_
     rintro e w7 ⟨rfl,i0⟩;have e7:Upd (fun b=>b=br) w6 w7:=(Upd.refl _ w6).drew.trans i0;obtain⟨f0,f1,f2,f3⟩:=e6.out _ e7;have i9:=zqH e7;clear i0 e7)
  | (go_at_call 136
     refine(putter_h _).mono ?_
     rintro e w8 ⟨rfl,g5⟩;have n8:New w7 w8:=(by rw[g5];exact zU _ _ _);have e1:w8.cell? ⟨w7.heap.size,0,none⟩=some (.func (.func 137) #[] #[]):=(by rw[g5];exact zaa (zX w7 _) 0 _ rfl);have e8:Upd (fun b=>b=br) w6 w8:=i9.out.trans (n8.mono (fun _ _ h=>h.elim));obtain⟨g0,g1,g2,g3⟩:=e6.out _ e8;have e9:=zqH (zN e8 e1);clear g5 n8 e1 e8)
  | (go_at_call 202
     refine(h8.out w8 _ e9.out.1 e9.out.2).mono ?_
     rintro e w9 ⟨A9,n9,c9,rfl,i1,i3,i4⟩;have f4:Upd (fun b=>b=br) w6 w9:=e9.out.1.trans (i3.mono (fun _ _ h=>h.elim));obtain⟨r0,r1,r2,r3⟩:=e6.out _ f4;have f5:=zqH (zN f4 i1);clear i1 i3 i4 f4)
  | (go_at_call 178
     refine(equal_c f5.out.2 (e0.out _ f5.out.1).1).mono ?_
     rintro e w10 ⟨rfl,rfl⟩;rw[decide_eq_true rfl]))
 obtain⟨-,c5,h9,a8⟩:=e0.out _ f5.out.1;have b9:=zac c5 (.slice R m d) (i:=0);have f6:=zac b9 (.int .u64 (y:Int)) (i:=1);have c0:=zaa c5 0 _ rfl;have z0:=zad c5 0;have c1:(w10.setCell ⟨w.heap.size,0,none⟩ (.slice R m d)).cell? ⟨w.heap.size,1,none⟩=some (.int .u64 0):=zaa b9 1 _ rfl;have z1:(w10.setCell ⟨w.heap.size,0,none⟩ (.slice R m d)).frozen? ⟨w.heap.size,1,none⟩=false:=zad b9 1;have q0:((w10.setCell ⟨w.heap.size,0,none⟩ (.slice R m d)).setCell ⟨w.heap.size,1,none⟩ (.int .u64 (y:Int))).cell? ⟨w.heap.size,0,none⟩=some (.slice R m d):=zaa f6 0 _ rfl;have q1:((w10.setCell ⟨w.heap.size,0,none⟩ (.slice R m d)).setCell ⟨w.heap.size,1,none⟩ (.int .u64 (y:Int))).cell? ⟨w.heap.size,1,none⟩=some (.int .u64 (y:Int)):=zaa f6 1 _ rfl;have j0:=zqH h9;have j1:=zqH a8;have QQ:=zqH (zN q0 q1);clear c5 b9 f6 h9 a8 q0 q1
 all_goals go_wp2
 obtain⟨q0,q1⟩:=QQ.out;refine bodyPost_ret (by simp[results,Tryz.results230,go_sem,q0,q1];try rfl) rfl ?_
 have e2:Upd (fun b=>b=w.heap.size) w10 ((w10.setCell ⟨w.heap.size,0,none⟩ (.slice R m d)).setCell ⟨w.heap.size,1,none⟩ (.int .u64 (y:Int))):=(Upd.setCell (S:=fun b=>b=w.heap.size) w10 _ rfl).trans (Upd.setCell _ _ rfl);refine⟨R,m,d,rfl,?_,j1.out.then e2 (fun b hb e=>by have e:b=w.heap.size:=e;omega)⟩;exact(j0.out.upd e2 (fun b hb e=>by have e:b=w.heap.size:=e;have hb:w.heap.size<b:=hb;omega)).mono (fun b _ hb=>Nat.le_of_lt hb)
theorem getter_h (w:World):Calls Tryz.prog 172 #[.func (.func 137) #[] #[]] w fun e w'=>e=.returned (.func (.func 230) #[] #[.pointer (some ⟨w.heap.size,0,none⟩)])/\w'=w.alloc (.cells #[.func (.func 137) #[] #[]] 214):=by
 go_enter Tryz.func172,Tryz.ntmps172
 go_wp2
 go_ret
 exact⟨rfl,rfl⟩
theorem rhistory_c {w:World} {A:Option Addr} {n c x y:Nat} (h:By w A n c (F1.encH x y)) (hb:F1.nb x<=255) (hy:y<18446744073709551616):
 Calls Tryz.prog 112 #[.slice A n c] w (HistR w x y):=by
 obtain⟨W1,a1⟩:=zE (w.alloc (.cells #[.slice none 0 0,.int .u64 0] 120));have n1:New w W1:=by rw[a1];exact zU _ _ _
 have b1:=zX w (.cells #[.slice none 0 0,.int .u64 0] 120);rw[<-a1]at b1;have s1:W1.heap.size=w.heap.size+1:=by rw[a1];exact zab _ _
 have a6:∀W cb,New w W->W.cell? ⟨cb,0,none⟩=some (.func (.func 137) #[] #[])->Calls Tryz.prog 230 #[.slice A n c,.pointer (some ⟨cb,0,none⟩)] W (HistR W x y):=fun W cb hn hc=>get_h1 (h.new hn) hb hy hc;have H2:=zqH a6;have N1:=zqH n1;have B1:=zqH b1;have S1:=zqH s1;clear a6 n1 b1 s1 h hb hy;go_enter Tryz.func112,Tryz.ntmps112
 go_upto_region 1 with fail
 rw[<-a1];clear a1
 go_wp2_with (first
  | (go_at_call 172
     refine(getter_h _).mono ?_
     rintro e W2 ⟨rfl,a9⟩;have n2:New W1 W2:=(by rw[a9];exact zU _ _ _);have b0:W2.cell? ⟨W1.heap.size,0,none⟩=some (.func (.func 137) #[] #[]):=(by rw[a9];exact zaa (zX W1 _) 0 _ rfl);have b9:=zqH b0;have N2:=zqH n2;clear a9 b0 n2)
  | (go_at_call 230
     refine(H2.out W2 _ (N1.out.trans N2.out) b9.out).mono ?_
     rintro e W3 ⟨R,m,d,rfl,a5,a2⟩;have a3:W3.heap[w.heap.size]?=_:=((N2.out.trans a2).block _ (by have:=S1.out;omega) id).trans B1.out;have a4:=zac a3 (.slice R m d) (i:=0);have a8:=zac a4 (.int .u64 (y:Int)) (i:=1);have c0:=zaa a3 0 _ rfl;have z0:=zad a3 0;have c1:(W3.setCell ⟨w.heap.size,0,none⟩ (.slice R m d)).cell? ⟨w.heap.size,1,none⟩=some (.int .u64 0):=zaa a4 1 _ rfl;have z1:(W3.setCell ⟨w.heap.size,0,none⟩ (.slice R m d)).frozen? ⟨w.heap.size,1,none⟩=false:=zad a4 1;have q0:((W3.setCell ⟨w.heap.size,0,none⟩ (.slice R m d)).setCell ⟨w.heap.size,1,none⟩ (.int .u64 (y:Int))).cell? ⟨w.heap.size,0,none⟩=some (.slice R m d):=zaa a8 0 _ rfl;have q1:((W3.setCell ⟨w.heap.size,0,none⟩ (.slice R m d)).setCell ⟨w.heap.size,1,none⟩ (.int .u64 (y:Int))).cell? ⟨w.heap.size,1,none⟩=some (.int .u64 (y:Int)):=zaa a8 1 _ rfl;have c5:=zqH (zN a5 a2);have QQ:=zqH (zN q0 q1);clear a5 a2 a3 a4 a8 q0 q1))
 obtain⟨q0,q1⟩:=QQ.out;obtain⟨a5,a2⟩:=c5.out;refine bodyPost_ret (by simp[results,Tryz.results112,go_sem,q0,q1];try rfl) rfl ?_
 have a7:Upd (fun b=>b=w.heap.size) W3 ((W3.setCell ⟨w.heap.size,0,none⟩ (.slice R m d)).setCell ⟨w.heap.size,1,none⟩ (.int .u64 (y:Int))):=(Upd.setCell (S:=fun b=>b=w.heap.size) W3 _ rfl).trans (Upd.setCell _ _ rfl);have c6:New w W3:=(N1.out.trans N2.out).trans a2;have d9:=S1.out;have e0:=N2.out.size;refine⟨R,m,d,rfl,?_,c6.then a7 (fun b hb e=>by have e:b=w.heap.size:=e;omega)⟩;exact(a5.upd a7 (fun b hb e=>by have e:b=w.heap.size:=e;have hb:W2.heap.size<=b:=hb;omega)).mono (fun b _ hb=>by have hb:W2.heap.size<=b:=hb;show w.heap.size<=b;omega)
def Rz (br:Nat) (w:World) (e:Nat):Prop:=∃A c,Rd br w A 0 c [] e
theorem Rz.upd {br e:Nat} {w w':World} {S:Nat->Prop} (h:Rz br w e) (hu:Upd S w w') (h1:¬S br):Rz br w' e:=by
 obtain⟨A,c,h⟩:=h;exact⟨A,c,h.upd hu h1 (fun _ _ h=>by omega)⟩
theorem Rz.lt {br e:Nat} {w:World} (h:Rz br w e):br<w.heap.size:=by obtain⟨A,c,h⟩:=h;exact h.lt
abbrev Ez (e:Nat):Prop:=e=0\/e=40
theorem zpeek {br e0:Nat} {w:World} (h:Rz br w e0) (he:Ez e0):Calls Tryz.prog 290 #[.pointer (some ⟨br,0,none⟩),.int .i64 1] w fun e w'=>e=.returned (.tuple #[.int .u64 0,.bool false])/\Rz br w' 40/\Upd (fun b=>b=br) w w':=by
 obtain⟨A,c,h⟩:=h;refine(rpeek h 1 (by omega) (by omega) (by omega)).mono ?_
 rintro e w' ⟨_,h2,h3⟩;obtain⟨h4,h5⟩:=h2 (by omega);refine⟨h4,⟨A,c,?_⟩,h3⟩;rcases he with rfl|rfl<;>exact h5
theorem zNat {br e0:Nat} {w:World} (h:Rz br w e0) (he:Ez e0):Calls Tryz.prog 269 #[.pointer (some ⟨br,0,none⟩)] w fun e w'=>e=.returned (.slice none 0 0)/\Rz br w' 40/\Upd (fun b=>b=br) w w':=by
 have H:=zqH (zpeek h he);clear h he;go_enter Tryz.func269,Tryz.ntmps269
 go_wp2_with (go_at_call 290;refine H.out.mono ?_;rintro e w' ⟨rfl,h1,h2⟩;have H1:=zqH (zN h1 h2);clear h1 h2)
 go_ret
 exact⟨rfl,H1.out⟩
theorem zDec {br e0:Nat} {w:World} (h:Rz br w e0) (he:Ez e0):Calls Tryz.prog 242 #[.pointer (some ⟨br,0,none⟩)] w fun e w'=>e=.returned (.agg #[.slice none 0 0])/\Rz br w' 40/\Upd (fun b=>b=br) w w':=by
 obtain⟨W,hW⟩:=zE (w.alloc (.cells #[.slice none 0 0] 26));have a5:New w W:=by rw[hW];exact zU _ _ _
 have a6:=zX w (.cells #[.slice none 0 0] 26);rw[<-hW]at a6;have b5:=h.lt;have b6:W.heap.size=w.heap.size+1:=by rw[hW];exact zab _ _
 have H1:=zqH (zNat (h.upd a5 id) he);have HN:=zqH a5;have HB:=zqH a6;clear a5 a6 h he;go_enter Tryz.func242,Tryz.ntmps242
 go_wp2_with (rw[<-hW];go_at_call 269;refine H1.out.mono ?_;rintro e w2 ⟨rfl,a3,a1⟩;have a2:=(a1.block w.heap.size (zqA.1 HB.out).1 (by omega)).trans HB.out;have q1:=zaa a2 0 _ rfl;have q2:=zad a2 0;have H2:=zqH (zN a3 a1);have a8:=zqH a2;clear a3 a1 a2 H1)
 have q0:(w2.setCell ⟨w.heap.size,0,none⟩ (.slice none 0 0)).cell? ⟨w.heap.size,0,none⟩=some (.slice none 0 0):=zaa (zac a8.out (.slice none 0 0) (i:=0)) 0 _ rfl;refine bodyPost_ret (by simp[results,Tryz.results242,go_sem,q0];try rfl) rfl ?_
 obtain⟨a3,a1⟩:=H2.out;have a4:Upd (fun b=>b=w.heap.size) w2 (w2.setCell ⟨w.heap.size,0,none⟩ (.slice none 0 0)):=Upd.setCell w2 _ rfl;exact⟨rfl,a3.upd a4 (by omega),((HN.out.mono (fun _ _ h=>h.elim)).trans a1).then a4 (fun b hb e=>by omega)⟩
theorem zU64 {br e0:Nat} {w:World} (h:Rz br w e0) (he:Ez e0):Calls Tryz.prog 244 #[.pointer (some ⟨br,0,none⟩)] w fun e w'=>e=.returned (.int .u64 0)/\Rz br w' 40/\Upd (fun b=>b=br) w w':=by
 obtain⟨A,c,h⟩:=h;refine(rU64 h (by omega)).mono ?_
 rintro e w' ⟨rfl,A',n',c',h1,h2,h3⟩;have h4:rOk 8 [] e0=false:=by simp[rOk]
 unfold rb re at h1;rw[h4]at h1;simp only[Bool.false_eq_true,if_false]at h1;have hn:n'=0:=by have:=h1.by_.len;simpa using this.symm
 subst hn;refine⟨by unfold rv;rw[h4];rfl,⟨A',c',?_⟩,h2⟩;rcases he with rfl|rfl<;>exact h1
def FieldZ (br bx ox:Nat) (cs:Array Value) (t:TypeId) (v:Value) (w:World) (e:Ending) (w':World):Prop:=
 e=.returned (.tuple #[])/\w'.heap[bx]?=some (.cells (cs.setIfInBounds ox v) t (0,0))/\Rz br w' 40/\Upd (fun b=>b=br\/b=bx) w w'
theorem zdecs {br bx ox lb e0:Nat} {cs:Array Value} {t:TypeId} {w:World} (hR:Rz br w e0) (he:Ez e0)
 (hl:w.cell? ⟨lb,0,none⟩=some (.pointer (some ⟨bx,ox,none⟩))) (hx:w.heap[bx]?=some (.cells cs t (0,0))) (hox:ox<cs.size) (hbx:bx≠br):
 Calls Tryz.prog 204 #[.agg #[.pointer none,.pointer (some ⟨br,0,none⟩)],.slice (some ⟨lb,0,none⟩) 1 1] w (FieldZ br bx ox cs t (.slice none 0 0) w):=by
 obtain⟨W,hW⟩:=zE (w.alloc (.cells #[.pointer none,.pointer (some ⟨br,0,none⟩)] 288));have a1:New w W:=by rw[hW];exact zU _ _ _
 have a2:=zX w (.cells #[.pointer none,.pointer (some ⟨br,0,none⟩)] 288);rw[<-hW]at a2;have a6:=(a1.cell (a:=⟨lb,0,none⟩) (zqB w _ hl) id).trans hl;have a7:W.cell? ⟨w.heap.size,0,none⟩=some (.pointer none):=zaa a2 0 _ rfl;have a8:W.cell? ⟨w.heap.size,1,none⟩=some (.pointer (some ⟨br,0,none⟩)):=zaa a2 1 _ rfl;have a4:=(zqA.1 hx).1;have H1:=zqH (zDec (hR.upd a1 id) he);have HN:=zqH a1;have HX:=zqH ((a1.block _ a4 id).trans hx);have HC:=zqH (zN a6 (zN a7 a8));clear a1 hR hl hx a2 a6 a7 a8 he;go_enter Tryz.func204,Tryz.ntmps204;go_wp2;rw[<-hW];clear hW
 go_loopw [8] (fun i wr=>(i=.int .i64 0/\wr=W)\/(i=.int .i64 1/\Hid (FieldZ br bx ox cs t (.slice none 0 0) w (.returned (.tuple #[])) wr))) (fun i _=>1-(intOf i).toNat)
 case atStart=>exact .inl ⟨rfl,rfl⟩
 case round=>
  rcases hrel with⟨rfl,rfl⟩|⟨rfl,hw⟩
  · obtain⟨a6,a7,a8⟩:=HC.out
    go_wp2_with (go_at_call 242
                 refine H1.out.mono ?_
                 rintro e w2 ⟨rfl,b0,a9⟩;have a3:=(a9.block bx (zqL a4 HN.out.size) hbx).trans HX.out;have q1:=zaa a3 ox _ (Array.getElem?_eq_getElem hox);have q2:=zad a3 ox;have H2:=zqH (zN b0 a9);have b6:=zqH a3;clear b0 a9 a3)
    have a5:Upd (fun b=>b=bx) w2 (w2.setCell ⟨bx,ox,none⟩ (.slice none 0 0)):=Upd.setCell w2 _ rfl;exact⟨.inr ⟨rfl,zqH ⟨rfl,zac b6.out _,H2.out.1.upd a5 (fun e=>hbx e.symm),((HN.out.mono (fun _ _ h=>h.elim)).trans (H2.out.2.mono (fun b _ h=>.inl h))).trans (a5.mono (fun b _ h=>.inr h))⟩⟩,by simp[intOf]⟩
  · go_wp2
    go_end0
    exact hw.out
theorem znum1 {br bx ox lb e0:Nat} {cs:Array Value} {t:TypeId} {w:World} (hR:Rz br w e0) (he:Ez e0)
 (hl:w.cell? ⟨lb,0,none⟩=some (.pointer (some ⟨bx,ox,none⟩))) (hx:w.heap[bx]?=some (.cells cs t (0,0))) (hox:ox<cs.size) (hbx:bx≠br):
 Calls Tryz.prog 205 #[.agg #[.pointer none,.pointer (some ⟨br,0,none⟩)],.slice (some ⟨lb,0,none⟩) 1 1] w (FieldZ br bx ox cs t (.int .u64 0) w):=by
 obtain⟨W,hW⟩:=zE (w.alloc (.cells #[.pointer none,.pointer (some ⟨br,0,none⟩)] 288));have a1:New w W:=by rw[hW];exact zU _ _ _
 have a2:=zX w (.cells #[.pointer none,.pointer (some ⟨br,0,none⟩)] 288);rw[<-hW]at a2;have a6:=(a1.cell (a:=⟨lb,0,none⟩) (zqB w _ hl) id).trans hl;have a7:W.cell? ⟨w.heap.size,0,none⟩=some (.pointer none):=zaa a2 0 _ rfl;have a8:W.cell? ⟨w.heap.size,1,none⟩=some (.pointer (some ⟨br,0,none⟩)):=zaa a2 1 _ rfl;have a4:=(zqA.1 hx).1;have H1:=zqH (zU64 (hR.upd a1 id) he);have HN:=zqH a1;have HX:=zqH ((a1.block _ a4 id).trans hx);have HC:=zqH (zN a6 (zN a7 a8));clear a1 hR hl hx a2 a6 a7 a8 he;go_enter Tryz.func205,Tryz.ntmps205;go_wp2;rw[<-hW];clear hW
 go_loopw [8] (fun i wr=>(i=.int .i64 0/\wr=W)\/(i=.int .i64 1/\Hid (FieldZ br bx ox cs t (.int .u64 0) w (.returned (.tuple #[])) wr))) (fun i _=>1-(intOf i).toNat)
 case atStart=>exact .inl ⟨rfl,rfl⟩
 case round=>
  rcases hrel with⟨rfl,rfl⟩|⟨rfl,hw⟩
  · obtain⟨a6,a7,a8⟩:=HC.out
    go_wp2_with (go_at_call 244
                 refine H1.out.mono ?_
                 rintro e w2 ⟨rfl,b0,a9⟩;have a3:=(a9.block bx (zqL a4 HN.out.size) hbx).trans HX.out;have q1:=zaa a3 ox _ (Array.getElem?_eq_getElem hox);have q2:=zad a3 ox;have H2:=zqH (zN b0 a9);have b6:=zqH a3;clear b0 a9 a3)
    have a5:Upd (fun b=>b=bx) w2 (w2.setCell ⟨bx,ox,none⟩ (.int .u64 0)):=Upd.setCell w2 _ rfl;exact⟨.inr ⟨rfl,zqH ⟨rfl,zac b6.out _,H2.out.1.upd a5 (fun e=>hbx e.symm),((HN.out.mono (fun _ _ h=>h.elim)).trans (H2.out.2.mono (fun b _ h=>.inl h))).trans (a5.mono (fun b _ h=>.inr h))⟩⟩,by simp[intOf]⟩
  · go_wp2
    go_end0
    exact hw.out
theorem zEnd {br e0:Nat} {w:World} (h:Rz br w e0):Calls Tryz.prog 232 #[.pointer (some ⟨br,0,none⟩)] w fun e w'=>e=.returned (.int .i64 (e0:Int))/\w'=w:=by
 obtain⟨A,c,h⟩:=h;have h0:=h.cell0;have h1:=h.cell1;clear h;go_enter Tryz.func232,Tryz.ntmps232;go_wp2;go_ret;exact⟨rfl,rfl⟩
theorem zhist {br bx:Nat} {t:TypeId} {w:World} (hR:Rz br w 0) (hx:w.heap[bx]?=some (.cells #[.slice none 0 0,.int .u64 0] t (0,0))) (hbx:bx≠br):
 Calls Tryz.prog 137 #[.agg #[.pointer none,.pointer (some ⟨br,0,none⟩)],.pointer (some ⟨bx,0,none⟩)] w fun e w'=>e=.returned (.tuple #[])/\w'.heap[bx]?=some (.cells #[.slice none 0 0,.int .u64 0] t (0,0))/\Rz br w' 40/\Upd (fun b=>b=br\/b=bx) w w':=by
 obtain⟨W,hW⟩:=zE (w.alloc (.cells #[.pointer none,.pointer (some ⟨br,0,none⟩)] 288));have b5:New w W:=by rw[hW];exact zU _ _ _
 have a4:=zX w (.cells #[.pointer none,.pointer (some ⟨br,0,none⟩)] 288);rw[<-hW]at a4;have a8:=(zqA.1 hx).1;have d9:=hR.lt;have e0:W.cell? ⟨w.heap.size,0,none⟩=some (.pointer none):=zaa a4 0 _ rfl;have e1:W.cell? ⟨w.heap.size,1,none⟩=some (.pointer (some ⟨br,0,none⟩)):=zaa a4 1 _ rfl;have a1:∀W5 W6 i v,W5.heap.size > w.heap.size->Upd (fun b=>b=br\/b=bx) W5 W6->W5.cell? ⟨w.heap.size,i,none⟩=some v->W6.cell? ⟨w.heap.size,i,none⟩=some v:=fun W5 W6 i v hs hu hv=>
  (hu.cell (a:=⟨w.heap.size,i,none⟩) hs (fun e=>e.elim (fun e=>by have e:w.heap.size=br:=e;omega) (fun e=>by have e:w.heap.size=bx:=e;omega))).trans hv
 have b6:w.heap.size<W.heap.size:=by rw[hW,zab];omega
 have HR:=zqH hR;have HX:=zqH (zN hx hbx);have HK:=zqH a1;have HN:=zqH b5;have a9:=zqH b6;have b7:=zqH a8;clear a1 b5 b6 hR hx hbx a4 d9 a8;go_enter Tryz.func137,Tryz.ntmps137;go_wp2;rw[<-hW];clear hW
 go_region_held (fun w'=>w'.cell? ⟨w.heap.size,0,none⟩=some (.pointer none)/\w'.cell? ⟨w.heap.size,1,none⟩=some (.pointer (some ⟨br,0,none⟩))) (go_keep) (
  (go_at_call 204
   obtain⟨W5,a5⟩:=zE ((W.alloc (.cells #[.pointer (some ⟨bx,0,none⟩)] 292)).drew);rw[<-a5];have n5:New W W5:=by rw[a5];exact(zU _ _ _).drew
   have b8:W5.cell? ⟨W.heap.size,0,none⟩=some (.pointer (some ⟨bx,0,none⟩)):=by rw[a5];exact zaa (zX W _) 0 _ rfl
   refine(zdecs (HR.out.upd (HN.out.trans n5) id) (.inl rfl) b8 (((HN.out.trans n5).block _ b7.out id).trans HX.out.1) (by simp) HX.out.2).mono ?_
   rintro e W6 ⟨rfl,d0,d5,a2⟩;have s5:w.heap.size<W5.heap.size:=zqL a9.out n5.size;have t0:=HK.out W5 W6 0 _ s5 a2 ((n5.cell (a:=⟨w.heap.size,0,none⟩) a9.out id).trans e0);have t1:=HK.out W5 W6 1 _ s5 a2 ((n5.cell (a:=⟨w.heap.size,1,none⟩) a9.out id).trans e1);have H6:=zqH (show W6.heap[bx]?=some (.cells #[.slice none 0 0,.int .u64 0] t (0,0))/\Rz br W6 40/\Upd (fun b=>b=br\/b=bx) w W6/\w.heap.size<W6.heap.size from⟨d0,d5,((HN.out.trans n5).mono (fun _ _ h=>h.elim)).trans a2,zqL s5 a2.size⟩);clear n5 b8 a5 d0 d5 a2 s5))
 all_goals go_wp2
 go_region_held (fun w'=>w'.cell? ⟨w.heap.size,0,none⟩=some (.pointer none)/\w'.cell? ⟨w.heap.size,1,none⟩=some (.pointer (some ⟨br,0,none⟩))) (go_keep) (
  (go_at_call 205
   obtain⟨W7,a6⟩:=zE ((W6.alloc (.cells #[.pointer (some ⟨bx,1,none⟩)] 294)).drew);rw[<-a6];have n7:New W6 W7:=by rw[a6];exact(zU _ _ _).drew
   have b9:W7.cell? ⟨W6.heap.size,0,none⟩=some (.pointer (some ⟨bx,1,none⟩)):=by rw[a6];exact zaa (zX W6 _) 0 _ rfl
   refine(znum1 (H6.out.2.1.upd n7 id) (.inr rfl) b9 ((n7.block _ (zqA.1 H6.out.1).1 id).trans H6.out.1) (by simp) HX.out.2).mono ?_
   rintro e W8 ⟨rfl,d6,d7,a7⟩;have s7:w.heap.size<W7.heap.size:=zqL H6.out.2.2.2 n7.size;have u0:=HK.out W7 W8 0 _ s7 a7 ((n7.cell (a:=⟨w.heap.size,0,none⟩) H6.out.2.2.2 id).trans t0);have u1:=HK.out W7 W8 1 _ s7 a7 ((n7.cell (a:=⟨w.heap.size,1,none⟩) H6.out.2.2.2 id).trans t1);have HY:=zqH (zN d6 (zN d7 ((H6.out.2.2.1.trans (n7.mono (fun _ _ h=>h.elim))).trans a7)));clear n7 b9 a6 d6 d7 a7 s7))
 all_goals go_wp2
 all_goals go_end0
 exact⟨rfl,HY.out⟩
theorem zget {w:World} {cb:Nat} (hcb:w.cell? ⟨cb,0,none⟩=some (.func (.func 137) #[] #[])):
 Calls Tryz.prog 230 #[.slice none 0 0,.pointer (some ⟨cb,0,none⟩)] w fun e w'=>e=.returned (.tuple #[.agg #[.slice none 0 0,.int .u64 0],.int .i64 80])/\New w w':=by
 obtain⟨W1,d0⟩:=zE (w.alloc (.cells #[.slice none 0 0,.int .u64 0] 120));obtain⟨W2,d5⟩:=zE (W1.alloc (.cells #[.slice none 0 0,.int .u64 0] 120));obtain⟨W3,d6⟩:=zE (W2.alloc (.cells #[.slice none 0 0,.int .u64 0] 120));obtain⟨hn,hs,b0,b1,b2⟩:=alloc3 d0 d5 d6;have e0:=zqB w _ hcb;have b6:=(hn.cell (a:=⟨cb,0,none⟩) e0 id).trans hcb;have e1:=zqH (newReader (By.nil W3) (by omega));have HN:=zqH hn;have HS:=zqH hs;have HB:=zqH (zN b0 (zN b1 b2));clear hn hs b0 b1 b2 hcb;go_enter Tryz.func230,Tryz.ntmps230
 go_upto_region 2 with fail
 rw[<-d0,<-d5,<-d6];clear d0 d5 d6
 go_upto_region 3 with(go_at_call 231;refine e1.out.mono ?_;rintro e w4 ⟨br,A4,c4,rfl,a3,a4,d7,e7⟩;have H4:=zqH (zN (show Rz br w4 0 from⟨A4,c4,a3⟩) (zN a4 d7));clear e1 a3 a4 d7 e7)
 obtain⟨a3,a4,d7⟩:=H4.out;obtain⟨W5,a5⟩:=zE (w4.alloc (.cells #[.pointer none,.pointer (some ⟨br,0,none⟩)] 288));have n5:New w4 W5:=by rw[a5];exact zU _ _ _
 have g0:=HS.out;have g1:=a4.size;have g2:W5.heap.size=w4.heap.size+1:=by rw[a5];exact zab _ _
 have a7:=zX w4 (.cells #[.pointer none,.pointer (some ⟨br,0,none⟩)] 288);rw[<-a5]at a7;have n35:New W3 W5:=a4.trans n5;have k0:W5.heap[w.heap.size]?=_:=(n35.block _ (by omega) id).trans HB.out.1;have k1:W5.heap[w.heap.size+1]?=_:=(n35.block _ (by omega) id).trans HB.out.2.1;have k2:W5.heap[w.heap.size+1+1]?=_:=(n35.block _ (by omega) id).trans HB.out.2.2;have f0:=(n35.cell (a:=⟨cb,0,none⟩) (by show cb<_;have:cb<w.heap.size:=e0;omega) id).trans b6;have q0:W5.cell? ⟨w4.heap.size,0,none⟩=some (.pointer none):=zaa a7 0 _ rfl;have q1:W5.cell? ⟨w4.heap.size,1,none⟩=some (.pointer (some ⟨br,0,none⟩)):=zaa a7 1 _ rfl;have f2:=a3.lt;have H1:=zqH (zhist (a3.upd n5 id) k1 (by omega));have N5:=zqH (HN.out.trans n35);have K:=zqH (zN k0 k2);have Q1:=zqH q1;clear n5 n35 k0 k1 k2 a7 a3 a4 b6;rw[<-a5];clear a5
 go_upto_region 4 with(go_at_call 137;refine H1.out.mono ?_;rintro e w6 ⟨rfl,b5,a6,a2⟩;have H6:=zqH (zN b5 (zN a6 a2));clear H1 b5 a6 a2)
 obtain⟨b5,a6,a2⟩:=H6.out;have t1:w6.cell? ⟨w4.heap.size,1,none⟩=some (.pointer (some ⟨br,0,none⟩)):=(a2.cell (a:=⟨w4.heap.size,1,none⟩) (by show w4.heap.size<_;omega) (fun e=>e.elim (fun e=>by have e:w4.heap.size=br:=e;omega) (fun e=>by have e:w4.heap.size=w.heap.size+1:=e;omega))).trans Q1.out;have b7:∀n,Calls Tryz.prog 232 #[.pointer (some ⟨br,0,none⟩)] (w6.drewN n) fun e w'=>e=.returned (.int .i64 40)/\w6.drewN n=w':=fun n=>by
  obtain⟨A,c,h⟩:=a6;exact(zEnd ⟨A,c,h.drewN n⟩).mono fun e w' h=>⟨h.1,h.2.symm⟩
 have x0:w6.heap[w.heap.size]?=some (.cells #[.slice none 0 0,.int .u64 0] 120 (0,0)):=(a2.block _ (by omega) (fun e=>by omega)).trans K.out.1;have x2:w6.heap[w.heap.size+1+1]?=some (.cells #[.slice none 0 0,.int .u64 0] 120 (0,0)):=(a2.block _ (by omega) (fun e=>by omega)).trans K.out.2;have a1:New w w6:=(N5.out.mono (fun _ _ h=>h.elim)).then a2 (fun b hb e=>by omega);have e2:=zqH b7;have HX:=zqH (zN x0 (zN x2 a1));clear b7 x0 x2 a1 b5 a6 a2 q0 q1
 go_quiet ((go_at_call 232;exact quiet_l (e2.out _)))
 obtain⟨x0,x2,a1⟩:=HX.out;obtain⟨W,hW⟩:=zE (w6.drewN nq);rw[<-hW];replace x0:W.heap[w.heap.size]?=some (.cells #[.slice none 0 0,.int .u64 0] 120 (0,0)):=by rw[hW];exact x0
 replace x2:W.heap[w.heap.size+1+1]?=some (.cells #[.slice none 0 0,.int .u64 0] 120 (0,0)):=by rw[hW];exact x2
 replace a1:New w W:=by rw[hW];exact a1.drewN _
 have a9:=zac x0 (.slice none 0 0) (i:=0);have c6:=zac a9 (.int .u64 0) (i:=1);have c0:=zaa x0 0 _ rfl;have z0:=zad x0 0;have c1:(W.setCell ⟨w.heap.size,0,none⟩ (.slice none 0 0)).cell? ⟨w.heap.size,1,none⟩=some (.int .u64 0):=zaa a9 1 _ rfl;have z1:(W.setCell ⟨w.heap.size,0,none⟩ (.slice none 0 0)).frozen? ⟨w.heap.size,1,none⟩=false:=zad a9 1;have y0:=zaa x2 0 _ rfl;have y1:=zaa x2 1 _ rfl;have q0:((W.setCell ⟨w.heap.size,0,none⟩ (.slice none 0 0)).setCell ⟨w.heap.size,1,none⟩ (.int .u64 0)).cell? ⟨w.heap.size,0,none⟩=some (.slice none 0 0):=zaa c6 0 _ rfl;have q1:((W.setCell ⟨w.heap.size,0,none⟩ (.slice none 0 0)).setCell ⟨w.heap.size,1,none⟩ (.int .u64 0)).cell? ⟨w.heap.size,1,none⟩=some (.int .u64 0):=zaa c6 1 _ rfl;have HQ:=zqH (zN q0 (zN q1 a1));clear a9 c6 q0 q1 x0 x2 a1 hW;go_wp2;obtain⟨q0,q1,a1⟩:=HQ.out;refine bodyPost_ret (by simp[results,Tryz.results230,go_sem,q0,q1];try rfl) rfl ?_
 have e3:Upd (fun b=>b=w.heap.size) W ((W.setCell ⟨w.heap.size,0,none⟩ (.slice none 0 0)).setCell ⟨w.heap.size,1,none⟩ (.int .u64 0)):=(Upd.setCell (S:=fun b=>b=w.heap.size) W _ rfl).trans (Upd.setCell _ _ rfl);exact⟨rfl,a1.then e3 (fun b hb e=>by have e:b=w.heap.size:=e;omega)⟩
theorem history_nil (w:World):Calls Tryz.prog 112 #[.slice none 0 0] w fun e w'=>e=.returned (.tuple #[.agg #[.slice none 0 0,.int .u64 0],.int .i64 80])/\New w w':=by
 obtain⟨W1,a1⟩:=zE (w.alloc (.cells #[.slice none 0 0,.int .u64 0] 120));have n1:New w W1:=by rw[a1];exact zU _ _ _
 have b1:=zX w (.cells #[.slice none 0 0,.int .u64 0] 120);rw[<-a1]at b1;have s1:W1.heap.size=w.heap.size+1:=by rw[a1];exact zab _ _
 have N1:=zqH n1;have B1:=zqH b1;have S1:=zqH s1;clear n1 b1 s1;go_enter Tryz.func112,Tryz.ntmps112
 go_upto_region 1 with fail
 rw[<-a1];clear a1
 go_wp2_with (first
  | (go_at_call 172
     refine(getter_h _).mono ?_
     rintro e W2 ⟨rfl,a5⟩;have n2:New W1 W2:=(by rw[a5];exact zU _ _ _);have a7:W2.cell? ⟨W1.heap.size,0,none⟩=some (.func (.func 137) #[] #[]):=(by rw[a5];exact zaa (zX W1 _) 0 _ rfl);have b6:=zqH a7;have N2:=zqH n2;clear a5 a7 n2)
  | (go_at_call 230
     refine(zget b6.out).mono ?_
     rintro e W3 ⟨rfl,a6⟩;have a2:W3.heap[w.heap.size]?=_:=((N2.out.trans a6).block _ (by have:=S1.out;omega) id).trans B1.out;have a3:=zac a2 (.slice none 0 0) (i:=0);have a4:=zac a3 (.int .u64 0) (i:=1);have c0:=zaa a2 0 _ rfl;have z0:=zad a2 0;have c1:(W3.setCell ⟨w.heap.size,0,none⟩ (.slice none 0 0)).cell? ⟨w.heap.size,1,none⟩=some (.int .u64 0):=zaa a3 1 _ rfl;have z1:(W3.setCell ⟨w.heap.size,0,none⟩ (.slice none 0 0)).frozen? ⟨w.heap.size,1,none⟩=false:=zad a3 1;have q0:((W3.setCell ⟨w.heap.size,0,none⟩ (.slice none 0 0)).setCell ⟨w.heap.size,1,none⟩ (.int .u64 0)).cell? ⟨w.heap.size,0,none⟩=some (.slice none 0 0):=zaa a4 0 _ rfl;have q1:((W3.setCell ⟨w.heap.size,0,none⟩ (.slice none 0 0)).setCell ⟨w.heap.size,1,none⟩ (.int .u64 0)).cell? ⟨w.heap.size,1,none⟩=some (.int .u64 0):=zaa a4 1 _ rfl;have b7:=zqH a6;have QQ:=zqH (zN q0 q1);clear a6 a2 a3 a4 q0 q1))
 obtain⟨q0,q1⟩:=QQ.out;refine bodyPost_ret (by simp[results,Tryz.results112,go_sem,q0,q1];try rfl) rfl ?_
 have a8:Upd (fun b=>b=w.heap.size) W3 ((W3.setCell ⟨w.heap.size,0,none⟩ (.slice none 0 0)).setCell ⟨w.heap.size,1,none⟩ (.int .u64 0)):=(Upd.setCell (S:=fun b=>b=w.heap.size) W3 _ rfl).trans (Upd.setCell _ _ rfl);exact⟨rfl,((N1.out.trans N2.out).trans b7.out).then a8 (fun b hb e=>by have e:b=w.heap.size:=e;omega)⟩
theorem wnum2 {base bw lb bx:Nat} {tx:TypeId} {w:World} {A:Option Addr} {n c y z:Nat} {bs:List Nat} (h:Wr base bw w A n c bs) (hy:y<18446744073709551616) (hz:z<18446744073709551616) (hn:n+1000<=1073741824) (hbase:base<=w.heap.size)
 (hl:w.heap[lb]?=some (.cells #[.pointer (some ⟨bx,0,none⟩),.pointer (some ⟨bx,1,none⟩)] 294 (0,0))) (hc:w.heap[bx]?=some (.cells #[.int .u64 (y:Int),.int .u64 (z:Int)] tx (0,0))) (hlb:lb≠bw/\(Value.slice A n c).ownBlock≠some lb) (hbx:bx≠bw/\(Value.slice A n c).ownBlock≠some bx):
 Calls Tryz.prog 205 #[.agg #[.pointer (some ⟨bw,0,none⟩),.pointer none],.slice (some ⟨lb,0,none⟩) 2 2] w (Wrote base bw w A n c bs (8+8) (be 8 y ++ be 8 z)):=by
 obtain⟨W,hW⟩:=zE (w.alloc (.cells #[.pointer (some ⟨bw,0,none⟩),.pointer none] 288));have a3:New w W:=by rw[hW];exact zU _ _ _
 have b7:=zX w (.cells #[.pointer (some ⟨bw,0,none⟩),.pointer none] 288);rw[<-hW]at b7;have c5:=(zqA.1 hl).1;have d0:=(zqA.1 hc).1;have d5:=(a3.block _ c5 id).trans hl;have d6:=(a3.block _ d0 id).trans hc;have f2:=h.lt;have hol:=fun b hb=>h.own_lt (b:=b) hb;have f3:W.heap.size=w.heap.size+1:=by rw[hW];exact zab _ _
 have a4:∀w6,Upd (fun b=>b=bw\/(Value.slice A n c).ownBlock=some b) W w6->w6.heap[lb]?=some (.cells #[.pointer (some ⟨bx,0,none⟩),.pointer (some ⟨bx,1,none⟩)] 294 (0,0))/\w6.heap[bx]?=some (.cells #[.int .u64 (y:Int),.int .u64 (z:Int)] tx (0,0))/\w6.heap[w.heap.size]?=some (.cells #[.pointer (some ⟨bw,0,none⟩),.pointer none] 288 (0,0)):=fun w6 hu=>
  ⟨(hu.block _ (by omega) (fun e=>e.elim hlb.1 hlb.2)).trans d5,(hu.block _ (by omega) (fun e=>e.elim hbx.1 hbx.2)).trans d6,(hu.block _ (by omega) (fun e=>e.elim (fun e=>by omega) (fun e=>by have:=hol _ e;exact Nat.lt_irrefl _ this))).trans b7⟩
 have h1:∀W',New W W'->Calls Tryz.prog 243 #[.pointer (some ⟨bw,0,none⟩),.int .u64 (y:Int)] W' _:=fun W' hn'=>wU64 (h.new (a3.trans hn')) y hy (by omega) (zT hbase (a3.trans hn').size);have h2:∀w6 A6 c6,Wr base bw w6 A6 (n+8) c6 (bs ++ be 8 y)->base<=w6.heap.size->∀W',New w6 W'->Calls Tryz.prog 243 #[.pointer (some ⟨bw,0,none⟩),.int .u64 (z:Int)] W' _:=fun w6 A6 c6 hw hb W' hn'=>wU64 (hw.new hn') z hz (by omega) (zT hb hn'.size);have a9:=zqH (show bx<W.heap.size/\¬(bx=bw\/(Value.slice A n c).ownBlock=some bx)/\w.heap.size<W.heap.size/\¬(w.heap.size=bw\/(Value.slice A n c).ownBlock=some w.heap.size) from⟨by omega,fun e=>e.elim hbx.1 hbx.2,by omega,fun e=>e.elim (fun e=>by omega) (fun e=>by have:=hol _ e;exact Nat.lt_irrefl _ this)⟩);have H1:=zqH h1;have H2:=zqH h2;have HK:=zqH a4;have HN:=zqH a3;have f5:=zqH hbase;clear h1 h2 a4 h hy hz hn hl hc hlb hbx c5 d0 d5 d6 f2 hol f3 b7 hbase;go_enter Tryz.func205,Tryz.ntmps205;go_wp2;rw[<-hW];clear hW
 go_loopw [8] (fun i wr=>(i=.int .i64 0/\wr=W)\/(i=.int .i64 1/\Hid (∃A6 c6,Wr base bw wr A6 (n+8) c6 (bs ++ be 8 y)/\Upd (fun b=>b=bw\/(Value.slice A n c).ownBlock=some b) W wr/\((Value.slice A6 (n+8) c6).ownBlock=(Value.slice A n c).ownBlock\/∃g,(Value.slice A6 (n+8) c6).ownBlock=some g/\W.heap.size<=g)))\/(i=.int .i64 2/\Hid (Wrote base bw w A n c bs (8+8) (be 8 y ++ be 8 z) (.returned (.tuple #[])) wr))) (fun i _=>2-(intOf i).toNat)
 case atStart=>exact .inl ⟨rfl,rfl⟩
 case round=>
  rcases hrel with⟨rfl,rfl⟩|⟨rfl,hw⟩|⟨rfl,hw⟩
  · obtain⟨kl,kx,kt⟩:=HK.out _ (Upd.refl _ _);have e0:=zaa kl 0 _ rfl;have e1:=zaa kl 1 _ rfl;have x0:=zaa kx 0 _ rfl;have t0:=zaa kt 0 _ rfl;have t1:=zaa kt 1 _ rfl;clear kl kx kt;go_wp2
    go_region_held (fun w'=>w'.cell? ⟨w.heap.size,0,none⟩=some (.pointer (some ⟨bw,0,none⟩))/\w'.cell? ⟨bx,0,none⟩=some (.int .u64 (y:Int))) (go_keep) (
     (go_at_call 243
      refine(H1.out _ (Upd.refl _ wr).drew).mono ?_
      rintro e w6 hw;obtain rfl:e=.returned (.tuple #[]):=hw.1;obtain⟨_,A7,c7,e4,a6,e5⟩:=hw;have b8:Upd (fun b=>b=bw\/(Value.slice A n c).ownBlock=some b) wr w6:=Upd.of_drew a6;obtain⟨kl,kx,kt⟩:=HK.out _ b8;have f0:=zaa kt 0 _ rfl;have f1:=zaa kx 0 _ rfl;have HR:=zqH (zN e4 (zN b8 e5));clear e4 a6 e5 b8 kl kx kt))
    all_goals go_wp2
    all_goals exact⟨.inr (.inl ⟨rfl,zqH ⟨A7,c7,HR.out.1,HR.out.2.1,HR.out.2.2⟩⟩),by simp[intOf]⟩
  · obtain⟨A6,c6,e6,b0,b9⟩:=hw.out;obtain⟨kl,kx,kt⟩:=HK.out _ b0;have e1:=zaa kl 1 _ rfl;have x1:=zaa kx 1 _ rfl;have t0:=zaa kt 0 _ rfl;have t1:=zaa kt 1 _ rfl;have hb:=zT f5.out (zT HN.out.size b0.size);have h3:=H2.out wr A6 c6 e6 hb;have b5:∀w7,Upd (fun b=>b=bw\/(Value.slice A6 (n+8) c6).ownBlock=some b) wr w7->w7.heap[bx]?=wr.heap[bx]?/\w7.heap[w.heap.size]?=wr.heap[w.heap.size]?:=fun w7 a6=>by
     have h1:∀b,b<W.heap.size->¬(b=bw\/(Value.slice A n c).ownBlock=some b)->¬(b=bw\/(Value.slice A6 (n+8) c6).ownBlock=some b):=fun b hb hn e=>e.elim (fun e=>hn (.inl e)) (fun e=>b9.elim (fun e2=>hn (.inr (e2▸e))) (fun⟨g,e2,hg⟩=>by rw[e2]at e;injection e with e;omega));exact⟨a6.block _ (zqA.1 kx).1 (h1 _ a9.out.1 a9.out.2.1),a6.block _ (zqA.1 kt).1 (h1 _ a9.out.2.2.1 a9.out.2.2.2)⟩
    have HF:=zqH b5;have H3:=zqH h3;have d9:=zqH (zN b0 b9);have HX:=zqH (zN kx kt);clear e6 b0 b9 kl kx kt h3 b5 hb;go_wp2
    go_region_held (fun w'=>w'.cell? ⟨w.heap.size,0,none⟩=some (.pointer (some ⟨bw,0,none⟩))/\w'.cell? ⟨bx,1,none⟩=some (.int .u64 (z:Int))) (go_keep) (
     (go_at_call 243
      refine(H3.out _ (Upd.refl _ wr).drew).mono ?_
      rintro e w7 hw;obtain rfl:e=.returned (.tuple #[]):=hw.1;obtain⟨_,A9,c9,e7,e8,e9⟩:=hw;have a5:Upd (fun b=>b=bw\/(Value.slice A6 (n+8) c6).ownBlock=some b) wr w7:=Upd.of_drew e8;obtain⟨kx,kt⟩:=HF.out _ a5;have f0:=zaa (kt.trans HX.out.2) 0 _ rfl;have f1:=zaa (kx.trans HX.out.1) 1 _ rfl;have HR:=zqH (Wrote.both HN.out d9.out.1 d9.out.2 e7 a5 e9);clear e7 e8 e9 a5 kx kt))
    all_goals go_wp2
    all_goals exact⟨.inr (.inr ⟨rfl,HR⟩),by simp[intOf]⟩
  · go_wp2
    go_end0
    exact hw.out
theorem wcut {base bw bx:Nat} {tx:TypeId} {w:World} {A:Option Addr} {n c y z:Nat} {bs:List Nat} (h:Wr base bw w A n c bs) (hy:y<18446744073709551616) (hz:z<18446744073709551616) (hn:n+1000<=1073741824) (hbase:base<=w.heap.size)
 (hc:w.heap[bx]?=some (.cells #[.int .u64 (y:Int),.int .u64 (z:Int)] tx (0,0))) (hbx:bx≠bw/\(Value.slice A n c).ownBlock≠some bx):
 Calls Tryz.prog 146 #[.agg #[.pointer (some ⟨bw,0,none⟩),.pointer none],.pointer (some ⟨bx,0,none⟩)] w (Wrote base bw w A n c bs (8+8) (be 8 y ++ be 8 z)):=by
 obtain⟨W,hW⟩:=zE (w.alloc (.cells #[.pointer (some ⟨bw,0,none⟩),.pointer none] 288));have a9:New w W:=by rw[hW];exact zU _ _ _
 have a3:=zX w (.cells #[.pointer (some ⟨bw,0,none⟩),.pointer none] 288);rw[<-hW]at a3;have a6:=(zqA.1 hc).1;have b7:=h.lt;have b8:W.cell? ⟨w.heap.size,0,none⟩=some (.pointer (some ⟨bw,0,none⟩)):=zaa a3 0 _ rfl;have b9:W.cell? ⟨w.heap.size,1,none⟩=some (.pointer none):=zaa a3 1 _ rfl;have a7:∀W7 lb,New w W7->w.heap.size<=lb->W7.heap[lb]?=some (.cells #[.pointer (some ⟨bx,0,none⟩),.pointer (some ⟨bx,1,none⟩)] 294 (0,0))->Calls Tryz.prog 205 #[.agg #[.pointer (some ⟨bw,0,none⟩),.pointer none],.slice (some ⟨lb,0,none⟩) 2 2] W7 (Wrote base bw W7 A n c bs (8+8) (be 8 y ++ be 8 z)):=fun W7 lb h7 hlb hl=>
  wnum2 (h.new h7) hy hz hn (zT hbase h7.size) hl ((h7.block _ a6 id).trans hc) ⟨by omega,fun e=>by have:=h.own_lt e;omega⟩ hbx
 have a2:∀W5 W6 i v,W5.heap.size > w.heap.size->Upd (fun b=>b=bw\/(Value.slice A n c).ownBlock=some b) W5 W6->W5.cell? ⟨w.heap.size,i,none⟩=some v->W6.cell? ⟨w.heap.size,i,none⟩=some v:=fun W5 W6 i v hs hu hv=>
  (hu.cell (a:=⟨w.heap.size,i,none⟩) hs (fun e=>e.elim (fun e=>by have e:w.heap.size=bw:=e;omega) (fun e=>by have:=h.own_lt e;exact Nat.lt_irrefl _ this))).trans hv
 have b0:w.heap.size<W.heap.size:=by rw[hW,zab];omega
 have H5:=zqH a7;have HK:=zqH a2;have HN:=zqH a9;have a4:=zqH b0;clear a7 a2 a9 b0 h hy hz hn hbase hc hbx a3 a6 b7;go_enter Tryz.func146,Tryz.ntmps146;go_wp2;rw[<-hW];clear hW
 go_region_held (fun w'=>w'.cell? ⟨w.heap.size,0,none⟩=some (.pointer (some ⟨bw,0,none⟩))/\w'.cell? ⟨w.heap.size,1,none⟩=some (.pointer none)) (go_keep) (
  (go_at_call 205
   obtain⟨W7,a5⟩:=zE ((W.alloc (.cells #[.pointer (some ⟨bx,0,none⟩),.pointer (some ⟨bx,1,none⟩)] 294)).drew);rw[<-a5];have n7:New W W7:=by rw[a5];exact(zU _ _ _).drew
   have b5:W7.heap[W.heap.size]?=some (.cells #[.pointer (some ⟨bx,0,none⟩),.pointer (some ⟨bx,1,none⟩)] 294 (0,0)):=by rw[a5];exact zX W _
   refine(H5.out W7 W.heap.size (HN.out.trans n7) (Nat.le_of_lt a4.out) b5).mono ?_
   rintro e W8 hw;obtain rfl:e=.returned (.tuple #[]):=hw.1;have HY:=zqH (Wrote.from (HN.out.trans n7) hw);obtain⟨_,A9,c9,c5,a8,c6⟩:=hw;have s7:w.heap.size<W7.heap.size:=zqL a4.out n7.size;have u0:=HK.out W7 W8 0 _ s7 a8 ((n7.cell (a:=⟨w.heap.size,0,none⟩) a4.out id).trans b8);have u1:=HK.out W7 W8 1 _ s7 a8 ((n7.cell (a:=⟨w.heap.size,1,none⟩) a4.out id).trans b9);clear n7 b5 a5 c5 a8 c6 s7))
 all_goals go_wp2
 all_goals go_end0
 exact HY.out
theorem put_c1 {w:World} {cb y z:Nat} (hy:y<18446744073709551616) (hz:z<18446744073709551616) (hcb:w.cell? ⟨cb,0,none⟩=some (.func (.func 146) #[] #[])):
 Calls Tryz.prog 211 #[.agg #[.int .u64 (y:Int),.int .u64 (z:Int)],.pointer (some ⟨cb,0,none⟩)] w (ByR w (F1.encC y z)):=by
 obtain⟨W1,a2⟩:=zE (w.alloc (.cells #[.int .u64 (y:Int),.int .u64 (z:Int)] 127));obtain⟨W2,a3⟩:=zE (W1.alloc (.cells #[.slice none 0 0,.int .i64 0] 285));obtain⟨W3,a4⟩:=zE (W2.alloc (.cells #[.pointer (some ⟨w.heap.size+1,0,none⟩),.pointer none] 288));have n1:New w W1:=by rw[a2];exact zU _ _ _
 have n2:New W1 W2:=by rw[a3];exact zU _ _ _
 have n3:New W2 W3:=by rw[a4];exact zU _ _ _
 have s1:W1.heap.size=w.heap.size+1:=by rw[a2];exact zab _ _
 have s2:W2.heap.size=w.heap.size+1+1:=by rw[a3,zab,s1]
 have b1:W3.heap[w.heap.size]?=some (.cells #[.int .u64 (y:Int),.int .u64 (z:Int)] 127 (0,0)):=(n3.block _ (by omega) id).trans ((n2.block _ (by omega) id).trans (by rw[a2];exact zX w _));have b2:W3.heap[w.heap.size+1]?=some (.cells #[.slice none 0 0,.int .i64 0] 285 (0,0)):=(n3.block _ (by omega) id).trans (by rw[a3,<-s1];exact zX W1 _);have b3:W3.heap[w.heap.size+1+1]?=some (.cells #[.pointer (some ⟨w.heap.size+1,0,none⟩),.pointer none] 288 (0,0)):=by rw[a4,<-s2];exact zX W2 _
 have hn:New w W3:=n1.trans (n2.trans n3);have s3:W3.heap.size=w.heap.size+1+1+1:=by rw[a4,zab,s2]
 have d0:=(hn.cell (a:=⟨cb,0,none⟩) (zqB w _ hcb) id).trans hcb;have q0:W3.cell? ⟨w.heap.size+1+1,0,none⟩=some (.pointer (some ⟨w.heap.size+1,0,none⟩)):=zaa b3 0 _ rfl;have q1:W3.cell? ⟨w.heap.size+1+1,1,none⟩=some (.pointer none):=zaa b3 1 _ rfl;have a7:=wcut (Wr.fresh b2) hy hz (by omega) (by omega) b1 ⟨by omega,fun e=>by cases e⟩;have H1:=zqH a7;have HN:=zqH hn;have HQ:=zqH q0;have S3:=zqH s3;clear a7 hn b1 b2 b3 n1 n2 n3 hy hz s1 s2 s3;go_enter Tryz.func211,Tryz.ntmps211
 go_upto_region 2 with fail
 rw[<-a2,<-a3,<-a4];clear a2 a3 a4
 go_wp2_with (first
  | (go_at_call 146;refine H1.out.mono ?_;rintro e w1 ⟨rfl,A4,c4,b8,b0,c6⟩;have k0:=(b0.cell (a:=⟨w.heap.size+1+1,0,none⟩) (by have:=S3.out;show w.heap.size+1+1<_;omega) (fun h=>h.elim (fun h=>by have h:w.heap.size+1+1=w.heap.size+1:=h;omega) (fun h=>by cases h))).trans HQ.out;have a8:=wOut b8 (by omega);have H4:=zqH b0;clear b8 b0 c6 H1)
  | (go_at_call 203;refine a8.mono ?_;rintro e w2 ⟨A5,c5,rfl,a5,a6,a1,_⟩;have H5:=zqH (zN a5 (zN a6 a1));clear a8 a5 a6 a1))
 go_ret
 obtain⟨a5,a6,a1⟩:=H5.out;have b5:New w w1:=HN.out.then H4.out (fun b hb h=>h.elim (fun h=>by omega) (fun h=>by cases h));exact⟨A5,_,c5,rfl,by simpa[F1.encC] using a5,b5.trans a6,fun a ha=>zT b5.size (a1 a ha)⟩
theorem putter_cut (w:World):Calls Tryz.prog 145 #[.func (.func 146) #[] #[]] w fun e w'=>e=.returned (.func (.func 211) #[] #[.pointer (some ⟨w.heap.size,0,none⟩)])/\w'=w.alloc (.cells #[.func (.func 146) #[] #[]] 223):=by
 go_enter Tryz.func145,Tryz.ntmps145
 go_wp2
 go_ret
 exact⟨rfl,rfl⟩
theorem putcut_c {w:World} {y z:Nat} (hy:y<18446744073709551616) (hz:z<18446744073709551616):
 Calls Tryz.prog 91 #[.agg #[.int .u64 (y:Int),.int .u64 (z:Int)]] w (ByR w (F1.encC y z)):=by
 obtain⟨W1,a3⟩:=zE (w.alloc (.cells #[.int .u64 (y:Int),.int .u64 (z:Int)] 127));have n1:New w W1:=by rw[a3];exact zU _ _ _
 have b1:=zX w (.cells #[.int .u64 (y:Int),.int .u64 (z:Int)] 127);rw[<-a3]at b1;have q0:W1.cell? ⟨w.heap.size,0,none⟩=some (.int .u64 (y:Int)):=zaa b1 0 _ rfl;have q1:W1.cell? ⟨w.heap.size,1,none⟩=some (.int .u64 (z:Int)):=zaa b1 1 _ rfl;have a5:∀W cb,New w W->W.cell? ⟨cb,0,none⟩=some (.func (.func 146) #[] #[])->Calls Tryz.prog 211 #[.agg #[.int .u64 (y:Int),.int .u64 (z:Int)],.pointer (some ⟨cb,0,none⟩)] W (ByR W (F1.encC y z)):=fun W cb hn hc=>put_c1 hy hz hc;have H2:=zqH a5;have N1:=zqH n1;have BL:=zqH (zqA.1 b1).1;clear a5 n1 b1 hy hz;go_enter Tryz.func91,Tryz.ntmps91
 go_upto_region 1 with fail
 rw[<-a3];clear a3
 go_region_held (fun w'=>w'.cell? ⟨w.heap.size,0,none⟩=some (.int .u64 (y:Int))/\w'.cell? ⟨w.heap.size,1,none⟩=some (.int .u64 (z:Int))) (go_keep) (first
  | (go_at_call 145
     refine(putter_cut _).mono ?_
     rintro e W2 ⟨rfl,a7⟩;have n2:New W1 W2:=(by rw[a7];exact(Upd.refl _ W1).drew.trans (zU _ _ _));have a8:W2.cell? ⟨W1.drew.heap.size,0,none⟩=some (.func (.func 146) #[] #[]):=(by rw[a7];exact zaa (zX W1.drew _) 0 _ rfl);have p0:=(n2.cell (a:=⟨w.heap.size,0,none⟩) BL.out id).trans q0;have p1:=(n2.cell (a:=⟨w.heap.size,1,none⟩) BL.out id).trans q1;have b5:=zqH a8;have N2:=zqH n2;clear a7 a8 n2)
  | (go_at_call 211
     refine(H2.out W2 _ (N1.out.trans N2.out) b5.out).mono ?_
     rintro e W3 ⟨A5,n5,c5,rfl,a4,a2,a1⟩;have r0:=(a2.cell (a:=⟨w.heap.size,0,none⟩) (zqL BL.out N2.out.size) id).trans p0;have r1:=(a2.cell (a:=⟨w.heap.size,1,none⟩) (zqL BL.out N2.out.size) id).trans p1;have H5:=zqH (zN a4 (zN a2 a1));clear a4 a2 a1))
 all_goals go_wp2
 all_goals go_ret
 all_goals
  obtain⟨a4,a2,a1⟩:=H5.out;have hn:=(N1.out.trans N2.out)
  exact⟨A5,n5,c5,rfl,a4,hn.trans a2,fun a ha=>zT hn.size (a1 a ha)⟩
def CutRd (br bx:Nat) (t:TypeId) (w:World) (y z:Nat) (e:Ending) (w':World):Prop:=
 ∃A' n' c',e=.returned (.tuple #[])/\w'.heap[bx]?=some (.cells #[.int .u64 (y:Int),.int .u64 (z:Int)] t (0,0))/\Rd br w' A' n' c' [] 0/\Upd (fun b=>b=br\/b=bx) w w'
theorem rnum2 {br bx lb:Nat} {u0 u1:Value} {t:TypeId} {w:World} {A:Option Addr} {n c y z:Nat} (hR:Rd br w A n c (be 8 y ++ be 8 z) 0) (hy:y<18446744073709551616) (hz:z<18446744073709551616) (hn:n<=1073741824)
 (hl:w.heap[lb]?=some (.cells #[.pointer (some ⟨bx,0,none⟩),.pointer (some ⟨bx,1,none⟩)] 294 (0,0))) (hx:w.heap[bx]?=some (.cells #[u0,u1] t (0,0))) (hbx:bx≠br) (hlb:lb≠br/\lb≠bx) (hA:∀a,A=some a->a.block≠bx):
 Calls Tryz.prog 205 #[.agg #[.pointer none,.pointer (some ⟨br,0,none⟩)],.slice (some ⟨lb,0,none⟩) 2 2] w (CutRd br bx t w y z):=by
 obtain⟨W,hW⟩:=zE (w.alloc (.cells #[.pointer none,.pointer (some ⟨br,0,none⟩)] 288));have a8:New w W:=by rw[hW];exact zU _ _ _
 have b8:=zX w (.cells #[.pointer none,.pointer (some ⟨br,0,none⟩)] 288);rw[<-hW]at b8;have e9:=hR.lt;have a9:=(zqA.1 hx).1;have d7:=(zqA.1 hl).1;have b0:=(a8.block _ a9 id).trans hx;have d8:=(a8.block _ d7 id).trans hl;have d9:W.heap.size=w.heap.size+1:=by rw[hW];exact zab _ _
 have b5:∀w6,Upd (fun b=>b=br\/b=bx) W w6->w6.heap[lb]?=some (.cells #[.pointer (some ⟨bx,0,none⟩),.pointer (some ⟨bx,1,none⟩)] 294 (0,0))/\w6.heap[w.heap.size]?=some (.cells #[.pointer none,.pointer (some ⟨br,0,none⟩)] 288 (0,0)):=fun w6 hu=>
  ⟨(hu.block _ (by omega) (fun e=>e.elim hlb.1 hlb.2)).trans d8,(hu.block _ (by omega) (fun e=>e.elim (fun e=>by omega) (fun e=>by omega))).trans b8⟩
 have h1:=rU64' (hR.upd a8 id (fun _ _ _=>id)) hy hn;have h2:∀w6 A6 n6 c6,Rd br w6 A6 n6 c6 (be 8 z) 0->Calls Tryz.prog 244 #[.pointer (some ⟨br,0,none⟩)] w6 _:=fun w6 A6 n6 c6 hR6=>rU64' (rest:=[]) (by rw[List.append_nil];exact hR6) hz (by have:=hR6.by_.len;rw[zah]at this;omega);have H1:=zqH h1;have H2:=zqH h2;have HK:=zqH b5;have HN:=zqH a8;have HX:=zqH b0;have HA:=zqH hA;have b6:=zqH (zN hbx a9);have g4:=zqH d9;clear h1 h2 b5 hR hy hz hn hl hx b0 b8 hA d8 d9 e9 hbx hlb a9 d7 a8;go_enter Tryz.func205,Tryz.ntmps205;go_wp2;rw[<-hW];clear hW
 go_loopw [8] (fun i wr=>(i=.int .i64 0/\wr=W)\/(i=.int .i64 1/\Hid (∃A1 n1 c1,Rd br wr A1 n1 c1 (be 8 z) 0/\wr.heap[bx]?=some (.cells #[.int .u64 (y:Int),u1] t (0,0))/\(∀a',A1=some a'->∃a,A=some a/\a'.block=a.block)/\Upd (fun b=>b=br\/b=bx) W wr))\/(i=.int .i64 2/\Hid (CutRd br bx t w y z (.returned (.tuple #[])) wr))) (fun i _=>2-(intOf i).toNat)
 case atStart=>exact .inl ⟨rfl,rfl⟩
 case round=>
  rcases hrel with⟨rfl,rfl⟩|⟨rfl,hw⟩|⟨rfl,hw⟩
  · obtain⟨kl,kt⟩:=HK.out _ (Upd.refl _ _);have e0:=zaa kl 0 _ rfl;have t0:=zaa kt 0 _ rfl;have t1:=zaa kt 1 _ rfl;clear kl kt
    go_wp2_with (go_at_call 244
                 refine H1.out.mono ?_
                 rintro e w2 ⟨rfl,A',n',c',a6,a3,a4⟩;have a5:=(a3.block bx (zqL b6.out.2 HN.out.size) b6.out.1).trans HX.out;have q1:=zaa a5 0 _ rfl;have q2:=zad a5 0;have b9:=zqH (zN a6 (zN a4 a3));have c5:=zqH a5;clear a6 a4 a3 a5)
    obtain⟨a6,a4,a3⟩:=b9.out;have a7:Upd (fun b=>b=bx) w2 (w2.setCell ⟨bx,0,none⟩ (.int .u64 (y:Int))):=Upd.setCell w2 _ rfl;have a1:=zac c5.out (.int .u64 (y:Int)) (i:=0);simp only[List.setIfInBounds_toArray,List.set_cons_zero]at a1;refine⟨.inr (.inl ⟨rfl,zqH ⟨A',n',c',a6.upd a7 (fun e=>b6.out.1 e.symm) (fun a' ha' h0 e=>?_),a1,a4,(a3.mono (fun b _ h=>.inl h)).trans (a7.mono (fun b _ h=>.inr h))⟩⟩),by simp[intOf]⟩;obtain⟨a,ha,d5⟩:=a4 a' ha';exact HA.out a ha (d5▸e)
  · obtain⟨A1,n1,c1,e6,b0,b7,d6⟩:=hw.out;obtain⟨kl,kt⟩:=HK.out _ d6;have e1:=zaa kl 1 _ rfl;have t0:=zaa kt 0 _ rfl;have t1:=zaa kt 1 _ rfl;have H3:=zqH (H2.out wr A1 n1 c1 e6);have e2:=zqH b0;have e3:=zqH (zN b7 d6);clear kl kt e6 b0 b7 d6
    go_wp2_with (go_at_call 244
                 refine H3.out.mono ?_
                 rintro e w2 ⟨rfl,A',n',c',a6,a3,a4⟩;have a5:=(a3.block bx (zqA.1 e2.out).1 b6.out.1).trans e2.out;have q1:=zaa a5 1 _ rfl;have q2:=zad a5 1;have b9:=zqH (zN a6 (zN a4 a3));have c5:=zqH a5;clear a6 a4 a3 a5)
    obtain⟨a6,a4,a3⟩:=b9.out;have a7:Upd (fun b=>b=bx) w2 (w2.setCell ⟨bx,1,none⟩ (.int .u64 (z:Int))):=Upd.setCell w2 _ rfl;have a1:=zac c5.out (.int .u64 (z:Int)) (i:=1);simp only[List.setIfInBounds_toArray,List.set_cons_zero,List.set_cons_succ]at a1;refine⟨.inr (.inr ⟨rfl,zqH ⟨A',n',c',rfl,a1,a6.upd a7 (fun e=>b6.out.1 e.symm) (fun a' ha' h0 e=>?_),?_⟩⟩),by simp[intOf]⟩
    · obtain⟨a,ha,d5⟩:=a4 a' ha';obtain⟨a2,f2,e7⟩:=e3.out.1 a ha;exact HA.out a2 f2 (e7▸d5▸e)
    · exact(((HN.out.mono (fun _ _ h=>h.elim)).trans e3.out.2).trans (a3.mono (fun b _ h=>.inl h))).trans (a7.mono (fun b _ h=>.inr h))
  · go_wp2
    go_end0
    exact hw.out
theorem rcut {br bx:Nat} {u0 u1:Value} {t:TypeId} {w:World} {A:Option Addr} {n c y z:Nat} (hR:Rd br w A n c (F1.encC y z) 0) (hy:y<18446744073709551616) (hz:z<18446744073709551616) (hn:n<=4000)
 (hx:w.heap[bx]?=some (.cells #[u0,u1] t (0,0))) (hbx:bx≠br) (hA:∀a,A=some a->a.block≠bx/\a.block<w.heap.size):
 Calls Tryz.prog 146 #[.agg #[.pointer none,.pointer (some ⟨br,0,none⟩)],.pointer (some ⟨bx,0,none⟩)] w (CutRd br bx t w y z):=by
 obtain⟨W,hW⟩:=zE (w.alloc (.cells #[.pointer none,.pointer (some ⟨br,0,none⟩)] 288));have b5:New w W:=by rw[hW];exact zU _ _ _
 have a4:=zX w (.cells #[.pointer none,.pointer (some ⟨br,0,none⟩)] 288);rw[<-hW]at a4;have a9:=(zqA.1 hx).1;have b9:=hR.lt;have c5:W.cell? ⟨w.heap.size,0,none⟩=some (.pointer none):=zaa a4 0 _ rfl;have c6:W.cell? ⟨w.heap.size,1,none⟩=some (.pointer (some ⟨br,0,none⟩)):=zaa a4 1 _ rfl;have b0:∀W7 lb,New w W7->w.heap.size<=lb->W7.heap[lb]?=some (.cells #[.pointer (some ⟨bx,0,none⟩),.pointer (some ⟨bx,1,none⟩)] 294 (0,0))->Calls Tryz.prog 205 #[.agg #[.pointer none,.pointer (some ⟨br,0,none⟩)],.slice (some ⟨lb,0,none⟩) 2 2] W7 (CutRd br bx t W7 y z):=fun W7 lb h7 hlb hl=>
  rnum2 (hR.upd h7 id (fun _ _ _=>id)) hy hz (by omega) hl ((h7.block _ a9 id).trans hx) hbx ⟨by omega,by omega⟩ (fun a ha=>(hA a ha).1)
 have a3:∀W5 W6 i v,W5.heap.size > w.heap.size->Upd (fun b=>b=br\/b=bx) W5 W6->W5.cell? ⟨w.heap.size,i,none⟩=some v->W6.cell? ⟨w.heap.size,i,none⟩=some v:=fun W5 W6 i v hs hu hv=>
  (hu.cell (a:=⟨w.heap.size,i,none⟩) hs (fun e=>e.elim (fun e=>by have e:w.heap.size=br:=e;omega) (fun e=>by have e:w.heap.size=bx:=e;omega))).trans hv
 have b6:w.heap.size<W.heap.size:=by rw[hW,zab];omega
 have H5:=zqH b0;have HK:=zqH a3;have HN:=zqH b5;have a5:=zqH b6;clear b0 a3 b5 b6 hR hx hy hz hn hbx hA a4 b9 a9;go_enter Tryz.func146,Tryz.ntmps146;go_wp2;rw[<-hW];clear hW
 go_region_held (fun w'=>w'.cell? ⟨w.heap.size,0,none⟩=some (.pointer none)/\w'.cell? ⟨w.heap.size,1,none⟩=some (.pointer (some ⟨br,0,none⟩))) (go_keep) (
  (go_at_call 205
   obtain⟨W7,a6⟩:=zE ((W.alloc (.cells #[.pointer (some ⟨bx,0,none⟩),.pointer (some ⟨bx,1,none⟩)] 294)).drew);rw[<-a6];have n7:New W W7:=by rw[a6];exact(zU _ _ _).drew
   have b7:W7.heap[W.heap.size]?=some (.cells #[.pointer (some ⟨bx,0,none⟩),.pointer (some ⟨bx,1,none⟩)] 294 (0,0)):=by rw[a6];exact zX W _
   refine(H5.out W7 W.heap.size (HN.out.trans n7) (Nat.le_of_lt a5.out) b7).mono ?_
   rintro e W8 ⟨A9,k9,c9,rfl,a7,a8,a1⟩;have s7:w.heap.size<W7.heap.size:=zqL a5.out n7.size;have u0:=HK.out W7 W8 0 _ s7 a1 ((n7.cell (a:=⟨w.heap.size,0,none⟩) a5.out id).trans c5);have u1:=HK.out W7 W8 1 _ s7 a1 ((n7.cell (a:=⟨w.heap.size,1,none⟩) a5.out id).trans c6);have HY:=zqH (zN n7 (zN a7 (zN a8 a1)));clear n7 b7 a6 a7 a8 a1 s7))
 all_goals go_wp2
 all_goals go_end0
 obtain⟨n7,a7,a8,a1⟩:=HY.out;exact⟨A9,k9,c9,rfl,a7,a8,((HN.out.mono (fun _ _ h=>h.elim)).trans (n7.mono (fun _ _ h=>h.elim))).trans a1⟩
end Gz

/- Part of the proof. -/
import Derived.Test.YtbhnjkegkadodaaGreatDoorG37
set_option linter.all false
set_option maxRecDepth 100000
set_option maxHeartbeats 8000000
section
open Go.Proofs.YtbhnjkegkadodaaGreatDoor
namespace Gz
open Go Go.RowKit Go.Proofs Gl
open List renaming getElem_toArray->gD,getElem_cons_succ->gE,getElem_cons_zero->gZ
theorem does_free {w0 W:World} {F:Nat->Prop} {bs bx bd bh:Nat} {S S1:F1.Sta} {x x1:F1.Rn} {l:RL} {s:StpV} {d:F1.Del} {D:Option Addr} {m c:Nat} (h:RA w0 F bs bx bd bh S x l W) (hcl:∀Wx,New W Wx->Calls Tryz.prog 87 #[.pointer (some ⟨bx,0,none⟩)] Wx (RunR w0 F bs bx bd bh S1 x1 Wx)) (hb1:F1.Bks S1 x1) (hg1:F1.Gd x1) (hs1:F1.Sm x1)
 (hwh:s.wh=5\/s.wh=6\/s.wh=7) (hat:-9223372036854775808<=s.at_/\s.at_<=9223372036854775807) (hd:x1.ds[pl4 s.at_]?=some d) (ho:d.on=true):
 Calls Tryz.prog 33 #[.pointer (some ⟨bx,0,none⟩),.agg #[.int .i64 s.wh,.int .i64 s.at_,.int .u64 (s.n:Int),.slice D m c]] W (RunR w0 F bs bx bd bh (F1.free S1 d.per) (x1.frd (pl4 s.at_) d) W):=by
 have m9:=pl4_lt s.at_;have g4:∀Wx:World,_:=fun Wx=>place4_d (w:=Wx) hat.1 hat.2;obtain⟨pi,k6⟩:=zE (pl4 s.at_);simp only[<-k6]at m9 g4 hd ⊢;have i0:=zqH g4;have i1:=zqH hcl;have HB:=zqH hb1;have HG:=zqH hg1;have HS:=zqH hs1;have HD:=zqH hd;have HO:=zqH ho;have H:=zqH h;obtain⟨wh,at_,nn,dd⟩:=s;simp only at hwh;have s0:5<=wh:=by omega
 clear g4 hcl hb1 hg1 hs1 hd hat k6 ho h;go_enter Tryz.func33,Tryz.ntmps33
 go_upto_region 2 with(go_at_call 18;refine(i0.out _).mono ?_;rintro e W2 ⟨rfl,rfl⟩)
 go_upto_region 3 with fail
 obtain⟨WA,f0⟩:=zE (W.alloc (.cells #[.int .i64 wh,.int .i64 at_,.int .u64 (nn:Int),.slice D m c] 48));rw[<-f0];have hn:New W WA:=by rw[f0];exact zU _ _ _
 have e6:=zX W (.cells #[.int .i64 wh,.int .i64 at_,.int .u64 (nn:Int),.slice D m c] 48);rw[<-f0]at e6;obtain⟨bA,k9⟩:=zE W.heap.size;rw[<-k9]at e6 ⊢;have o1:=zqH e6;have i5:=zqH hn;have o2:=zqH (show ¬(F bA\/bA=bs\/bA=bx\/bA=bd\/bA=bh) from fun hh=>by have hl:=H.out.lt;exact hh.elim (fun hh=>by have:=(H.out.sf.lt hh).1;omega) (fun hh=>by omega));clear f0 hn e6 k9 i0
 go_upto_if 57 with fail
 go_cut [57] (fun s57 wx=>s57=.bool true/\wx=WA)
 case first=>
  rcases hwh with rfl|rfl|rfl
  all_goals
   go_wp2
   go_meet
   exact⟨by simp,rfl⟩
 case rest=>
  obtain⟨rfl,h4⟩:=hcut;replace h4:=h4.symm;subst h4;have o3:=i1.out _ i5.out;clear i1
  go_upto_if 69 with(go_at_call 87;refine o3.mono ?_;rintro e W2 ⟨rfl,F',l1,b8,l5⟩;have a2:=zqH b8;have i6:=zqH ((RS.of_new i5.out).trans l5);have i7:=zaa b8.xb 12 (.slice (some ⟨bh,0,none⟩) 4 4) rfl;have ch:W2.cell? ⟨bh,pi,none⟩=some (.bool true):=zaa b8.hb pi _ (by rw[List.getElem?_toArray,List.getElem?_map,HD.out,Option.map_some,HO.out]);clear b8 l5)
  go_upto_region 17 with fail
  obtain⟨V,hV⟩:=zE (xv l1 x1.n x1.q);have f4:∀w':World,w'.heap[bx]?=some (.cells (xc bs bd bh l1 x1.n x1.q x1.C.length) 77 (0,0))->w'.rangeAt bx 1 (xv l1 x1.n x1.q):=fun w' hk j v hv=>zaa hk (1+j) v (xv_at _ _ _ _ _ _ _ j v hv);have i9:∀w':World,w'.heap[bx]?=some (.cells (xc bs bd bh l1 x1.n x1.q x1.C.length) 77 (0,0)) → (Instr.loadAt 28 (.pointer (some ⟨bx,1,none⟩))).run Tryz.prog w'=.ok (.agg V.toArray) w':=fun w' hk=>by
   rw[hV];exact run_loadAt_mid w' bx 1 28 _ _ (f4 w' hk) Tryz.underlying28 rfl (by kernel_rfl)
  have o4:=zqH i9;have HV:=zqH hV;obtain⟨A,na,ca,Bk,nb,cb,a9,h5,b9⟩:=dels_at a2.out.dl HD.out a2.out.db;have b9:=b9 HO.out;have g5:∀W',New W2 W'->_:=fun W' hn=>r19 (A:=A) (n:=na) (c:=ca) (a2.out.new hn) HB.out HG.out HS.out (List.mem_of_getElem? HD.out) HO.out (b9.2.or_own hn (fun _ h=>h.elim)).lq;simp only[<-hV]at g5;have g6:=zqH g5;have a8:=zqH a9;have d6:=zqH (zN a2.out.xb a2.out.db);clear hV f4 i9 a9 h5 b9 g5 i7 ch o1 o2
  go_cut [7] (fun s7 wx=>∃b7:Nat,s7=.pointer (some ⟨b7,0,none⟩)/\Hid (Boxed w0 F' bs bx bd bh S1 x1 l1 W2 b7 (x1.cl d) wx))
  case first=>
   refine beginM 20 (fun w'=>(w'.heap[bx]?=some (.cells (xc bs bd bh l1 x1.n x1.q x1.C.length) 77 (0,0))/\w'.heap[bd]?=some (.cells l1.DC 55 (0,0)))) (by kernel_rfl) (fun q1=>?_);refine takeP (b:=?a1) [(0,zqQ bx 0),(1,zqQ bx 0),(2,zqQ bx 0),(3,zqQ bs 0),(4,zqQ bx 0),(5,zqQ bx 0),(6,zqQ bx 1),(7,.agg V.toArray),(8,zqQ bx 0),(9,zqQ bx 0),(10,zqQ bx 11),(11,.slice (some ⟨bd,0,none⟩) 4 4),(12,.int .i64 (pi:Int)),(13,zqQ bd (pi*3)),(14,.agg #[.slice A na ca,.int .u64 (d.per:Int),.slice Bk nb cb])] q1 d6.out (fun w' hk=>?y1) (fun q2=>?_)
   case y1=>
    have c0:=zaa hk.1 0 (.pointer (some ⟨bs,0,none⟩)) rfl;have j0:=zaa hk.1 11 (.slice (some ⟨bd,0,none⟩) 4 4) rfl;have c1:=o4.out w' hk.1;have c5:=a8.out w' hk.2
    iterate 7 (refine RunsM.cons rfl rfl (by go_simp) ?_;simp only[Act.put,gD,gE,gZ,gA,gB,gC])
    refine RunsM.cons rfl rfl (zbm (ty:=28) (x:=.tmp 77) rfl rfl c1) ?_
    simp only[Act.put,gD,gE,gZ,gA,gB,gC]
    iterate 5 (refine RunsM.cons rfl rfl (by go_simp) ?_;simp only[Act.put,gD,gE,gZ,gA,gB,gC])
    refine RunsM.cons rfl rfl (by go_simp;intro hh;exact absurd hh (by omega)) ?_
    simp only[Act.put,gD,gE,gZ,gA,gB,gC];refine RunsM.cons rfl rfl (zbm (ty:=55) (x:=.tmp 84) rfl rfl c5) ?_
    simp only[Act.put,gD,gE,gZ,gA,gB,gC];exact rfl
   refine twoM 15 19 rfl rfl (by kernel_rfl) q2 (by rfl) (by rfl) (fun K hK=>?ha) (fun K hK=>?hb)
   case ha=>
    go_simp
    obtain⟨kk,b0⟩:=g6.out W2.drew (Upd.refl _ W2).drew;refine b0.mono ?_
    rintro e W3 ⟨R,m7,d7,rfl,l6,c6,l7⟩;have c6:Upd (fun b=>b=bs) W2 W3:=c6.of_drew;have HX:=zqH (box_a a2.out c6 l6 l7);have a6:=zqH (zN ((c6.block bx a2.out.lt.2.1 (Ne.symm a2.out.nd.1)).trans d6.out.1) ((c6.block bd a2.out.lt.2.2.1 (Ne.symm a2.out.nd.2.1)).trans d6.out.2));clear l6 c6 l7 b0;refine hK _ _ (fun _=>a6.out) (fun q3=>?_);clear hK K;refine pureP (b:=?a2) [(16,.tuple #[.agg #[.slice R m7 d7],.int .i64 kk]),(17,.agg #[.slice R m7 d7]),(18,.int .i64 kk)] q3 a6.out (fun w'=>?y2) (fun q4=>?_)
    case y2=>
     iterate 3 (refine RunsM.cons rfl rfl (by go_simp) ?_;simp only[Act.put,gD,gE,gZ,gA,gB,gC])
     exact rfl
    refine oneP 19 rfl q4 (fun K hK=>?_);go_simp;obtain⟨W4,f2⟩:=zE (W3.alloc (.cells #[.slice none 0 0] 26));have d8:New W3 W4:=(by rw[f2];exact zU _ _ _);rw[<-f2]at HX ⊢;have a3:=zqH (kp2 (fun i hi=>d8.block i hi id) a6.out);have d9:W4.heap[W3.heap.size]?=some (.cells #[.slice none 0 0] 26 (0,0)):=(by rw[f2];exact al_new W3 (.cells #[.slice none 0 0] 26));refine hK _ _ (fun _=>a3.out) (fun q5=>?_);clear hK K d8 f2;refine oneP 20 rfl q5 (fun K hK=>?_);have c7:=zaa d9 0 _ rfl;have f7:=zad d9 0;go_simp;refine hK _ _ (offM (by kernel_rfl)) (fun q6=>?_);clear hK K c7 f7;refine pureQ (b:=?a3) [(21,.int .i64 kk)] q6 (fun w'=>?y3) (fun q7=>?_)
    case y3=>
     iterate 1 (refine RunsM.cons rfl rfl (by go_simp) ?_;simp only[Act.put,gD,gE,gZ,gA,gB,gC])
     exact rfl
    refine doneM (by kernel_rfl) ?_ _;go_wp2;go_meet;exact⟨_,rfl,HX⟩
   case hb=>
    go_simp
    have g8:New W2 (W2.drew.alloc (.cells #[.slice none 0 0] 26)):=(Upd.refl _ W2).drew.trans (zU _ _ _);have a6:=zqH (kp2 (fun i hi=>g8.block i hi id) d6.out);have j1:(W2.drew.alloc (.cells #[.slice none 0 0] 26)).heap[W2.heap.size]?=some (.cells #[.slice none 0 0] 26 (0,0)):=al_new W2.drew (.cells #[.slice none 0 0] 26);refine hK _ _ (fun _=>a6.out) (fun q3=>?_);clear hK K;refine oneP 15 rfl q3 (fun K hK=>?_);go_simp;obtain⟨kk,b0⟩:=g6.out _ g8;refine b0.mono ?_
    rintro e W4 ⟨R,m7,d7,rfl,l8,e3,l9⟩;have HX:=zqH (box_b a2.out (Upd.refl _ W2).drew e3 l8 l9);have a3:=zqH (zN ((e3.block bx (zqA.1 a6.out.1).1 (Ne.symm a2.out.nd.1)).trans a6.out.1) ((e3.block bd (zqA.1 a6.out.2).1 (Ne.symm a2.out.nd.2.1)).trans a6.out.2));have d9:=(e3.block W2.heap.size (zqA.1 j1).1 (by have:=a2.out.lt.1;omega)).trans j1;clear l8 e3 l9 b0;refine hK _ _ (fun _=>a3.out) (fun q4=>?_);clear hK K g8;refine pureP (b:=?a4) [(16,.tuple #[.agg #[.slice R m7 d7],.int .i64 kk]),(17,.agg #[.slice R m7 d7]),(18,.int .i64 kk)] q4 a3.out (fun w'=>?y4) (fun q5=>?_)
    case y4=>
     iterate 3 (refine RunsM.cons rfl rfl (by go_simp) ?_;simp only[Act.put,gD,gE,gZ,gA,gB,gC])
     exact rfl
    refine oneP 20 rfl q5 (fun K hK=>?_);have c7:=zaa d9 0 _ rfl;have f7:=zad d9 0;go_simp;refine hK _ _ (offM (by kernel_rfl)) (fun q6=>?_);clear hK K c7 f7;refine pureQ (b:=?a5) [(21,.int .i64 kk)] q6 (fun w'=>?y5) (fun q7=>?_)
    case y5=>
     iterate 1 (refine RunsM.cons rfl rfl (by go_simp) ?_;simp only[Act.put,gD,gE,gZ,gA,gB,gC])
     exact rfl
    refine doneM (by kernel_rfl) ?_ _;go_wp2;go_meet;exact⟨_,rfl,HX⟩
  case rest=>
   obtain⟨b7,rfl,HX⟩:=hcut;obtain⟨R,m7,d7,h7,l0,k7,l3,p8,p9⟩:=HX.out;have a1:=zqH h7;have j3:=zqH (i6.out.trans l0);have g9:=zqH (zN h7.xb k7);have j4:=zqH l3;have f5:x1.all+x1.cl d<Gn.B ^ 1000:=Nat.lt_of_le_of_lt (HG.out.frd HD.out HO.out).all_le.1 (zqL HS.out.g (@zbe 20 1000 (by omega)));have f6:=zqH f5;clear h7 l0 k7 l3 p8 p9 HX f5 a2 i6 d6 g6 a8
   go_upto_region 18 with fail
   refine beginM 9 (fun w'=>w'.heap[bx]?=some (.cells (xc bs bd bh l1 x1.n x1.q x1.C.length) 77 (0,0))/\w'.heap[b7]?=some (.cells #[.slice R m7 d7] 26 (0,0))) (by kernel_rfl) (fun q8=>?_);refine takeP (b:=?a6) [(0,zqQ bx 0),(1,zqQ bx 0),(2,zqQ bx 0),(3,zqQ bx 16),(4,.agg #[.slice l1.A l1.ma l1.da]),(5,.agg #[.slice R m7 d7])] q8 g9.out (fun w' hk=>?y6) (fun q9=>?_)
   case y6=>
    have j5:=zaa hk.1 16 (.slice l1.A l1.ma l1.da) rfl;have c7:=zaa hk.2 0 _ rfl
    iterate 6 (refine RunsM.cons rfl rfl (by go_simp) ?_;simp only[Act.put,gD,gE,gZ,gA,gB,gC])
    exact rfl
   refine oneP 6 rfl q9 (fun K hK=>?_);go_simp;have nd:=(Upd.refl (fun _=>False) wc).drew;refine(dadd_c (w:=wc.drew) ((a1.out.new nd).la.lq) (j4.out.upd nd (fun _ _ h=>h)).lq f6.out).mono ?_
   rintro e W4 ⟨Ra,ma,da,rfl,b8,d8⟩;have e7:=zqH (nd.trans d8);have j6:=zqH (b8.or_of (a1.out.new nd));have a3:=zqH (kp2 (fun i hi=>e7.out.block i hi id) g9.out);clear b8 d8 nd;refine hK _ _ (fun _=>a3.out) (fun q10=>?_);refine pureP (b:=?a7) [(7,zqQ bx 0),(8,zqQ bx 16)] q10 a3.out (fun w'=>?y7) (fun q11=>?_)
   case y7=>
    iterate 2 (refine RunsM.cons rfl rfl (by go_simp) ?_;simp only[Act.put,gD,gE,gZ,gA,gB,gC])
    exact rfl
   refine oneP 9 rfl q11 (fun K hK=>?_);have j5:=zaa a3.out.1 16 (.slice l1.A l1.ma l1.da) rfl;have o7:=zad a3.out.1 16;go_simp;clear j5 o7;refine hK _ _ (offM (by kernel_rfl)) (fun q12=>?_);refine doneM (by kernel_rfl) ?_ _;have e0:=zac a3.out.1 (.slice Ra ma da) (i:=16);have e9:Upd (fun b=>b=bx) W4 (W4.setCell ⟨bx,16,none⟩ (.slice Ra ma da)):=Upd.setCell (S:=fun b=>b=bx) W4 _ rfl;obtain⟨l2,b5⟩:∃l2,l2 = { l1 with A:=Ra,ma:=ma,da:=da }:=⟨_,rfl⟩
   have e5:(xc bs bd bh l1 x1.n x1.q x1.C.length).setIfInBounds 16 (.slice Ra ma da)=xc bs bd bh l2 x1.n x1.q x1.C.length:=by
    rw[b5];simp only[xc,xv,List.setIfInBounds_toArray,List.cons_append,List.nil_append,List.set_cons_zero,List.set_cons_succ]
   rw[e5]at e0;obtain⟨W5,l4⟩:=zE (W4.setCell ⟨bx,16,none⟩ (.slice Ra ma da));rw[<-l4]at e0 e9 ⊢;have d0:=a1.out.new e7.out;have e1:RA w0 F' bs bx bd bh S1 { x1 with all:=x1.all+x1.cl d } l2 W5:=d0.setx e9 e0 rfl (by rw[b5]) (by rw[b5];exact d0.lr) (by rw[b5];exact d0.lc) (by rw[b5];exact d0.lg) (by rw[b5];exact d0.le) (by rw[b5];exact j6.out);have j7:=zqH ((j3.out.trans (RS.of_new e7.out)).trans (RS.of_own e9 (fun b h=>.inl h)));have h0:=zqH e1;have d5:=zqH (zN e0 e1.db);obtain⟨A,na,ca,Bk,nb,cb,a9,h5,b9⟩:=dels_at e1.dl HD.out e1.db;have a8:=zqH a9;clear e0 e9 e5 l4 d0 e1 b5 h5 b9 a9 a1 j3 g9 j4 f6 e7 j6 a3
   go_upto_region 19 with fail
   refine beginM 11 (fun w'=>w'.heap[bx]?=some (.cells (xc bs bd bh l2 x1.n x1.q x1.C.length) 77 (0,0))/\w'.heap[bd]?=some (.cells l2.DC 55 (0,0))) (by kernel_rfl) (fun q13=>?_);refine pureP (b:=?a8) [(0,zqQ bx 0),(1,zqQ bx 0),(2,zqQ bx 0),(4,zqQ bx 0),(5,zqQ bx 0),(6,zqQ bx 11),(8,.int .i64 (pi:Int))] q13 d5.out (fun w'=>?y8) (fun q14=>?_)
   case y8=>
    iterate 7 (refine RunsM.cons rfl rfl (by go_simp) ?_;simp only[Act.put,gD,gE,gZ,gA,gB,gC])
    exact rfl
   refine takeP (b:=?a9) [(3,zqQ bs 0)] q14 d5.out (fun w' hk=>?y9) (fun q15=>?_)
   case y9=>
    have c0:=zaa hk.1 0 (.pointer (some ⟨bs,0,none⟩)) rfl
    iterate 1 (refine RunsM.cons rfl rfl (by go_simp) ?_;simp only[Act.put,gD,gE,gZ,gA,gB,gC])
    exact rfl
   refine takeD 7 [10,9,7] (v:=.slice (some ⟨bd,0,none⟩) 4 4) rfl q15 d5.out (fun w' hk=>by have j0:=zaa hk.1 11 (.slice (some ⟨bd,0,none⟩) 4 4) rfl;go_simp) (fun q16=>?_);simp only[Act.put,gD,gE,gZ,gA,gB,gC];refine pureP (b:=?a11) [(9,zqQ bd (pi*3))] q16 d5.out (fun w'=>?y11) (fun q17=>?_)
   case y11=>
    refine RunsM.cons rfl rfl (by go_simp;intro hh;exact absurd hh (by omega)) ?_
    simp only[Act.put,gD,gE,gZ,gA,gB,gC];exact rfl
   refine takeP (b:=?a12) [(10,.agg #[.slice A na ca,.int .u64 (d.per:Int),.slice Bk nb cb])] q17 d5.out (fun w' hk=>?y12) (fun q18=>?_)
   case y12=>
    have c5:=a8.out w' hk.2;refine RunsM.cons rfl rfl (zbm (ty:=55) (x:=.tmp 107) rfl rfl c5) ?_
    simp only[Act.put,gD,gE,gZ,gA,gB,gC];exact rfl
   refine oneP 11 rfl q18 (fun K hK=>?_);go_simp;have nd:=(Upd.refl (fun _=>False) W5).drew;refine(r42 (h0.out.sf.new nd) HB.out HG.out HS.out (List.mem_of_getElem? HD.out) HO.out).mono ?_
   rintro e W6 ⟨rfl,F2,m1,h8⟩;have b6:=zqH ((h0.out.new nd).step h8 m1);have o8:=zqH ((j7.out.trans (RS.of_new nd)).trans (RS.of_step h8));clear m1 h8 nd;refine hK _ _ (offM (by kernel_rfl)) (fun q19=>?_);refine doneM (by kernel_rfl) ?_ _;obtain⟨A2,q0,r1,Bk2,t4,t5,_,g2,g3⟩:=dels_at b6.out.dl HD.out b6.out.db;have j8:=zqH (g3 HO.out).1;have j9:=zqH g2;have k0:=zqH (zN b6.out.xb b6.out.db);have f8:x1.fre+d.sh<Gn.B ^ 1000:=by
    have h1:=(HG.out.frd HD.out HO.out).sum;have h2:x1.fre+d.sh<=1000000*F1.U36:=zT (zT (Nat.le_add_left _ _) (Nat.le_of_eq h1)) (Nat.mul_le_mul_right _ HG.out.n3);exact Nat.lt_of_le_of_lt h2 (zqL (show 1000000*F1.U36<Gn.B ^ 10 by unfold F1.U36;decide) (@zbe 10 1000 (by omega)))
   have k2:=zqH f8;clear g2 g3 f8 h0 j7 d5 a8
   go_upto_region 20 with fail
   refine beginM 21 (fun w'=>w'.heap[bx]?=some (.cells (xc bs bd bh l2 x1.n x1.q x1.C.length) 77 (0,0))/\w'.heap[bd]?=some (.cells l2.DC 55 (0,0))) (by kernel_rfl) (fun q20=>?_);refine pureP (b:=?a13) [(1,zqQ bx 0),(2,zqQ bx 0),(3,zqQ bx 12),(5,.int .i64 (pi:Int))] q20 k0.out (fun w'=>?y13) (fun q21=>?_)
   case y13=>
    iterate 4 (refine RunsM.cons rfl rfl (by go_simp) ?_;simp only[Act.put,gD,gE,gZ,gA,gB,gC])
    exact rfl
   refine takeP (b:=?a14) [(0,zqQ bx 0),(4,.slice (some ⟨bh,0,none⟩) 4 4),(6,zqQ bx 0),(7,zqQ bx 0),(8,zqQ bx 15),(9,.agg #[.slice l2.E l2.me l2.de]),(10,zqQ bx 0),(11,zqQ bx 0),(12,zqQ bx 11),(13,.slice (some ⟨bd,0,none⟩) 4 4),(14,.int .i64 (pi:Int)),(15,zqQ bd (pi*3)),(16,zqQ bd (pi*3)),(17,.agg #[.slice A2 q0 r1])] q21 k0.out (fun w' hk=>?y14) (fun q22=>?_)
   case y14=>
    have i7:=zaa hk.1 12 (.slice (some ⟨bh,0,none⟩) 4 4) rfl;have k3:=zaa hk.1 15 (.slice l2.E l2.me l2.de) rfl;have j0:=zaa hk.1 11 (.slice (some ⟨bd,0,none⟩) 4 4) rfl;have cd:=zaa hk.2 (pi*3) _ j9.out
    iterate 11 (refine RunsM.cons rfl rfl (by go_simp) ?_;simp only[Act.put,gD,gE,gZ,gA,gB,gC])
    refine RunsM.cons rfl rfl (by go_simp;intro hh;exact absurd hh (by omega)) ?_
    simp only[Act.put,gD,gE,gZ,gA,gB,gC]
    iterate 2 (refine RunsM.cons rfl rfl (by go_simp) ?_;simp only[Act.put,gD,gE,gZ,gA,gB,gC])
    exact rfl
   refine oneP 18 rfl q22 (fun K hK=>?_);go_simp;have nd:=(Upd.refl (fun _=>False) W6).drew;refine(dadd_c (w:=W6.drew) ((b6.out.new nd).le.lq) (j8.out.upd nd (fun _ _ h=>h)).lq k2.out).mono ?_
   rintro e W7 ⟨Re,me,de,rfl,m2,m3⟩;have k4:=zqH (nd.trans m3);have o9:=zqH (m2.or_of (b6.out.new nd));have a1:=zqH (b6.out.new k4.out);have e2:=zqH (zN a1.out.xb a1.out.db);clear m2 m3 nd;refine hK _ _ (fun _=>e2.out) (fun q23=>?_);refine pureP (b:=?a15) [(19,zqQ bx 0),(20,zqQ bx 15)] q23 e2.out (fun w'=>?y15) (fun q24=>?_)
   case y15=>
    iterate 2 (refine RunsM.cons rfl rfl (by go_simp) ?_;simp only[Act.put,gD,gE,gZ,gA,gB,gC])
    exact rfl
   refine oneP 21 rfl q24 (fun K hK=>?_);have k3:=zaa e2.out.1 15 (.slice l2.E l2.me l2.de) rfl;have p0:=zad e2.out.1 15;go_simp;clear k3 p0;refine hK _ _ (offM (by kernel_rfl)) (fun q25=>?_);refine pureQ (b:=?a16) [(22,zqQ bh pi)] q25 (fun w'=>?y16) (fun q26=>?_)
   case y16=>
    refine RunsM.cons rfl rfl (by go_simp;intro hh;exact absurd hh (by omega)) ?_
    simp only[Act.put,gD,gE,gZ,gA,gB,gC];exact rfl
   have h3:(W7.setCell ⟨bx,15,none⟩ (.slice Re me de)).heap[bh]?=_:=(zam _ (Ne.symm a1.out.nd.2.2.2.2.1)).trans a1.out.hb;refine oneP 23 rfl q26 (fun K hK=>?_);have ch:=zaa h3 pi (.bool true) (by rw[List.getElem?_toArray,List.getElem?_map,show({ x1 with all:=x1.all+x1.cl d }:F1.Rn).ds[pi]?=_ from HD.out,Option.map_some,HO.out]);have fh:=zad h3 pi;go_simp;clear ch fh;refine hK _ _ (offM (by kernel_rfl)) (fun q27=>?_);refine doneM (by kernel_rfl) ?_ _;go_wp2;refine bodyPost_end (results_none rfl _ _ _) rfl ?_
   have hu:Upd (fun b=>b=bx\/b=bd\/b=bh) W7 ((W7.setCell ⟨bx,15,none⟩ (.slice Re me de)).setCell ⟨bh,pi,none⟩ (.bool false)):=(Upd.setCell (S:=fun b=>b=bx\/b=bd\/b=bh) W7 _ (.inl rfl)).trans (Upd.setCell _ _ (.inr (.inr rfl)));have e8:(xc bs bd bh l2 x1.n x1.q x1.C.length).setIfInBounds 15 (.slice Re me de)=xc bs bd bh { l2 with E:=Re,me:=me,de:=de } x1.n x1.q x1.C.length:=by
    simp only[xc,xv,List.setIfInBounds_toArray,List.cons_append,List.nil_append,List.set_cons_zero,List.set_cons_succ]
   have k5:=zac e2.out.1 (.slice Re me de) (i:=15);rw[e8]at k5;have p1:=(zam (i:=pi) (.bool false) a1.out.nd.2.2.2.2.1).trans k5;have p5:=(zam (i:=pi) (.bool false) a1.out.nd.2.2.2.2.2).trans ((zam (w:=W7) (i:=15) (.slice Re me de) (Ne.symm a1.out.nd.2.2.2.1)).trans a1.out.db);have p6:=zac h3 (.bool false) (i:=pi);have hf:=a1.out.setr (x':=x1.frd pi d) (l':={ l2 with E:=Re,me:=me,de:=de }) hu p1 p5 (p6.trans (by rw[show Value.bool false=.bool ({ d with on:=false }:F1.Del).on from rfl,on_set];rfl)) a1.out.lr a1.out.lc a1.out.lg (o9.out) a1.out.la (dels_off a1.out.dl HD.out);exact⟨rfl,F2,_,hf,(o8.out.trans (RS.of_new k4.out)).trans (RS.of_own hu (fun b h=>h))⟩
theorem does_hold {w0 W:World} {F:Nat->Prop} {bs bx bd bh:Nat} {S S1:F1.Sta} {x x1:F1.Rn} {l:RL} {s:StpV} {d:F1.Del} {D:Option Addr} {m c:Nat} (h:RA w0 F bs bx bd bh S x l W) (hcl:∀Wx,New W Wx->Calls Tryz.prog 87 #[.pointer (some ⟨bx,0,none⟩)] Wx (RunR w0 F bs bx bd bh S1 x1 Wx)) (hb1:F1.Bks S1 x1) (hg1:F1.Gd x1) (hs1:F1.Sm x1)
 (hwh:s.wh=5\/s.wh=6\/s.wh=7) (hat:-9223372036854775808<=s.at_/\s.at_<=9223372036854775807) (hd:x1.ds[pl4 s.at_]?=some d) (ho:d.on=false):
 Calls Tryz.prog 33 #[.pointer (some ⟨bx,0,none⟩),.agg #[.int .i64 s.wh,.int .i64 s.at_,.int .u64 (s.n:Int),.slice D m c]] W (RunR w0 F bs bx bd bh (F1.refer S1 x1.q) (x1.hol (pl4 s.at_) (x1.fre*(1+s.n % 99) / 100)) W):=by
 have k4:=pl4_lt s.at_;have h7:∀Wx:World,_:=fun Wx=>place4_d (w:=Wx) hat.1 hat.2;obtain⟨pi,p5⟩:=zE (pl4 s.at_);simp only[<-p5]at k4 h7 hd ⊢;have k5:=zqH h7;have k6:=zqH hcl;have HB:=zqH hb1;have HG:=zqH hg1;have HS:=zqH hs1;have HD:=zqH hd;have HO:=zqH ho;have H:=zqH h;obtain⟨wh,at_,nn,dd⟩:=s;simp only at hwh;have u9:5<=wh:=by omega
 clear h7 hcl hb1 hg1 hs1 hd hat p5 ho h;go_enter Tryz.func33,Tryz.ntmps33
 go_upto_region 2 with(go_at_call 18;refine(k5.out _).mono ?_;rintro e W2 ⟨rfl,rfl⟩)
 go_upto_region 3 with fail
 obtain⟨WA,g6⟩:=zE (W.alloc (.cells #[.int .i64 wh,.int .i64 at_,.int .u64 (nn:Int),.slice D m c] 48));rw[<-g6];have hn:New W WA:=by rw[g6];exact zU _ _ _
 have f8:=zX W (.cells #[.int .i64 wh,.int .i64 at_,.int .u64 (nn:Int),.slice D m c] 48);rw[<-g6]at f8;obtain⟨bA,p6⟩:=zE W.heap.size;rw[<-p6]at f8 ⊢;have h8:=zqH f8;have k8:=zqH hn;have l0:=zqH (show ¬(F bA\/bA=bs\/bA=bx\/bA=bd\/bA=bh) from fun hh=>by have hl:=H.out.lt;exact hh.elim (fun hh=>by have:=(H.out.sf.lt hh).1;omega) (fun hh=>by omega));clear g6 hn f8 p6 k5
 go_upto_if 57 with fail
 go_cut [57] (fun s57 wx=>s57=.bool true/\wx=WA)
 case first=>
  rcases hwh with rfl|rfl|rfl
  all_goals
   go_wp2
   go_meet
   exact⟨by simp,rfl⟩
 case rest=>
  obtain⟨rfl,j1⟩:=hcut;replace j1:=j1.symm;subst j1;have s0:=k6.out _ k8.out;clear k6
  go_upto_if 69 with(go_at_call 87;refine s0.mono ?_;rintro e W2 ⟨rfl,F',l1,g8,j7⟩;have a7:=zqH g8;have l4:=zqH ((RS.of_new k8.out).trans j7);have l5:=zaa g8.xb 12 (.slice (some ⟨bh,0,none⟩) 4 4) rfl;have ch:W2.cell? ⟨bh,pi,none⟩=some (.bool false):=zaa g8.hb pi _ (by rw[List.getElem?_toArray,List.getElem?_map,HD.out,Option.map_some,HO.out]);have l6:=zqH ((j7.upd.block bA (zqA.1 h8.out).1 (l0.out)).trans h8.out);clear g8 j7)
  go_upto_region 21 with fail
  obtain⟨n,hn⟩:=zE (1+nn % 99);have h9:1+(nn:Int) % 99=(n:Int):=by rw[hn];omega
  have e0:n<=99:=by have:=Nat.mod_lt nn (show 0<99 by decide);omega
  have i0:x1.fre<=1000000*10 ^ 36:=by
   have h1:=HG.out.sum;have h2:x1.fre<=x1.n0*F1.U36:=by omega
   exact zT h2 (Nat.mul_le_mul_right _ HG.out.n3)
  have hb1:x1.fre*n<Gn.B ^ 1000:=Nat.lt_of_le_of_lt (Nat.mul_le_mul i0 e0) (zqL (show 1000000*10 ^ 36*99<Gn.B ^ 10 by decide) (@zbe 10 1000 (by omega)));have l7:x1.fre*n / 100<=x1.fre:=by
   refine Nat.div_le_of_le_mul ?_
   rw[Nat.mul_comm 100];exact Nat.mul_le_mul_left _ (by omega)
  have WT:(nn:Int).tmod 99=(nn:Int) % 99:=Int.tmod_eq_emod_of_nonneg (by omega);have v1:IntKind.u64.wrap (1+(nn:Int) % 99)=1+(nn:Int) % 99:=by rw[h9,IntKind.wrap_u64];omega
  have l8:=zqH h9;have l9:=zqH e0;have s8:=zqH i0;have m0:=zqH hb1;have t1:=zqH l7;have t2:=zqH hn;clear h9 e0 i0 hb1 l7 hn;obtain⟨V,hV⟩:=zE (xv l1 x1.n x1.q);have g9:∀w':World,w'.heap[bx]?=some (.cells (xc bs bd bh l1 x1.n x1.q x1.C.length) 77 (0,0))->w'.rangeAt bx 1 (xv l1 x1.n x1.q):=fun w' hk j v hv=>zaa hk (1+j) v (xv_at _ _ _ _ _ _ _ j v hv);have m1:∀w':World,w'.heap[bx]?=some (.cells (xc bs bd bh l1 x1.n x1.q x1.C.length) 77 (0,0)) → (Instr.loadAt 28 (.pointer (some ⟨bx,1,none⟩))).run Tryz.prog w'=.ok (.agg V.toArray) w':=fun w' hk=>by
   rw[hV];exact run_loadAt_mid w' bx 1 28 _ _ (g9 w' hk) Tryz.underlying28 rfl (by kernel_rfl)
  have t3:=zqH m1;have HV:=zqH hV;have e5:=zqH (zN a7.out.xb l6.out);clear hV g9 m1 l5 ch h8 l0
  go_cut [9] (fun s9 wx=>∃b9:Nat,s9=.pointer (some ⟨b9,0,none⟩)/\Hid (Boxed w0 F' bs bx bd bh S1 x1 l1 W2 b9 (x1.fre*n / 100) wx))
  case first=>
   refine beginM 14 (fun w'=>w'.heap[bx]?=some (.cells (xc bs bd bh l1 x1.n x1.q x1.C.length) 77 (0,0))/\w'.heap[bA]?=some (.cells #[.int .i64 wh,.int .i64 at_,.int .u64 (nn:Int),.slice D m c] 48 (0,0))) (by kernel_rfl) (fun q1=>?_);refine takeP (b:=?a1) [(0,zqQ bx 0),(1,zqQ bx 0),(2,zqQ bx 15),(3,.agg #[.slice l1.E l1.me l1.de]),(4,zqQ bA 2),(5,.int .u64 (nn:Int)),(6,.int .u64 ((nn:Int) % 99)),(7,.int .u64 (1+(nn:Int) % 99))] q1 e5.out (fun w' hk=>?y1) (fun q2=>?_)
   case y1=>
    have i1:=zaa hk.1 15 (.slice l1.E l1.me l1.de) rfl;have c2:=zaa hk.2 2 (.int .u64 (nn:Int)) rfl
    iterate 8 (refine RunsM.cons rfl rfl (by go_simp) ?_;simp only[Act.put,gD,gE,gZ,gA,gB,gC])
    exact rfl
   refine twoM 8 13 rfl rfl (by kernel_rfl) q2 (by rfl) (by rfl) (fun K hK=>?ha) (fun K hK=>?hb)
   case ha=>
    go_simp
    have nd:=(Upd.refl (fun _=>False) W2).drew;rw[l8.out];refine(times_c (w:=W2.drew) (t:=n) ((a7.out.new nd).le.lq) (by have:=l9.out;omega) m0.out).mono ?_
    rintro e W3 ⟨R3,m3,d3,rfl,a3,f0⟩;have e6:New W2 W3:=nd.trans f0;have e8:=zqH (kp2 (fun i hi=>e6.block i hi id) e5.out);have e9:=a3.lq;refine hK _ _ (fun _=>e8.out) (fun q3=>?_);clear hK K;refine twoM 9 13 rfl rfl (by kernel_rfl) q3 (by rfl) (by rfl) (fun K hK=>?hc) (fun K hK=>?hd)
    case hc=>
     go_simp
     refine(over_c (w:=W3) (t:=100) e9 (by omega) (by omega)).mono ?_
     rintro e W4 ⟨R4,m4,d4,rfl,f4,a9⟩;have i3:New W2 W4:=e6.trans a9;have a2:=zqH (kp2 (fun i hi=>i3.block i hi id) e5.out);have HX:=zqH (box_a a7.out (i3.mono (fun _ _ e=>e.elim)) (a7.out.sf.new i3) (f4.mono (Q':=NB W2) (fun b _ hb=>zT e6.size hb)));refine hK _ _ (fun _=>a2.out) (fun q4=>?_);clear hK K a3 f4;refine pureP (b:=?a2) [(10,.tuple #[.agg #[.slice R4 m4 d4],.int .i64 0]),(11,.agg #[.slice R4 m4 d4]),(12,.int .i64 0)] q4 a2.out (fun w'=>?y2) (fun q5=>?_)
     case y2=>
      iterate 3 (refine RunsM.cons rfl rfl (by go_simp) ?_;simp only[Act.put,gD,gE,gZ,gA,gB,gC])
      exact rfl
     refine oneP 13 rfl q5 (fun K hK=>?_);go_simp;obtain⟨W5,c6⟩:=zE (W4.alloc (.cells #[.slice none 0 0] 26));have a8:New W4 W5:=(by rw[c6];exact zU _ _ _);rw[<-c6]at HX ⊢;have a5:=zqH (kp2 (fun i hi=>a8.block i hi id) a2.out);have b8:W5.heap[W4.heap.size]?=some (.cells #[.slice none 0 0] 26 (0,0)):=(by rw[c6];exact al_new W4 (.cells #[.slice none 0 0] 26));clear c6;refine hK _ _ (fun _=>a5.out) (fun q6=>?_);clear hK K;refine oneP 14 rfl q6 (fun K hK=>?_);have c7:=zaa b8 0 _ rfl;have f7:=zad b8 0;go_simp;refine hK _ _ (offM (by kernel_rfl)) (fun q7=>?_);clear hK K c7 f7;refine pureQ (b:=?a3) [(15,.int .i64 0)] q7 (fun w'=>?y3) (fun q8=>?_)
     case y3=>
      iterate 1 (refine RunsM.cons rfl rfl (by go_simp) ?_;simp only[Act.put,gD,gE,gZ,gA,gB,gC])
      exact rfl
     refine doneM (by kernel_rfl) ?_ _;go_wp2;go_meet;exact⟨_,rfl,HX⟩
    case hd=>
     go_simp
     have a9:New W3 (W3.alloc (.cells #[.slice none 0 0] 26)):=zU _ _ _;have a2:=zqH (kp2 (fun i hi=>a9.block i hi id) e8.out);have b0:=al_new W3 (.cells #[.slice none 0 0] 26);have e9:=(a3.upd a9 (fun _ _=>id)).lq;refine hK _ _ (fun _=>a2.out) (fun q4=>?_);clear hK K;refine oneP 9 rfl q4 (fun K hK=>?_);go_simp;refine(over_c (w:=W3.alloc (.cells #[.slice none 0 0] 26)) (t:=100) e9 (by omega) (by omega)).mono ?_
     rintro e W5 ⟨R4,m4,d4,rfl,f5,a8⟩;have a5:=zqH (kp2 (fun i hi=>a8.block i hi id) a2.out);have b8:=(a8.block _ (zqA.1 b0).1 id).trans b0;have HX:=zqH (box_b a7.out (e6.mono (fun _ _ e=>e.elim)) (a8.mono (fun _ _ e=>e.elim)) (a7.out.sf.new ((e6.trans a9).trans a8)) f5);refine hK _ _ (fun _=>a5.out) (fun q5=>?_);clear hK K a3 f5;refine pureP (b:=?a4) [(10,.tuple #[.agg #[.slice R4 m4 d4],.int .i64 0]),(11,.agg #[.slice R4 m4 d4]),(12,.int .i64 0)] q5 a5.out (fun w'=>?y4) (fun q6=>?_)
     case y4=>
      iterate 3 (refine RunsM.cons rfl rfl (by go_simp) ?_;simp only[Act.put,gD,gE,gZ,gA,gB,gC])
      exact rfl
     refine oneP 14 rfl q6 (fun K hK=>?_);have c7:=zaa b8 0 _ rfl;have f7:=zad b8 0;go_simp;refine hK _ _ (offM (by kernel_rfl)) (fun q7=>?_);clear hK K c7 f7;refine pureQ (b:=?a5) [(15,.int .i64 0)] q7 (fun w'=>?y5) (fun q8=>?_)
     case y5=>
      iterate 1 (refine RunsM.cons rfl rfl (by go_simp) ?_;simp only[Act.put,gD,gE,gZ,gA,gB,gC])
      exact rfl
     refine doneM (by kernel_rfl) ?_ _;go_wp2;go_meet;exact⟨_,rfl,HX⟩
   case hb=>
    go_simp
    have f0:New W2 (W2.drew.alloc (.cells #[.slice none 0 0] 26)):=(Upd.refl _ W2).drew.trans (zU _ _ _);have e8:=zqH (kp2 (fun i hi=>f0.block i hi id) e5.out);have m5:(W2.drew.alloc (.cells #[.slice none 0 0] 26)).heap[W2.heap.size]?=some (.cells #[.slice none 0 0] 26 (0,0)):=al_new W2.drew (.cells #[.slice none 0 0] 26);refine hK _ _ (fun _=>e8.out) (fun q3=>?_);clear hK K;refine oneP 8 rfl q3 (fun K hK=>?_);go_simp;rw[l8.out];refine(times_c (w:=W2.drew.alloc (.cells #[.slice none 0 0] 26)) (t:=n) ((a7.out.new f0).le.lq) (by have:=l9.out;omega) m0.out).mono ?_
    rintro e W4 ⟨R3,m3,d3,rfl,f4,a9⟩;have a2:=zqH (kp2 (fun i hi=>a9.block i hi id) e8.out);have b0:=(a9.block _ (zqA.1 m5).1 id).trans m5;refine hK _ _ (fun _=>a2.out) (fun q4=>?_);clear hK K;refine oneP 9 rfl q4 (fun K hK=>?_);go_simp;refine(over_c (w:=W4) (t:=100) f4.lq (by omega) (by omega)).mono ?_
    rintro e W5 ⟨R4,m4,d4,rfl,f5,a8⟩;have a5:=zqH (kp2 (fun i hi=>a8.block i hi id) a2.out);have b8:=(a8.block _ (zqA.1 b0).1 id).trans b0;have HX:=zqH (box_b a7.out (Upd.refl _ W2).drew ((a9.trans a8).mono (fun _ _ e=>e.elim)) (a7.out.sf.new ((f0.trans a9).trans a8)) (f5.mono (Q':=NB (W2.drew.alloc (.cells #[.slice none 0 0] 26))) (fun b _ hb=>zT a9.size hb)));refine hK _ _ (fun _=>a5.out) (fun q5=>?_);clear hK K f4 f5;refine pureP (b:=?a6) [(10,.tuple #[.agg #[.slice R4 m4 d4],.int .i64 0]),(11,.agg #[.slice R4 m4 d4]),(12,.int .i64 0)] q5 a5.out (fun w'=>?y6) (fun q6=>?_)
    case y6=>
     iterate 3 (refine RunsM.cons rfl rfl (by go_simp) ?_;simp only[Act.put,gD,gE,gZ,gA,gB,gC])
     exact rfl
    refine oneP 14 rfl q6 (fun K hK=>?_);have c7:=zaa b8 0 _ rfl;have f7:=zad b8 0;go_simp;refine hK _ _ (offM (by kernel_rfl)) (fun q7=>?_);clear hK K c7 f7;refine pureQ (b:=?a7) [(15,.int .i64 0)] q7 (fun w'=>?y7) (fun q8=>?_)
    case y7=>
     iterate 1 (refine RunsM.cons rfl rfl (by go_simp) ?_;simp only[Act.put,gD,gE,gZ,gA,gB,gC])
     exact rfl
    refine doneM (by kernel_rfl) ?_ _;go_wp2;go_meet;exact⟨_,rfl,HX⟩
  case rest=>
   obtain⟨b9,rfl,HX⟩:=hcut;obtain⟨R,m9,d9,j3,p8,k9,j4,j5,u0⟩:=HX.out;obtain⟨z,hz⟩:=zE (x1.fre*n / 100);rw[<-hz]at j4;have i4:=t1.out;rw[<-hz]at i4;have HZ:=zqH hz;have m6:=zqH i4;have m7:=a7.out.sf.off_new j5;have g0:=zqH j3;have m8:=zqH (l4.out.trans p8);have g1:=zqH (zN j3.xb k9);have i5:=zqH j4;have i6:=zqH (zN m7 j5);obtain⟨nd,p9⟩:∃nd:F1.Del,nd=⟨true,z,x1.q,z*(x1.n*F1.U36) / (x1.n0*F1.U36)⟩:=⟨_,rfl⟩
   have e1:=zqH p9;clear j3 p8 k9 j4 u0 HX l4 e5 hz i4 m7 j5 p9
   go_upto_region 22 with fail
   refine beginM 17 (fun w'=>w'.heap[bx]?=some (.cells (xc bs bd bh l1 x1.n x1.q x1.C.length) 77 (0,0))/\w'.heap[b9]?=some (.cells #[.slice R m9 d9] 26 (0,0))) (by kernel_rfl) (fun q9=>?_);refine takeP (b:=?a8) [(0,zqQ bx 0),(1,zqQ bx 0),(2,zqQ bx 11),(3,.slice (some ⟨bd,0,none⟩) 4 4),(4,.int .i64 (pi:Int)),(5,zqQ bx 0),(6,zqQ bx 0),(7,zqQ bx 0),(8,zqQ bs 0),(9,zqQ bx 0),(10,zqQ bx 0),(11,zqQ bx 1),(12,.agg V.toArray),(13,.agg #[.slice R m9 d9]),(14,.agg #[.slice R m9 d9,.int .u64 0,.slice none 0 0])] q9 g1.out (fun w' hk=>?y8) (fun q10=>?_)
   case y8=>
    have c0:=zaa hk.1 0 (.pointer (some ⟨bs,0,none⟩)) rfl;have v4:=zaa hk.1 11 (.slice (some ⟨bd,0,none⟩) 4 4) rfl;have c1:=t3.out w' hk.1;have c9:=zaa hk.2 0 _ rfl
    iterate 12 (refine RunsM.cons rfl rfl (by go_simp) ?_;simp only[Act.put,gD,gE,gZ,gA,gB,gC])
    refine RunsM.cons rfl rfl (zbm (ty:=28) (x:=.tmp 156) rfl rfl c1) ?_
    simp only[Act.put,gD,gE,gZ,gA,gB,gC]
    iterate 2 (refine RunsM.cons rfl rfl (by go_simp) ?_;simp only[Act.put,gD,gE,gZ,gA,gB,gC])
    exact rfl
   refine oneP 15 rfl q10 (fun K hK=>?_);go_simp;have a6:=(Upd.refl (fun _=>False) wc).drew;have o0:=r25 (g0.out.new a6) HB.out HG.out HS.out (i5.out.upd a6 (fun _ _ h=>h)).lq (zT m6.out s8.out);simp only[<-HV.out]at o0;refine o0.mono ?_
   rintro e W4 ⟨Rk,mk,dk,rfl,F2,r4,f6,b0⟩;have i7:=(g0.out.new a6).step f6 r4;have o1:LN (OR F2 bs bx bd bh) W4 R m9 d9 z:=(i5.out.upd a6 (fun _ _ h=>h)).or_step f6;have b0:LN (OR F2 bs bx bd bh) W4 Rk mk dk nd.stk:=by
    rw[e1.out];have v5:=g0.out.lt;exact b0.mono (fun b _ hb=>⟨hb.1,by have:=hb.2;rw[zak]at this;omega,by have:=hb.2;rw[zak]at this;omega,by have:=hb.2;rw[zak]at this;omega⟩)
   have o2:=(f6.block (zqA.1 g1.out.2).1 i6.out.1.1 i6.out.1.2).trans g1.out.2;have a2:=zqH (zN i7.xb o2);have a1:=zqH i7;have i9:=zqH o1;have o3:=zqH b0;have o4:=zqH ((m8.out.trans (RS.of_new a6)).trans (RS.of_step f6));clear r4 o1 b0 o2 i7 a6 f6;refine hK _ _ (fun _=>a2.out) (fun q11=>?_);refine pureP (b:=?a9) [(16,zqQ bd (pi*3))] q11 a2.out (fun w'=>?y9) (fun q12=>?_)
   case y9=>
    refine RunsM.cons rfl rfl (by go_simp;intro hh;exact absurd hh (by omega)) ?_
    simp only[Act.put,gD,gE,gZ,gA,gB,gC];exact rfl
   refine oneP 17 rfl q12 (fun K hK=>?_);have hT:=setd_row (i:=pi) a1.out.db (by have:=a1.out.dl.2.1;omega) (.slice R m9 d9) (.int .u64 (x1.q:Int)) (.slice Rk mk dk);refine wp_store_mid 55 (.tmp 161) (.tmp 160) rfl bd (pi*3) #[.slice R m9 d9,.int .u64 (x1.q:Int),.slice Rk mk dk] rfl rfl hT.1 (by kernel_rfl) (by simp[Value.oneCell']) ?_
   obtain⟨W5,c6⟩:=zE (W4.setCells bd (pi*3) [.slice R m9 d9,.int .u64 (x1.q:Int),.slice Rk mk dk]);rw[show(#[.slice R m9 d9,.int .u64 (x1.q:Int),.slice Rk mk dk]:Array Value).toList=[.slice R m9 d9,.int .u64 (x1.q:Int),.slice Rk mk dk] from rfl,<-c6];rw[<-c6]at hT;have HT:=zqH hT.2;refine hK _ _ (offM (by kernel_rfl)) (fun q13=>?_);clear hK K hT c6;refine doneM (by kernel_rfl) ?_ _;obtain⟨q0,f3⟩:=HT.out;have h0:nd.per=x1.q:=by rw[e1.out]
   have o5:nd.sh=z:=by rw[e1.out]
   have b6:=dels_set (d:=nd) a1.out.dl k4 (by rw[o5];exact i9.out) o3.out;rw[h0]at b6;obtain⟨l2,b7⟩:∃l2:RL,l2 = { l1 with DC:=((l1.DC.setIfInBounds (pi*3) (.slice R m9 d9)).setIfInBounds (pi*3+1) (.int .u64 (x1.q:Int))).setIfInBounds (pi*3+2) (.slice Rk mk dk) }:=⟨_,rfl⟩
   have b6:DelsAt (OR F2 bs bx bd bh) W4 l2.DC (x1.ds.set pi nd):=by rw[b7];exact b6
   have o6:(x1.ds.set pi nd)[pi]?=some nd:=List.getElem?_set_self (List.getElem?_eq_some_iff.1 HD.out).1;have c5:Upd (fun b=>b=bx\/b=bd\/b=bh) W4 W5:=f3.mono (fun _ _ e=>.inr (.inl e));have j0:=a1.out.setr (x':={ x1 with ds:=(x1.ds.set pi nd).set pi { nd with on:=false } }) (l':=l2) c5 (by rw[b7];exact(f3.block _ a1.out.lt.2.1 a1.out.nd.2.2.2.1).trans a1.out.xb) (by rw[b7];exact q0) (by show _=some (Obj.cells (List.toArray (List.map _ ((x1.ds.set pi nd).set pi { nd with on:=false }))) _ _);rw[on_back HD.out HO.out];exact(f3.block _ a1.out.lt.2.2.2 (Ne.symm a1.out.nd.2.2.2.2.2)).trans a1.out.hb) (by rw[b7];exact a1.out.lr) (by rw[b7];exact a1.out.lc) (by rw[b7];exact a1.out.lg) (by rw[b7];exact a1.out.le) (by rw[b7];exact a1.out.la) (dels_off b6 o6);have g2:=zqH j0;have h3:=zqH (b6.imp (w':=W5) (fun _ _ _ _ hl=>hl.or_own c5 (fun _ h=>h)));have o7:=zqH (i9.out.or_own c5 (fun _ h=>h));have o8:=(f3.block _ (zqA.1 a2.out.2).1 (by have:=a7.out.lt;have:=i6.out.2;omega)).trans a2.out.2;have a5:=zqH (zN j0.xb o8);have o9:=zqH (o4.out.trans (RS.of_own c5 (fun _ h=>h)));clear q0 f3 h0 o5 b6 b7 o6 c5 j0 o8 a1 i9 o3 a2 o4 HT g0 m8 g1 i5
   go_upto_region 23 with fail
   refine beginM 12 (fun w'=>w'.heap[bx]?=some (.cells (xc bs bd bh l2 x1.n x1.q x1.C.length) 77 (0,0))/\w'.heap[b9]?=some (.cells #[.slice R m9 d9] 26 (0,0))) (by kernel_rfl) (fun q14=>?_);refine takeP (b:=?a10) [(0,zqQ bx 0),(1,zqQ bx 0),(2,zqQ bx 0),(3,zqQ bx 15),(4,.agg #[.slice l2.E l2.me l2.de]),(5,.agg #[.slice R m9 d9])] q14 a5.out (fun w' hk=>?y10) (fun q15=>?_)
   case y10=>
    have i1:=zaa hk.1 15 (.slice l2.E l2.me l2.de) rfl;have c9:=zaa hk.2 0 _ rfl
    iterate 6 (refine RunsM.cons rfl rfl (by go_simp) ?_;simp only[Act.put,gD,gE,gZ,gA,gB,gC])
    exact rfl
   refine oneP 6 rfl q15 (fun K hK=>?_);go_simp;have a6:=(Upd.refl (fun _=>False) W5).drew;refine(dsub_c (w:=W5.drew) ((g2.out.new a6).le.lq) (o7.out.upd a6 (fun _ _ h=>h)).lq m6.out).mono ?_
   rintro e W6 ⟨Re,me,de,rfl,r5,e0⟩;have d7:=zqH (a6.trans e0);have p0:=zqH (r5.or_of (g2.out.new a6));have d5:=zqH (g2.out.new d7.out);have e2:=zqH (zN d5.out.xb ((d7.out.block _ (zqA.1 a5.out.2).1 id).trans a5.out.2));clear r5 e0 a6;refine hK _ _ (fun _=>e2.out) (fun q16=>?_);refine pureP (b:=?a11) [(7,.tuple #[.agg #[.slice Re me de],.int .i64 0]),(8,.agg #[.slice Re me de]),(9,.int .i64 0),(10,zqQ bx 0),(11,zqQ bx 15)] q16 e2.out (fun w'=>?y11) (fun q17=>?_)
   case y11=>
    iterate 5 (refine RunsM.cons rfl rfl (by go_simp) ?_;simp only[Act.put,gD,gE,gZ,gA,gB,gC])
    exact rfl
   refine oneP 12 rfl q17 (fun K hK=>?_);have i1:=zaa e2.out.1 15 (.slice l2.E l2.me l2.de) rfl;have t4:=zad e2.out.1 15;go_simp;clear i1 t4;refine hK _ _ (offM (by kernel_rfl)) (fun q18=>?_);refine doneM (by kernel_rfl) ?_ _;have g3:=zac e2.out.1 (.slice Re me de) (i:=15);have f2:Upd (fun b=>b=bx) W6 (W6.setCell ⟨bx,15,none⟩ (.slice Re me de)):=Upd.setCell (S:=fun b=>b=bx) W6 _ rfl;obtain⟨l3,a3⟩:∃l3,l3 = { l2 with E:=Re,me:=me,de:=de }:=⟨_,rfl⟩
   have e7:(xc bs bd bh l2 x1.n x1.q x1.C.length).setIfInBounds 15 (.slice Re me de)=xc bs bd bh l3 x1.n x1.q x1.C.length:=by
    rw[a3];simp only[xc,xv,List.setIfInBounds_toArray,List.cons_append,List.nil_append,List.set_cons_zero,List.set_cons_succ]
   rw[e7]at g3;obtain⟨W7,r2⟩:=zE (W6.setCell ⟨bx,15,none⟩ (.slice Re me de));rw[<-r2]at g3 f2 ⊢;have g4:=d5.out.setx (x':={ x1 with ds:=(x1.ds.set pi nd).set pi { nd with on:=false },fre:=x1.fre-z }) (l':=l3) f2 g3 rfl (by rw[a3]) (by rw[a3];exact d5.out.lr) (by rw[a3];exact d5.out.lc) (by rw[a3];exact d5.out.lg) (by rw[a3];exact p0.out) (by rw[a3];exact d5.out.la);have b5:=zqH g4;have p1:DelsAt (OR F2 bs bx bd bh) W7 l3.DC (x1.ds.set pi nd):=by
    rw[a3];exact(h3.out.imp (w':=W6) (fun _ _ _ _ hl=>hl.or_own d7.out (fun _ h=>h.elim))).imp (fun _ _ _ _ hl=>hl.or_own f2 (fun _ h=>.inl h))
   have t5:=zqH p1;have t6:=zqH ((o9.out.trans (RS.of_new d7.out)).trans (RS.of_own f2 (fun _ h=>.inl h)));have l5:=zaa g4.xb 12 (.slice (some ⟨bh,0,none⟩) 4 4) rfl;have g5:W7.heap[bh]?=some (.cells ((x1.ds.map fun d=>Value.bool d.on).toArray) 4 (0,0)):=by
    have:=g4.hb;rw[on_back HD.out HO.out]at this;exact this
   have ch:=zaa g5 pi (.bool false) (by rw[List.getElem?_toArray,List.getElem?_map,HD.out,Option.map_some,HO.out]);have fh:=zad g5 pi;have t7:=zqH g5;clear g3 f2 e7 r2 g4 a3 p1 g5 g2 d5 a5 e2 p0 h3 o7 o9;go_wp2;refine bodyPost_end (results_none rfl _ _ _) rfl ?_
   have hu:Upd (fun b=>b=bx\/b=bd\/b=bh) W7 (W7.setCell ⟨bh,pi,none⟩ (.bool true)):=Upd.setCell (S:=fun b=>b=bx\/b=bd\/b=bh) W7 _ (.inr (.inr rfl));have t8:=zac t7.out (.bool true) (i:=pi);have hf:=b5.out.setr (x':=x1.hol pi z) (l':=l3) hu ((zam (i:=pi) (.bool true) b5.out.nd.2.2.2.2.1).trans b5.out.xb) ((zam (i:=pi) (.bool true) b5.out.nd.2.2.2.2.2).trans b5.out.db) (t8.trans (by rw[show Value.bool true=.bool nd.on by rw[e1.out],on_set,e1.out];rfl)) b5.out.lr b5.out.lc b5.out.lg b5.out.le b5.out.la (by have:=t5.out;rw[e1.out]at this;exact this);rw[<-t2.out,<-HZ.out];exact⟨rfl,F2,l3,hf,t6.out.trans (RS.of_own hu (fun _ h=>h))⟩
end Gz
end
section
open Go.Proofs.YtbhnjkegkadodaaGreatDoor
namespace Gz
open Go Go.RowKit Go.Proofs Gl
def DoesR (w0:World) (F:Nat->Prop) (bs bx bd bh:Nat) (x:F1.Rn) (W:World) (e:Ending) (W':World):Prop:=e=.returned (.tuple #[])/\∃F' l' S' x',RA w0 F' bs bx bd bh S' x' l' W'/\RS F F' bs bx bd bh W W'/\F1.Bks S' x'/\F1.Gd x'/\x'.q<=x.q+1/\x'.C.length<=x.C.length+1/\x'.giv<=x.giv+10 ^ 39/\x'.ds.length=4
theorem RunR.does {w0 W W':World} {F:Nat->Prop} {bs bx bd bh:Nat} {S':F1.Sta} {x x':F1.Rn} {e:Ending} (h:RunR w0 F bs bx bd bh S' x' W e W') (hb:F1.Bks S' x') (hg:F1.Gd x') (h1:x'.q<=x.q+1) (h2:x'.C.length<=x.C.length+1) (h3:x'.giv<=x.giv+10 ^ 39) (h4:x'.ds.length=4):DoesR w0 F bs bx bd bh x W e W':=
 let ⟨he,F',l',hr,hs⟩:=h
 ⟨he,F',l',S',x',hr,hs,hb,hg,h1,h2,h3,h4⟩
theorem does_c {w0 W:World} {F:Nat->Prop} {bs bx bd bh:Nat} {S:F1.Sta} {x:F1.Rn} {l:RL} {s:StpV} {D:Option Addr} {m c:Nat} (h:RA w0 F bs bx bd bh S x l W) (hb:F1.Bks S x) (hg:F1.Gd x) (hs:F1.Sm x) (hq1:x.q+1<=1000)
 (hwh:-9223372036854775808<=s.wh/\s.wh<=9223372036854775807) (hat:-9223372036854775808<=s.at_/\s.at_<=9223372036854775807) (hn:s.n<18446744073709551616) (hd:LQ (fun b=>b<W.heap.size) W D m c s.d):
 Calls Tryz.prog 33 #[.pointer (some ⟨bx,0,none⟩),.agg #[.int .i64 s.wh,.int .i64 s.at_,.int .u64 (s.n:Int),.slice D m c]] W (DoesR w0 F bs bx bd bh x W):=by
 have a9:=fun Wx (hn:New W Wx)=>rclose_c (h.new hn) hb hg hs;have a2:=hb.clo hg;have a1:=hg.clo;have a6:F1.Sm x.clo:=⟨hq1,hs.c,hs.g,hs.d⟩
 have b0:=hg.all_le;have a4:∀Wx,New W Wx->Calls Tryz.prog 87 #[.pointer (some ⟨bx,0,none⟩)] Wx (RunR w0 F bs bx bd bh (F1.close S (x.q+1) x.n x.cur) x.clo Wx):=a9;by_cases h0:s.wh=0\/s.wh=1\/s.wh=2
 · refine(does_give h hs.g (Nat.lt_of_le_of_lt b0.2 hs.g) h0 hat hn hd).mono ?_
   intro e W' hr;refine hr.does (hb.giv' _) (hg.giv' _) (Nat.le_succ _) (Nat.le_succ _) ?_ hs.d;show x.giv+s.d % 10 ^ 36*(1+s.n % 1000)<=_;have h1:=Nat.mod_lt s.d (show 0<10 ^ 36 by decide);have h2:=Nat.mod_lt s.n (show 0<1000 by decide);have h3:s.d % 10 ^ 36*(1+s.n % 1000)<=10 ^ 36*1000:=Nat.mul_le_mul (Nat.le_of_lt h1) (by omega);have h4:(10:Nat) ^ 36*1000=10 ^ 39:=by decide
   omega
 by_cases h3:s.wh=3\/s.wh=4
 · exact(does_close h hb hg hs h3 hat).mono fun e W' hr=>hr.does a2 a1 (zR _) (Nat.le_succ _) (Nat.le_add_right _ _) hs.d
 by_cases h5:s.wh=5\/s.wh=6\/s.wh=7
 · obtain⟨d,a3⟩:∃d,x.clo.ds[pl4 s.at_]?=some d:=⟨_,zG (by have:=pl4_lt s.at_;have:x.clo.ds.length=4:=hs.d;omega)⟩
   by_cases ho:d.on=true
   · exact(does_free h a4 a2 a1 a6 h5 hat a3 ho).mono fun e W' hr=>hr.does (a2.frd a1 a3 ho) (a1.frd a3 ho) (zR _) (Nat.le_succ _) (Nat.le_add_right _ _) (by show(x.clo.ds.set _ _).length=4;rw[List.length_set];exact hs.d)
   · have ho:d.on=false:=(by simpa using ho);have hz:x.clo.fre*(1+s.n % 99) / 100<=x.clo.fre:=by
      refine Nat.div_le_of_le_mul ?_
      rw[Nat.mul_comm 100];exact Nat.mul_le_mul_left _ (by have:=Nat.mod_lt s.n (show 0<99 by decide);omega)
     exact(does_hold h a4 a2 a1 a6 h5 hat a3 ho).mono fun e W' hr=>hr.does (a2.hol a3 ho) (a1.hol a3 ho hz) (zR _) (Nat.le_succ _) (Nat.le_add_right _ _) (by show(x.clo.ds.set _ _).length=4;rw[List.length_set];exact hs.d)
 by_cases h8:s.wh=8
 · by_cases a7:1<x.n
   · have hc:∀c ∈ x.clo.C,c.1<x.clo.q:=fun c hc=>Nat.lt_succ_of_le (hg.ct c hc).1;have hq:∀d ∈ x.clo.ds,d.on=true->d.per<x.clo.q:=fun d hd ho=>Nat.lt_succ_of_le (hg.per d hd ho);have ha:1+s.n % (x.clo.n-1)<=x.clo.n:=by
      have a7:1<x.clo.n:=a7;have:=Nat.mod_lt s.n (show 0<x.clo.n-1 by omega);omega
     exact(does_cut h a4 a2 a1 a6 h8 hat rfl a7).mono fun e W' hr=>hr.does (a2.ctt hc) (a1.ctt (by omega) ha hq hc) (zR _) (by show(x.C ++ [_]).length<=_;rw[List.length_append];exact zR _) (Nat.le_add_right _ _) hs.d
   · exact(does_cut0 h h8 hat (by omega)).mono fun e W' hr=>hr.does hb hg (Nat.le_succ _) (Nat.le_succ _) (Nat.le_add_right _ _) hs.d
 · exact(does_look h (by omega) hwh hat).mono fun e W' hr=>hr.does hb hg (Nat.le_succ _) (Nat.le_succ _) (Nat.le_add_right _ _) hs.d
end Gz
end
section
open Go.Proofs.YtbhnjkegkadodaaGreatDoor
namespace Gz
open Go Go.Proofs Go.ChangeShapes Go.WideShapes Go.ChangeAt Go.RowKit Go.Joins Go.Deep Gl
theorem cells3:Tryz.prog.cellsOf 3=1:=by kernel_rfl
theorem cells48:Tryz.prog.cellsOf 48=4:=by kernel_rfl
end Gz
end
section
open Go.Proofs.YtbhnjkegkadodaaGreatDoor
namespace Gz
open Go Go.Proofs Go.ChangeShapes Go.WideShapes Go.ChangeAt Go.RowKit Go.Joins Go.Deep Gl
section
variable {H:Type} {enc:TypeId × Value->H} {w:World} {base:Nat} {held:Bool}
theorem open_step {fuel:Nat} {cs:List Value} {x:DataW H × List MemPlace} (h:DataW.trod enc Tryz.prog w base (fun _=>true) held fuel 48 cs=some x):
 ∃(wh at_ n:Int) (A:Option Addr) (m c:Nat),cs=[.int .i64 wh,.int .i64 at_,.int .u64 n,.slice A m c]/\(-9223372036854775808<=wh/\wh<=9223372036854775807)/\(-9223372036854775808<=at_/\at_<=9223372036854775807)/\(0<=n/\n<=18446744073709551615)/\(m<=1000->∃g,LQ (fun x=>x<w.heap.size) w A m c g):=by
 obtain⟨xs,n,_,_,hl,a3,hf⟩:=DataW.trod_struct Tryz.underlying48 h;rw[cells48]at hl
 match cs,hl,xs,a3 with
 | [c0,c1,c2,c3],_,[y0,y1,y2,y3],_=>
   have f0:=hf 0 _ rfl;have f1:=hf 1 _ rfl;have f2:=hf 2 _ rfl;have f3:=hf 3 _ rfl;simp only[cells3,cells22,cells26,List.drop_zero,List.drop_succ_cons,List.take_succ_cons,List.take_zero,List.getElem?_cons_zero,List.getElem?_cons_succ]at f0 f1 f2 f3;obtain⟨a0,e0,_,w0⟩:=DataW.trod_int Tryz.underlying3 f0;obtain⟨a1,e1,_,w1⟩:=DataW.trod_int Tryz.underlying3 f1;obtain⟨a2,e2,_,w2⟩:=DataW.trod_int Tryz.underlying22 f2;obtain⟨A,m,c,e3,h3⟩:=open_num f3;cases e0;cases e1;cases e2;cases e3;exact⟨a0,a1,a2,A,m,c,rfl,bounds_i64 w0,bounds_i64 w1,bounds_u64 w2,h3⟩
theorem open_steps {fuel:Nat} {cs:List Value} {x:DataW H × List MemPlace} (h:DataW.trod enc Tryz.prog w base (fun _=>true) held fuel 29 cs=some x):
 ∃(A:Option Addr) (n c:Nat),cs=[.slice A n c]/\Stp w A n:=by
 rcases DataW.trod_slice Tryz.underlying29 h with⟨rfl,_⟩|⟨a,len,cap,elems,rest,n,_,rfl,_,_,hle,hmax,hlen,hel,_,_⟩
 · exact⟨none,0,0,rfl,fun j hj=>absurd hj (by omega)⟩
 · have each:∀i,i<len->∃(wh at_ n:Int) (A:Option Addr) (m c:Nat),(∀j v,[Value.int .i64 wh,.int .i64 at_,.int .u64 n,.slice A m c][j]?=some v->w.cell? ((a.add (i*4)).add j)=some v)/\(-9223372036854775808<=wh/\wh<=9223372036854775807)/\(-9223372036854775808<=at_/\at_<=9223372036854775807)/\(0<=n/\n<=18446744073709551615)/\(m<=1000->∃g,LQ (fun x=>x<w.heap.size) w A m c g):=fun i hi=>by
    have h1:=hel i hi;rw[cells48,zG (by omega),Option.bind_eq_some_iff]at h1;obtain⟨b0,h2,h3⟩:=h1;obtain⟨wh,at_,n,A,m,c,rfl,hw,ha,hn,h4⟩:=open_step h3;refine⟨wh,at_,n,A,m,c,fun j v hv=>?_,hw,ha,hn,h4⟩;have hj:j<4:=(by have:=(List.getElem?_eq_some_iff.1 hv).1;simpa using this);have h5:=(World.cells?_some h2).2.2 j hj;rw[h5,hv]
   refine⟨some a,len,cap,rfl,fun j hj=>?_⟩;obtain⟨b,off,a4⟩:=a;obtain⟨_,_,_,_,_,_,h0,_⟩:=each 0 (by omega);have a2:a4=none:=by simpa[Addr.add] using World.cell?_spot (h0 0 _ rfl)
   subst a2;obtain⟨wh,at_,n,A,m,c,h1,hw,ha,hn,h2⟩:=each j hj;obtain⟨k,rfl⟩:=Int.eq_ofNat_of_zero_le hn.1;simp only[addr_add_add,add_plain]at h1;by_cases hm:m<=6
   · obtain⟨g,hg⟩:=h2 (by omega);exact⟨⟨wh,at_,k,g⟩,A,m,c,⟨b,off,rfl,h1 0 _ rfl,h1 1 _ rfl,h1 2 _ rfl,h1 3 _ rfl,hw,ha,by show k<_;omega⟩,fun _=>hg⟩
   · exact⟨⟨wh,at_,k,0⟩,A,m,c,⟨b,off,rfl,h1 0 _ rfl,h1 1 _ rfl,h1 2 _ rfl,h1 3 _ rfl,hw,ha,by show k<_;omega⟩,fun h=>absurd h hm⟩
end
end Gz
end

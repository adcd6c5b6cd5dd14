/- Part of the proof. -/
import Derived.Test.YtbhnjkegkadodaaGreatDoorG43
set_option linter.all false
set_option maxRecDepth 100000
set_option maxHeartbeats 8000000
section
open Go.Proofs.YtbhnjkegkadodaaGreatDoor
namespace Gz
open Go Go.RowKit Go.Proofs Gl
open List renaming getElem_toArray->gD,getElem_cons_succ->gE,getElem_cons_zero->gZ
theorem sums_c {w:World} {tok n1 c1:Nat} {A1:Option Addr} (htok:tok<18446744073709551616) (hl:Laid3 w) (hg:Stp w A1 n1):
 Calls Tryz.prog 6 #[.int .u64 (tok:Int),.slice A1 n1 c1] w fun e w'=>e=.returned (.bool true)/\New w w':=by
 have j4:=zqH (known_c hl);have HG:=zqH hg;have j5:=zqH htok;clear hl hg htok;go_enter Tryz.func6,Tryz.ntmps6
 go_upto_region 3 with(go_at_call 9;refine j4.out.mono ?_;rintro e W1 ⟨rfl,o4⟩;have f5:=zqH o4;clear j4 o4)
 have g9:=HG.out.new f5.out
 go_upto_if 15 with(go_at_call 10;refine(light_c g9).mono ?_;rintro e W2 ⟨⟨b,rfl,hb⟩,rfl⟩)
 cases b
 case false=>
  clear hb g9;go_wp2;go_ret;exact⟨rfl,f5.out⟩
 case true=>
  obtain⟨hn,L,hL,l9⟩:=hb.1 rfl;have j6:=zqH l9;have HL:=zqH hL;clear hb g9 l9 hL
  go_upto_region 6 with(go_at_call 32;refine(begun_c j5.out).mono ?_;rintro e W4 ⟨bs,bx,bd,bh,F,R,m,d,E,me,de,rfl,o5⟩;have h0:=zqH (runAt0 o5);clear o5)
  obtain⟨w1,m0⟩:=zE W2;rw[<-m0]at h0 f5 j6;clear m0;go_wp2
  go_loopw [6] (fun t6 wr=>∃j:Nat,j<=n1/\t6=.int .i64 (j:Int)/\Hid (∃F l S x,RunAt w1 bs bx bd bh j F l S x wr)) (fun t6 _=>n1-(intOf t6).toNat)
  case atStart=>exact⟨0,by omega,rfl,zqH ⟨F,_,_,_,h0.out⟩⟩
  case round=>
   obtain⟨j,hj,rfl,HI⟩:=hrel;obtain⟨w6,w7,w8,w9,hr⟩:=HI.out;have HR:=zqH hr;clear HI hr h0;by_cases hjn:j<n1
   case neg=>
    go_wp2
    go_ret
    exact⟨rfl,f5.out.trans HR.out.ra.nw⟩
   case pos=>
    obtain⟨s,hs⟩:∃s,L[j]?=some s:=⟨_,zG (by have:=HL.out;omega)⟩
    obtain⟨D,md,cd,d5,r9,m1⟩:=j6.out j s hs;obtain⟨b,off,rfl,m2⟩:∃b off,A1=some ⟨b,off,none⟩/\True:=(by obtain⟨b,off,e,_⟩:=d5;exact⟨b,off,e,trivial⟩);have j7:=stp_range (d5.new HR.out.ra.nw);have j8:=does_c HR.out.ra HR.out.bk HR.out.gd (HR.out.sm (by omega)) (by have:=HR.out.q;omega) (s:=s) (D:=D) (m:=md) (c:=cd) (StpAt.zqb d5).1 (StpAt.zqb d5).2.1 (StpAt.zqb d5).2.2 (lq_lt m1 HR.out.ra.nw);have j9:=zqH j8;have k0:=zqH j7;clear j8 j7 d5 m1 r9 hs m2
    go_upto_region 10 with(first|(refine wpList_load_mid rfl 48 (.tmp 27) rfl b (off+j*4) rfl [.int .i64 s.wh,.int .i64 s.at_,.int .u64 (s.n:Int),.slice D md cd] _ k0.out Tryz.underlying48 rfl (by kernel_rfl) ?_)|(go_at_call 33;refine j9.out.mono ?_;rintro e W2 hd5;obtain⟨rfl,F',l1,S1,x1,m3⟩:=HR.out.ofDoes hd5;have a9:=zqH m3;clear hd5 m3 j9))
    have a1:=zqH a9.out.ra;have a6:=zqH a1.out.xb;have k2:=a9.out.gd.sums;have e1:x1.giv<Gn.B ^ 20:=(a9.out.sm (by omega)).g;have e2:=@zbe 20 1000 (by omega);have k3:=zqH k2;have k4:=zqH e1;have k5:=zqH e2;have k8:x1.all+x1.cur<Gn.B ^ 1000:=Nat.lt_of_le_of_lt (by omega) (zqL e1 e2);have h3:=zqH k8;clear k0 k2 e1 e2 k8
    go_cut [7] (fun s7 wx=>∃b7:Nat,s7=.pointer (some ⟨b7,0,none⟩)/\Hid (Boxed w1 F' bs bx bd bh S1 x1 l1 W2 b7 (x1.all+x1.cur) wx))
    case first=>
     refine beginM 11 (fun w'=>w'.heap[bx]?=some (.cells (xc bs bd bh l1 x1.n x1.q x1.C.length) 77 (0,0))) (by kernel_rfl) (fun q1=>?_);refine takeP (b:=?a1) [(0,zqQ bx 0),(1,zqQ bx 0),(2,zqQ bx 16),(3,.agg #[.slice l1.A l1.ma l1.da]),(4,zqQ bx 0),(5,zqQ bx 0),(6,zqQ bx 1),(7,zqQ bx 8),(8,.agg #[.slice l1.C l1.mc l1.dc])] q1 a6.out (fun w' hk=>?y1) (fun q2=>?_)
     case y1=>
      have v1:=zaa hk 16 (.slice l1.A l1.ma l1.da) rfl;have c8:=zaa hk 8 (.slice l1.C l1.mc l1.dc) rfl
      iterate 9 (refine RunsM.cons rfl rfl (by go_simp) ?_;simp only[Act.put,gD,gE,gZ,gA,gB,gC])
      exact rfl
     refine twoM 9 10 rfl rfl (by kernel_rfl) q2 (by rfl) (by rfl) (fun K hK=>?ha) (fun K hK=>?hb)
     case ha=>
      go_simp
      have nd:=(Upd.refl (fun _=>False) W2).drew;refine(dadd_c (w:=W2.drew) ((a1.out.new nd).la.lq) ((a1.out.new nd).lc.lq) h3.out).mono ?_
      rintro e W3 ⟨R,m7,d7,rfl,f0,a8⟩;have h4:New W2 W3:=nd.trans a8;have HX:=zqH (box_a a1.out (h4.mono (fun _ _ e=>e.elim)) (a1.out.sf.new h4) f0);have a4:=zqH ((h4.block bx (zqA.1 a6.out).1 id).trans a6.out);clear f0;refine hK _ _ (fun _=>a4.out) (fun q3=>?_);clear hK K;refine oneP 10 rfl q3 (fun K hK=>?_);go_simp;obtain⟨W4,b5⟩:=zE (W3.alloc (.cells #[.slice none 0 0] 26));have b0:New W3 W4:=(by rw[b5];exact zU _ _ _);rw[<-b5]at HX ⊢;have b6:=zqH ((b0.block bx (zqA.1 a4.out).1 id).trans a4.out);have a7:W4.heap[W3.heap.size]?=some (.cells #[.slice none 0 0] 26 (0,0)):=(by rw[b5];exact al_new W3 (.cells #[.slice none 0 0] 26));clear b5;refine hK _ _ (fun _=>b6.out) (fun q4=>?_);clear hK K b0;refine oneP 11 rfl q4 (fun K hK=>?_);have c7:=zaa a7 0 _ rfl;have f7:=zad a7 0;go_simp;refine hK _ _ (offM (by kernel_rfl)) (fun q5=>?_);clear hK K c7 f7;refine doneM (by kernel_rfl) ?_ _;go_wp2;go_meet;exact⟨_,rfl,HX⟩
     case hb=>
      go_simp
      have a8:New W2 (W2.drew.alloc (.cells #[.slice none 0 0] 26)):=(Upd.refl _ W2).drew.trans (zU _ _ _);have a4:=zqH ((a8.block bx (zqA.1 a6.out).1 id).trans a6.out);have e3:(W2.drew.alloc (.cells #[.slice none 0 0] 26)).heap[W2.heap.size]?=some (.cells #[.slice none 0 0] 26 (0,0)):=al_new W2.drew (.cells #[.slice none 0 0] 26);refine hK _ _ (fun _=>a4.out) (fun q3=>?_);clear hK K;refine oneP 9 rfl q3 (fun K hK=>?_);go_simp;refine(dadd_c (w:=W2.drew.alloc (.cells #[.slice none 0 0] 26)) ((a1.out.new a8).la.lq) ((a1.out.new a8).lc.lq) h3.out).mono ?_
      rintro e W4 ⟨R,m7,d7,rfl,f2,b0⟩;have b6:=zqH ((b0.block bx (zqA.1 a4.out).1 id).trans a4.out);have a7:=(b0.block _ (zqA.1 e3).1 id).trans e3;have HX:=zqH (box_b a1.out (Upd.refl _ W2).drew (b0.mono (fun _ _ e=>e.elim)) (a1.out.sf.new (a8.trans b0)) f2);clear f2;refine hK _ _ (fun _=>b6.out) (fun q4=>?_);clear hK K a8;refine oneP 11 rfl q4 (fun K hK=>?_);have c7:=zaa a7 0 _ rfl;have f7:=zad a7 0;go_simp;refine hK _ _ (offM (by kernel_rfl)) (fun q5=>?_);clear hK K c7 f7;refine doneM (by kernel_rfl) ?_ _;go_wp2;go_meet;exact⟨_,rfl,HX⟩
    case rest=>
     obtain⟨b7,rfl,i9⟩:=hcut;clear a6 h3;obtain⟨W5,m4⟩:=zE W2;rw[<-m4]at i9 a9 a1;clear m4;go_wp2
     go_loopw [8] (fun t8 wr=>∃k:Nat,k<=4/\t8=.int .i64 (k:Int)/\Hid (Boxed w1 F' bs bx bd bh S1 x1 l1 W5 b7 (x1.all+x1.cur+F1.tot (fun d=>if d.on then x1.cl d else 0) (x1.ds.take k)) wr)) (fun t8 _=>4-(intOf t8).toNat)
     case atStart=>exact⟨0,by omega,rfl,by simpa[F1.tot] using i9⟩
     case round=>
      obtain⟨pi,u3,rfl,HK⟩:=hrel;obtain⟨R,m7,d7,m5,s0,k7,e5,m8,o0⟩:=HK.out;obtain⟨W2,rfl⟩:∃W2,W2=wr:=⟨wr,rfl⟩
      have g3:=a1;clear a1 HK i9;have a1:=zqH m5;have f8:=zqH k7;have h6:=zqH e5;have h7:=zqH m8;have e4:=zqH o0;clear m5 s0 k7 e5 m8 o0;by_cases hpi:pi<4
      case pos=>
       obtain⟨d,hd⟩:∃d,x1.ds[pi]?=some d:=⟨_,zG (by have:=a9.out.d;omega)⟩
       have l0:=F1.tot_take (fun d=>if d.on then x1.cl d else 0) hd;have h8:=zqH l0;have HD:=zqH hd;have p9:=zaa a1.out.xb 12 (.slice (some ⟨bh,0,none⟩) 4 4) rfl;obtain⟨on,j0⟩:=zE d.on;have ch:W2.cell? ⟨bh,pi,none⟩=some (.bool on):=zaa a1.out.hb pi _ (by rw[List.getElem?_toArray,List.getElem?_map,HD.out,Option.map_some,j0]);have l2:=zqH j0;clear l0 hd j0;cases on
       case false=>
        go_wp2
        refine⟨⟨pi+1,by omega,by congr 1,zqH ?_⟩,by simp[intOf];omega⟩;rw[h8.out,<-l2.out];exact⟨R,m7,d7,a1.out,⟨fun b hb=>.inl hb,e4.out.mono (fun _ _ e=>.inr (.inl e))⟩,f8.out,h6.out,h7.out,e4.out⟩
       case true=>
        have HO:=zqH l2.out.symm;have HB:=zqH a9.out.bk;have HG:=zqH a9.out.gd;have HS:=zqH (a9.out.sm (by omega))
        go_upto_region 15 with fail
        obtain⟨V,hV⟩:=zE (xv l1 x1.n x1.q);have g4:∀w':World,w'.heap[bx]?=some (.cells (xc bs bd bh l1 x1.n x1.q x1.C.length) 77 (0,0))->w'.rangeAt bx 1 (xv l1 x1.n x1.q):=fun w' hk j v hv=>zaa hk (1+j) v (xv_at _ _ _ _ _ _ _ j v hv);have l3:∀w':World,w'.heap[bx]?=some (.cells (xc bs bd bh l1 x1.n x1.q x1.C.length) 77 (0,0)) → (Instr.loadAt 28 (.pointer (some ⟨bx,1,none⟩))).run Tryz.prog w'=.ok (.agg V.toArray) w':=fun w' hk=>by
         rw[hV];exact run_loadAt_mid w' bx 1 28 _ _ (g4 w' hk) Tryz.underlying28 rfl (by kernel_rfl)
        have l4:=zqH l3;have HV:=zqH hV;obtain⟨A,na,ca,Bk,nb,cb,g8,s8,f9⟩:=dels_at a1.out.dl HD.out a1.out.db;have f9:=f9 HO.out;have i0:∀W',New W2 W'->_:=fun W' hn=>r19 (A:=A) (n:=na) (c:=ca) (a1.out.new hn) HB.out HG.out HS.out (List.mem_of_getElem? HD.out) HO.out (f9.2.or_own hn (fun _ h=>h.elim)).lq;simp only[<-hV]at i0;have i1:=zqH i0;have g5:=zqH g8;have a6:=zqH (zN a1.out.xb a1.out.db);clear hV g4 l3 g8 s8 f9 i0 p9 ch
        go_cut [9] (fun s9 wx=>∃b9:Nat,s9=.pointer (some ⟨b9,0,none⟩)/\Hid (Boxed w1 F' bs bx bd bh S1 x1 l1 W2 b9 (x1.cl d) wx))
        case first=>
         refine beginM 20 (fun w'=>(w'.heap[bx]?=some (.cells (xc bs bd bh l1 x1.n x1.q x1.C.length) 77 (0,0))/\w'.heap[bd]?=some (.cells l1.DC 55 (0,0)))) (by kernel_rfl) (fun q6=>?_);refine takeP (b:=?a2) [(0,zqQ bx 0),(1,zqQ bx 0),(2,zqQ bx 0),(3,zqQ bs 0),(4,zqQ bx 0),(5,zqQ bx 0),(6,zqQ bx 1),(7,.agg V.toArray),(8,zqQ bx 0),(9,zqQ bx 0),(10,zqQ bx 11),(11,.slice (some ⟨bd,0,none⟩) 4 4),(12,.int .i64 (pi:Int)),(13,zqQ bd (pi*3)),(14,.agg #[.slice A na ca,.int .u64 (d.per:Int),.slice Bk nb cb])] q6 a6.out (fun w' hk=>?y2) (fun q7=>?_)
         case y2=>
          have c0:=zaa hk.1 0 (.pointer (some ⟨bs,0,none⟩)) rfl;have v5:=zaa hk.1 11 (.slice (some ⟨bd,0,none⟩) 4 4) rfl;have c1:=l4.out w' hk.1;have c5:=g5.out w' hk.2
          iterate 7 (refine RunsM.cons rfl rfl (by go_simp) ?_;simp only[Act.put,gD,gE,gZ,gA,gB,gC])
          refine RunsM.cons rfl rfl (zbm (ty:=28) (x:=.tmp 58) rfl rfl c1) ?_
          simp only[Act.put,gD,gE,gZ,gA,gB,gC]
          iterate 5 (refine RunsM.cons rfl rfl (by go_simp) ?_;simp only[Act.put,gD,gE,gZ,gA,gB,gC])
          refine RunsM.cons rfl rfl (by first|(go_simp;done)|(go_simp;intro hh;exact absurd hh (by omega))) ?_
          simp only[Act.put,gD,gE,gZ,gA,gB,gC];refine RunsM.cons rfl rfl (zbm (ty:=55) (x:=.tmp 65) rfl rfl c5) ?_
          simp only[Act.put,gD,gE,gZ,gA,gB,gC];exact rfl
         refine twoM 15 19 rfl rfl (by kernel_rfl) q7 (by rfl) (by rfl) (fun K hK=>?ha) (fun K hK=>?hb)
         case ha=>
          go_simp
          obtain⟨kk,b8⟩:=i1.out W2.drew (Upd.refl _ W2).drew;refine b8.mono ?_
          rintro e W3 ⟨R,m7,d7,rfl,o6,d0,f0⟩;have d0:Upd (fun b=>b=bs) W2 W3:=d0.of_drew;have HX:=zqH (box_a a1.out d0 o6 f0);have a4:=zqH (zN ((d0.block bx a1.out.lt.2.1 (Ne.symm a1.out.nd.1)).trans a6.out.1) ((d0.block bd a1.out.lt.2.2.1 (Ne.symm a1.out.nd.2.1)).trans a6.out.2));clear o6 d0 f0 b8;refine hK _ _ (fun _=>a4.out) (fun q8=>?_);clear hK K;refine pureP (b:=?a3) [(16,.tuple #[.agg #[.slice R m7 d7],.int .i64 kk]),(17,.agg #[.slice R m7 d7]),(18,.int .i64 kk)] q8 a4.out (fun w'=>?y3) (fun q9=>?_)
          case y3=>
           iterate 3 (refine RunsM.cons rfl rfl (by go_simp) ?_;simp only[Act.put,gD,gE,gZ,gA,gB,gC])
           exact rfl
          refine oneP 19 rfl q9 (fun K hK=>?_);go_simp;obtain⟨W4,b5⟩:=zE (W3.alloc (.cells #[.slice none 0 0] 26));have b0:New W3 W4:=(by rw[b5];exact zU _ _ _);rw[<-b5]at HX ⊢;have b6:=zqH (kp2 (fun i hi=>b0.block i hi id) a4.out);have a7:W4.heap[W3.heap.size]?=some (.cells #[.slice none 0 0] 26 (0,0)):=(by rw[b5];exact al_new W3 (.cells #[.slice none 0 0] 26));refine hK _ _ (fun _=>b6.out) (fun q10=>?_);clear hK K b0 b5;refine oneP 20 rfl q10 (fun K hK=>?_);have c7:=zaa a7 0 _ rfl;have f7:=zad a7 0;go_simp;refine hK _ _ (offM (by kernel_rfl)) (fun q11=>?_);clear hK K c7 f7;refine pureQ (b:=?a4) [(21,.int .i64 kk)] q11 (fun w'=>?y4) (fun q12=>?_)
          case y4=>
           iterate 1 (refine RunsM.cons rfl rfl (by go_simp) ?_;simp only[Act.put,gD,gE,gZ,gA,gB,gC])
           exact rfl
          refine doneM (by kernel_rfl) ?_ _;go_wp2;go_meet;exact⟨_,rfl,HX⟩
         case hb=>
          go_simp
          have a8:New W2 (W2.drew.alloc (.cells #[.slice none 0 0] 26)):=(Upd.refl _ W2).drew.trans (zU _ _ _);have a4:=zqH (kp2 (fun i hi=>a8.block i hi id) a6.out);have e3:(W2.drew.alloc (.cells #[.slice none 0 0] 26)).heap[W2.heap.size]?=some (.cells #[.slice none 0 0] 26 (0,0)):=al_new W2.drew (.cells #[.slice none 0 0] 26);refine hK _ _ (fun _=>a4.out) (fun q8=>?_);clear hK K;refine oneP 15 rfl q8 (fun K hK=>?_);go_simp;obtain⟨kk,b8⟩:=i1.out _ a8;refine b8.mono ?_
          rintro e W4 ⟨R,m7,d7,rfl,o7,f3,f2⟩;have HX:=zqH (box_b a1.out (Upd.refl _ W2).drew f3 o7 f2);have b6:=zqH (zN ((f3.block bx (zqA.1 a4.out.1).1 (Ne.symm a1.out.nd.1)).trans a4.out.1) ((f3.block bd (zqA.1 a4.out.2).1 (Ne.symm a1.out.nd.2.1)).trans a4.out.2));have a7:=(f3.block W2.heap.size (zqA.1 e3).1 (by have:=a1.out.lt.1;omega)).trans e3;clear o7 f3 f2 b8;refine hK _ _ (fun _=>b6.out) (fun q9=>?_);clear hK K a8;refine pureP (b:=?a5) [(16,.tuple #[.agg #[.slice R m7 d7],.int .i64 kk]),(17,.agg #[.slice R m7 d7]),(18,.int .i64 kk)] q9 b6.out (fun w'=>?y5) (fun q10=>?_)
          case y5=>
           iterate 3 (refine RunsM.cons rfl rfl (by go_simp) ?_;simp only[Act.put,gD,gE,gZ,gA,gB,gC])
           exact rfl
          refine oneP 20 rfl q10 (fun K hK=>?_);have c7:=zaa a7 0 _ rfl;have f7:=zad a7 0;go_simp;refine hK _ _ (offM (by kernel_rfl)) (fun q11=>?_);clear hK K c7 f7;refine pureQ (b:=?a6) [(21,.int .i64 kk)] q11 (fun w'=>?y6) (fun q12=>?_)
          case y6=>
           iterate 1 (refine RunsM.cons rfl rfl (by go_simp) ?_;simp only[Act.put,gD,gE,gZ,gA,gB,gC])
           exact rfl
          refine doneM (by kernel_rfl) ?_ _;go_wp2;go_meet;exact⟨_,rfl,HX⟩
        case rest=>
         obtain⟨b9,rfl,HX⟩:=hcut;obtain⟨R9,m9,d9,o1,t2,k9,o2,t3,g2⟩:=HX.out;have q0:=g3.out.lt;have v7:=h7.out;have l5:b7≠bs:=(by omega);have i3:=(g2.block b7 (zqA.1 f8.out).1 l5).trans f8.out;have e5:=h6.out.upd g2 (fun b hq e=>hq.1.2 e);have l6:x1.all+x1.cur+F1.tot (fun d=>if d.on then x1.cl d else 0) (x1.ds.take pi)+x1.cl d<Gn.B ^ 1000:=by
          have h1:=F1.tot_take_le (fun d=>if d.on then x1.cl d else 0) (pi+1) x1.ds;rw[h8.out,HO.out]at h1;simp only[if_true]at h1;have h2:=k3.out;exact Nat.lt_of_le_of_lt (by omega) (zqL k4.out k5.out)
         have x7:=zaa i3 0 _ rfl;have x9:=zaa k9 0 _ rfl;have l7:=dadd_c (w:=wc) e5.lq o2.lq l6;have r1:=zqH l7;have i4:=zqH i3;have i5:=zqH o1;have l8:=zqH g2;clear l7 i3 o1 t2 k9 o2 t3 g2 e5 l6 q0 HX l5 i1 g5 a6 l4 HV
         go_wp2_with (go_at_call 36;refine r1.out.mono ?_;rintro e W6 ⟨R6,m6,d6,rfl,o8,f4⟩;have k6:=(f4.block b7 (zqA.1 i4.out).1 id).trans i4.out;have y7:=zaa k6 0 _ rfl;have z7:=zad k6 0;have r2:=zqH o8;have g0:=zqH f4;have r3:=zqH k6;clear o8 f4 k6)
         refine⟨⟨pi+1,by omega,by congr 1,zqH ?_⟩,by simp[intOf];omega⟩;rw[h8.out,HO.out,if_pos rfl,<-Nat.add_assoc];have h9:=i5.out.lt;have v8:=(e4.out.trans l8.out).size;have v9:=(zqA.1 i4.out).1;exact box_c (Q:=NB wc) g3.out ((e4.out.trans l8.out).then g0.out (fun _ _ e=>e.elim)) (i5.out.sf.new g0.out) r3.out h7.out r2.out (fun c _ hc=>by
          have hc:wc.heap.size<=c:=hc;exact⟨⟨i5.out.sf.off_new hc,by omega,by omega,by omega⟩,by omega⟩)
      case neg=>
       obtain rfl:pi=4:=(by omega);have g1:=h6.out;rw[List.take_of_length_le (Nat.le_of_eq a9.out.d)]at g1;obtain⟨v,hv⟩:=zE (x1.all+x1.cur+F1.tot (fun d=>if d.on then x1.cl d else 0) x1.ds);have r5:v<=x1.giv:=(by rw[hv];exact k3.out);rw[<-hv]at g1;have i6:=dcmp_c (w:=W2.drew) (g1.upd (Upd.refl (fun _=>False) W2).drew (fun _ _ h=>h)).lq (a1.out.new (Upd.refl _ W2).drew).lg.lq;obtain⟨cv,j3⟩:=zE (cmpI v x1.giv);rw[<-j3]at i6;have w0:cv<=0:=by
        rw[j3];unfold cmpI;by_cases h:(v:Int)<x1.giv
        · rw[if_pos h];decide
        · rw[if_neg h,if_neg (by omega)];decide
       have r6:=zqH i6;have i7:=zqH (zN a1.out.xb f8.out);clear g1 hv r5 i6 j3
       go_upto_region 17 with fail
       refine beginM 5 (fun w'=>w'.heap[bx]?=some (.cells (xc bs bd bh l1 x1.n x1.q x1.C.length) 77 (0,0))/\w'.heap[b7]?=some (.cells #[.slice R m7 d7] 26 (0,0))) (by kernel_rfl) (fun q13=>?_);refine takeP (b:=?a7) [(0,.agg #[.slice R m7 d7])] q13 i7.out (fun w' hk=>?y7) (fun q14=>?_)
       case y7=>
        have c7:=zaa hk.2 0 _ rfl
        iterate 1 (refine RunsM.cons rfl rfl (by go_simp) ?_;simp only[Act.put,gD,gE,gZ,gA,gB,gC])
        exact rfl
       refine pureP (b:=?a8) [(1,zqQ bx 0),(2,zqQ bx 0),(3,zqQ bx 14)] q14 i7.out (fun w'=>?y8) (fun q15=>?_)
       case y8=>
        iterate 3 (refine RunsM.cons rfl rfl (by go_simp) ?_;simp only[Act.put,gD,gE,gZ,gA,gB,gC])
        exact rfl
       refine takeP (b:=?a9) [(4,.agg #[.slice l1.G l1.mg l1.dg])] q15 i7.out (fun w' hk=>?y9) (fun q16=>?_)
       case y9=>
        have w5:=zaa hk.1 14 (.slice l1.G l1.mg l1.dg) rfl
        iterate 1 (refine RunsM.cons rfl rfl (by go_simp) ?_;simp only[Act.put,gD,gE,gZ,gA,gB,gC])
        exact rfl
       refine oneP 5 rfl q16 (fun K hK=>?_);go_simp;refine r6.out.mono ?_
       rintro e W6 ⟨rfl,f4⟩;have g0:=zqH f4;refine hK _ _ (offM (by kernel_rfl)) (fun q17=>?_);refine pureQ (b:=?a10) [(6,.bool false)] q17 (fun w'=>?y10) (fun q18=>?_)
       case y10=>
        iterate 1 (refine RunsM.cons rfl rfl (by go_simp) ?_;simp only[Act.put,gD,gE,gZ,gA,gB,gC])
        exact rfl
       refine doneM (by kernel_rfl) ?_ _;go_wp2;have r7:New W2 W6:=g0.out.of_drew;exact⟨⟨j+1,by omega,by congr 1,zqH ⟨F',l1,S1,x1,(a9.out.bsd e4.out a1.out.sf).new r7⟩⟩,by simp[intOf];omega⟩
end Gz
end

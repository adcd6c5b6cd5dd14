/- Part of the proof. -/
import Derived.Test.YtbhnjkegkadodaaGreatDoorG20
import Derived.Deep.RegionHeld
import Derived.Deep.DeepCutAuto
set_option linter.all false
set_option maxRecDepth 100000
set_option maxHeartbeats 8000000
namespace Gz
open Go Go.RowKit Go.Proofs Gl
theorem insw56:InsW Tryz.prog 197 2 251 182 where
 toInsWalks:=walks197
 grow' w c q n cap i vb vo m vc cells e fr old new h1 h2 h3 h4 h5 h6 h7 h8 h9 h10 h11 h12:=ins197_grow w (vc:=vc) h1 h2 h3 h4 h5 h6 h7 h8 h9 h10 h11 h12
theorem insw58:InsW Tryz.prog 199 1 170 251 where
 toInsWalks:=walks199
 grow' w c q n cap i vb vo m vc cells e fr old new h1 h2 h3 h4 h5 h6 h7 h8 h9 h10 h11 h12:=by
  simp only[Nat.mul_one]at *
  exact ins199_grow w (vc:=vc) h1 h2 h3 h4 h5 h6 h7 h8 h9 h10 h11 h12
theorem ins56 {w:World} {base g n c i vb:Nat} {xs ns:List Value} {te:TypeId} (hown:w.ownsRow base 182 2 (.slice (some ⟨g,0,none⟩) n c) n xs) (h1:∀v ∈ xs,v.oneCell'=true) (hi:i<=n) (hn:0<n) (hbig:n+1<=1048576)
 (hvb:w.heap[vb]?=some (.cells ns.toArray te (0,0))) (hne:vb≠g) (hnl:ns.length=2) (hn1:∀v ∈ ns,v.oneCell'=true) (hbase:base<=w.heap.size):
 Calls Tryz.prog 197 #[.slice (some ⟨g,0,none⟩) n c,.int .i64 (i:Int),.slice (some ⟨vb,0,none⟩) 1 1] w (Inserted base 182 2 w g n (xs.take (i*2) ++ ns ++ xs.drop (i*2))):=by
 obtain⟨i0,a1,a2,a3,a4⟩:=info_parts info182;exact ins_own insw56 Tryz.underlying251 a1 a2 a3 a4 rfl (by omega) (by omega) hown h1 hi hn hbig hvb hne hnl hn1 hbase
theorem ins58 {w:World} {base g n c i vb:Nat} {xs ns:List Value} {te:TypeId} (hown:w.ownsRow base 251 1 (.slice (some ⟨g,0,none⟩) n c) n xs) (h1:∀v ∈ xs,v.oneCell'=true) (hi:i<=n) (hn:0<n) (hbig:n+1<=1048576)
 (hvb:w.heap[vb]?=some (.cells ns.toArray te (0,0))) (hne:vb≠g) (hnl:ns.length=1) (hn1:∀v ∈ ns,v.oneCell'=true) (hbase:base<=w.heap.size):
 Calls Tryz.prog 199 #[.slice (some ⟨g,0,none⟩) n c,.int .i64 (i:Int),.slice (some ⟨vb,0,none⟩) 1 1] w (Inserted base 251 1 w g n (xs.take i ++ ns ++ xs.drop i)):=by
 obtain⟨i0,a1,a2,a3,a4⟩:=info_parts info251;have:=ins_own insw58 Tryz.underlying170 a1 a2 a3 a4 rfl (by omega) (by omega) hown h1 hi hn hbig hvb hne hnl hn1 hbase;simp only[Nat.mul_one]at this;exact this
theorem set_c {base bm n c nk ck nv cv:Nat} {w:World} {D F:Nat->Prop} {A Ak Av:Option Addr} {vs:List Value} {ps:List (List Ent)} {k v:Bs} (h:MapIn 182 251 base w bm D A n c vs ps) (hF:∀b,foot bm D A n c vs b->F b) (hk:By w Ak nk ck k) (hv:By w Av nv cv v) (hnk:nk<=1073741824) (hnv:nv<=1073741824) (hlen:ps.flatten.length<=1000000) (hbase:base<=w.heap.size):
 Calls Tryz.prog 134 #[.pointer (some ⟨bm,0,none⟩),.slice Ak nk ck,.slice Av nv cv] w (SetEnd base bm F w (put ps.flatten k v)):=by
 have m6:=owned_c hk hnk;have m7:=zqH m6;have HK:=zqH hk;have HV:=zqH hv;have t8:=zqH hnv;have HM:=zqH h;have HF:=zqH hF;have HL:=zqH hlen;have HB:=zqH hbase;clear h hF hk hv hnk hnv hlen hbase m6;go_enter Tryz.func134,Tryz.ntmps134
 go_upto_region 2 with(first
  | (go_at_call 107;refine m7.out.mono ?_;rintro e W1 ⟨A1,c1,rfl,b8,h8⟩;have i5:=owned_c (HV.out.new h8) t8.out;have m8:=zqH b8;have m9:=zqH h8;clear m7 b8 h8)
  | (go_at_call 107;refine i5.mono ?_;rintro e W2 ⟨A2,c2,rfl,t1,t2⟩;have HS:=zqH (SetS.start HM.out m9.out t2 m8.out t1);clear i5 t1 t2 m8 m9))
 refine letW (fun W=>Hid (SetS base bm n c w W W2.heap.size A vs D ps (.slice A1 nk c1) (.slice A2 nv c2) k v)) HS ?_
 clear HS;obtain⟨bx,r5⟩:=zE W2.heap.size;rw[<-r5];clear r5;intro W HS;by_cases hps:ps=[]
 · have f3:=zaa HS.out.box 0 _ rfl;have b8:=zaa HS.out.box 1 _ rfl;have a5:=HS.out.map.cell0;subst hps;obtain rfl:n=0:=HS.out.map.n_eq;obtain⟨t,ht⟩:=HS.out.map.blk;have u3:=HS.out.map.bm_lt;have g1:((W.alloc (.cells #[.slice A1 nk c1,.slice A2 nv c2] 182)).alloc (.cells #[.slice (some ⟨W.heap.size,0,none⟩) 1 1] 251)).heap[bm]?=_:=(zaj _ (by show bm<(W.heap.push _).size;simp;omega)).trans ((zaj _ u3).trans ht);have g0:=zac ht (.slice (some ⟨W.heap.size+1,0,none⟩) 1 1) (i:=0);have o0:bm<(W.setCell ⟨bm,0,none⟩ (.slice (some ⟨W.heap.size+1,0,none⟩) 1 1)).heap.size:=(zqA.1 g0).1;have g2:(((W.setCell ⟨bm,0,none⟩ (.slice (some ⟨W.heap.size+1,0,none⟩) 1 1)).alloc (.cells #[.slice A1 nk c1,.slice A2 nv c2] 182)).alloc (.cells #[.slice (some ⟨W.heap.size,0,none⟩) 1 1] 251)).heap[bm]?=_:=(zaj _ (by show bm<(Array.push _ _).size;rw[Array.size_push];omega)).trans ((zaj _ o0).trans g0);have d0:=zaa g1 0 (.slice A 0 c) rfl;have d1:=zad g1 0;have d2:=zaa g2 1 (.int .i64 0) rfl;have d3:=zad g2 1;clear g0 g1 g2
   go_wp2_with fail
   go_ret
   exact set_first HS.out HF.out HB.out
 · have o2:0<ps.length:=List.length_pos_iff.2 hps;have i6:ps.length<=1000000:=zT (pages_le HM.out.good.1) HL.out;have a5:=HS.out.map.cell0;have hn:=HM.out.toMapRaw.n_eq;obtain⟨g0,rfl⟩:∃g0,A=some ⟨g0,0,none⟩:=(by obtain⟨g0,gp0,cp0,cs0,hA0,_⟩:=HM.out.at o2;exact⟨g0,hA0⟩)
   have o4:=find_c HS.out.map (HK.out.new HS.out.new) o2 (by omega);have y4:((n:Int) == 0)=false:=by simp;omega
   have h8:n<=1000000:=by omega
   have y5:=zqH i6;clear i6 hn
   go_upto_region 6 with(go_at_call 196;refine o4.mono ?_;rintro e W3 ⟨p,i,f,rfl,hf,t3⟩;have e6:=zqH hf;have a1:=zqH (HS.out.next t3);clear o4 hf t3 a5)
   clear HS;have hp:p<ps.length:=by obtain⟨X1,X2,X3,X4,e1,e2,_⟩:=e6.out;rw[e1,e2];simp
   obtain⟨aa,gp,cp,cs,e1,c5,l8,a8,e8,e4⟩:=a1.out.map.at hp;cases e1;have y6:p<n:=by have:=HM.out.toMapRaw.n_eq;omega
   have f3:=zaa a1.out.box 0 _ rfl;have b8:=zaa a1.out.box 1 _ rfl;have a5:=a1.out.map.cell0;cases f with
   | true=>
     have hi:i<ps[p].length:=(by obtain⟨_,hi,_,_,_⟩:=set_old (v:=v) HM.out.good e6.out;exact hi);obtain⟨k1,v1,ac,ad,-,-⟩:=page_cells a8 e8 (zG hi);have f0:=own_frozen a8 (i*2);have f1:(W3.setCell ⟨gp,i*2,none⟩ (.slice A1 nk c1)).frozen? ⟨gp,i*2+1,none⟩=false:=own_frozen (zbo a8 (i:=i*2) (by omega) (.slice A1 nk c1)) (i*2+1);have f2:∃u,(W3.setCell ⟨gp,i*2,none⟩ (.slice A1 nk c1)).cell? ⟨gp,i*2+1,none⟩=some u:=by
      obtain⟨cur,h1,h2,_⟩:=own_blk a8;have h3:=zac h1 (.slice A1 nk c1) (i:=i*2);have hl:=a8.1;have u4:i*2+1<cur.size:=by
       have:=congrArg List.length h2;rw[List.length_take]at this;simp at this;omega
      exact⟨_,zaa h3 (i*2+1) _ (Array.getElem?_eq_getElem (by simpa using u4))⟩
     obtain⟨u2,r7⟩:=f2;obtain⟨m,hm⟩:=zE (ps[p].length);have y8:i<m:=(by omega);rw[<-hm]at l8;have o5:=zqH (set_here a1.out HF.out e6.out hp c5 a8 e8);have y9:=zqH hm;clear hm c5 a8 e8 e4 hi;go_wp2
     go_region
     all_goals go_wp2
     all_goals go_ret
     all_goals exact o5.out.new ((Upd.refl _ _).drew)
   | false=>
     obtain⟨N,hN⟩:=zE ps.flatten.length;have o6:=a1.out.map.cell1;rw[<-hN]at o6;have u5:=a1.out.map.frozen 1;have z2:N<=1000000:=(by have:=HL.out;omega);have HN:=zqH hN;clear hN
     go_upto_region 10 with fail
     refine letW (fun W4=>Hid (Pre base bm n c N w W3 W4 g0 vs D ps)) (zqH (by
      have h:=a1.out.map.toMapRaw;rw[<-HN.out]at h;exact Pre.of h)) ?_
     intro W4 HP;clear o6 u5 a5 f3 b8;have u6:bx≠bm:=fun e=>(by have h1:=a1.out.fresh;have h2:=a1.out.bm_lt;omega);have i7:g0≠bm:=fun e=>a1.out.map.bmA (by simp[Value.ownBlock,e]);have i9:gp≠bm:=(a1.out.map.away p _ gp c5 rfl).1;have f5:g0<W3.heap.size:=(zal a1.out.map.row (c:=g0) rfl).1;have o8:gp<W3.heap.size:=(zal a8 (c:=gp) rfl).1;have a5:W4.cell? ⟨bm,0,none⟩=some (.slice (some ⟨g0,0,none⟩) n c):=(by obtain⟨t,ht⟩:=HP.out.blk;exact zaa ht 0 _ rfl);have f6:=(HP.out.upd.cell (a:=⟨g0,p,none⟩) f5 i7).trans l8;have f7:=(HP.out.upd.block bx a1.out.box_lt u6).trans a1.out.box;have f3:=zaa f7 0 _ rfl;have b8:=zaa f7 1 _ rfl;have j3:W4.ownsRow base 182 2 (.slice (some ⟨gp,0,none⟩) ps[p].length cp) ps[p].length cs:=zae a8 (fun b hb hl=>HP.out.upd.block b hl (fun e=>by
      simp[Value.ownBlock]at hb;exact i9 (hb.trans e)))
     have j4:=few_len HM.out hp;have hi:i<=ps[p].length:=(by obtain⟨_,hi,_⟩:=set_new (v:=v) HM.out.good e6.out;exact hi);have l0:∀Wx:World,Wx.heap=W4.heap.push (.cells #[.slice A1 nk c1,.slice A2 nv c2] 182)->Calls Tryz.prog 197 #[.slice (some ⟨gp,0,none⟩) ps[p].length cp,.int .i64 (i:Int),.slice (some ⟨W4.heap.size,0,none⟩) 1 1] Wx (Inserted base 182 2 Wx gp ps[p].length (cs.take (i*2) ++ [.slice A1 nk c1,.slice A2 nv c2] ++ cs.drop (i*2))):=fun Wx hx=>
      ins56 (zar j3 _ hx) e8.oneCells hi e4 (by omega) (te:=182) (by rw[hx];simp) (by have:=HP.out.upd.size;omega) rfl (by intro u hu;simp at hu;rcases hu with rfl|rfl<;>rfl) (by rw[hx];have:=HB.out;have:=a1.out.new.size;have:=HP.out.upd.size;simp;omega)
     have f8:∀(Wx:World) x W6,Inserted base 182 2 Wx gp ps[p].length (cs.take (i*2) ++ [.slice A1 nk c1,.slice A2 nv c2] ++ cs.drop (i*2)) x W6->Wx.heap=W4.heap.push (.cells #[.slice A1 nk c1,.slice A2 nv c2] 182)->Wx.tape=W4.tape->Wx.os=W4.os->Wx.output=W4.output->_:=fun Wx x W6 hins hx ht ho hu=>by
      have f9:New W4 Wx:=⟨ho,hu,ht,by rw[hx];simp,fun b hb _=>by rw[hx,Array.getElem?_push_lt hb];simp[hb]⟩
      have u7:∃t,Wx.heap[bm]?=some (.cells #[.slice (some ⟨g0,0,none⟩) n c,.int .i64 ((ps.flatten.length+1:Nat):Int)] t (0,0)):=by
       obtain⟨t,ht⟩:=HP.out.blk;rw[HN.out]at ht;exact⟨t,(f9.block bm (zqA.1 ht).1 id).trans ht⟩
      exact put_state a1.out hp hi rfl c5 a8 e8 (HP.out.upd.trans (f9.mono (fun _ _ h=>h.elim))) u7 hins
     have d6:∀(Wx:World) x W6,Inserted base 182 2 Wx gp ps[p].length (cs.take (i*2) ++ [.slice A1 nk c1,.slice A2 nv c2] ++ cs.drop (i*2)) x W6->Wx.heap=W4.heap.push (.cells #[.slice A1 nk c1,.slice A2 nv c2] 182)->∀b o v,b≠gp->W4.cell? ⟨b,o,none⟩=some v->W6.cell? ⟨b,o,none⟩=some v:=fun Wx x W6 hins hx b o v hb hc=>by
      obtain⟨_,_,_,_,hu,_⟩:=hins;have hl:b<W4.heap.size:=zqB W4 ⟨b,o,none⟩ hc;have h1:Wx.cell? ⟨b,o,none⟩=W4.cell? ⟨b,o,none⟩:=World.cell?_of_block (a:=⟨b,o,none⟩) (by rw[hx,Array.getElem?_push_lt hl];simp[hl])
      exact((hu.cell (a:=⟨b,o,none⟩) (by rw[hx];simp;omega) hb).trans h1).trans hc
     have l3:bm≠gp:=Ne.symm i9;have l4:g0≠gp:=fun e=>(a1.out.map.away p _ gp c5 rfl).2.1 (by rw[e];rfl);have g3:bx≠gp:=fun e=>(by have h1:=a1.out.fresh;have h2:=(zal (HM.out.page p _ _ c5 (zG hp)).choose_spec.1 (c:=gp) rfl).1;omega);have l5:∀(Wx:World) x W6,Inserted base 182 2 Wx gp ps[p].length (cs.take (i*2) ++ [.slice A1 nk c1,.slice A2 nv c2] ++ cs.drop (i*2)) x W6->New W4 Wx->∀g1 c1,x=.returned (.slice (some ⟨g1,0,none⟩) (ps[p].length+1) c1) → (∃v,vs[p]?=some v/\v.ownBlock=some g1)\/W4.heap.size<=g1:=fun Wx x W6 hins hu g1 c1 e=>by
      obtain⟨g',c',e',_,_,hg⟩:=hins;rw[e']at e
      injection e with e
      injection e with e
      injection e with e
      injection e with e
      subst e;exact hg.imp (fun e=>⟨_,c5,by rw[e];rfl⟩) (fun e=>zT hu.size e)
     obtain⟨m,hm⟩:=zE (ps[p].length);rw[<-hm]at l5;have u9:=zqH l5;clear l5;rw[<-hm]at f6 l0 f8 d6;have v0:=zqH l0;have o9:=zqH f8;have b5:=zqH d6;have l6:=zqH hm;have x5:=zqH e4;have p0:=zqH j4;have HI:=zqH hi;have z3:=zqH c5;clear l0 f8 d6 hm l8 a8 j3 e8 e4 j4 hi f7 f5 o8
     go_region_held (fun w'=>w'.cell? ⟨bm,0,none⟩=some (.slice (some ⟨g0,0,none⟩) n c)/\w'.cell? ⟨g0,p,none⟩=some (.slice (some ⟨gp,0,none⟩) m cp)/\w'.cell? ⟨bx,0,none⟩=some (.slice A1 nk c1)/\w'.cell? ⟨bx,1,none⟩=some (.slice A2 nv c2)) (go_keep) (first
      | (go_at_call 197;refine(v0.out _ rfl).mono ?_;rintro e W6 hins;have g4:=hins;have k0:=b5.out _ _ _ hins rfl _ _ _ l3 a5;have k1:=b5.out _ _ _ hins rfl _ _ _ l4 f6;have k2:=b5.out _ _ _ hins rfl _ _ _ g3 f3;have k3:=b5.out _ _ _ hins rfl _ _ _ g3 b8;obtain⟨g1,d7,rfl,w5,⟨u1,w6⟩,w7,r8,r9⟩:=o9.out _ _ _ hins rfl rfl rfl rfl;have HPS:=zqH r8;have g5:=zqH r9;have p1:=zqH (u9.out _ _ _ g4 ⟨rfl,rfl,rfl,by simp,fun b hb _=>zaj _ hb⟩ _ _ rfl);clear hins g4 r8 r9))
     have p5:Hid ((∃v,vs[p]?=some v/\v.ownBlock=some g1)\/W4.heap.size<=g1):=p1;clear p1 a5 f3 b8 k1 k2 k3 k0 f6
     all_goals go_upto_region 12 with fail
     obtain⟨W7,s0⟩:=zE (W6.setCell ⟨g0,p,none⟩ (.slice (some ⟨g1,0,none⟩) (m+1) d7));rw[<-s0]at HPS g5 ⊢;clear s0 w5 w6 w7;have p6:m<=32:=(by rw[l6.out];exact p0.out);have p7:Hid ((∃v,vs[p]?=some v/\v.ownBlock=some g1)\/w.heap.size<=g1):=zqH (p5.out.imp id (fun e=>zT (zT a1.out.new.size HP.out.upd.size) e));by_cases hsm:m+1<=32
     · go_wp2
       go_ret
       exact put_end a1.out HF.out e6.out hp l6.out hsm p7.out HPS.out g5.out
     · obtain rfl:m=32:=(by omega);clear hsm p6;obtain⟨d8,j8⟩:∃d8,d8=cs.take (i*2) ++ [.slice A1 nk c1,.slice A2 nv c2] ++ cs.drop (i*2):=⟨_,rfl⟩
       rw[<-j8]at HPS;clear j8;obtain⟨w8,h5⟩:=zE (vs.set p (.slice (some ⟨g1,0,none⟩) (32+1) d7));rw[<-h5]at HPS;have v2:=zqH h5;clear h5;have a5:=HPS.out.raw.cell0;have b9:=HPS.out.own;have p8:33<=d7/\d7<=maxLen:=⟨(Sl.of_own b9).le,(Sl.of_own b9).max⟩
       obtain⟨w9,m0⟩:=p8;unfold maxLen at m0;have e0:=HPS.out.raw.row;have p9:p<w8.length:=(by have:=e0.1;omega);obtain⟨u0,m1⟩:∃u,W7.cell? ⟨g0,p,none⟩=some u:=by
        have:=(Sl.of_own e0).cell rfl (zG p9);rw[Nat.zero_add]at this;exact⟨_,this⟩
       have q0:=own_frozen e0 p;have g6:∀Wx,New W7 Wx->Calls Tryz.prog 198 #[.slice (some ⟨g1,0,none⟩) 16 d7] Wx fun e w'=>∃g' c',e=.returned (.slice (some ⟨g',0,none⟩) 16 c')/\Wx.heap.size<=g'/\w'.ownsRow Wx.heap.size 182 2 (.slice (some ⟨g',0,none⟩) 16 c') 16 (d8.take 32)/\New Wx w':=fun Wx hx=>by
        have hs:=(Sl.of_own b9).sub (a:=0) (b:=16) (by omega);exact clone_c (hs.new hx) (fun u hu=>(HPS.out.ents _ (zG HPS.out.hp)).oneCells u (List.mem_of_mem_take hu)) (by omega) (by omega)
       have hk:∀Wx w',New W7 Wx->New Wx w'->w'.cell? ⟨bm,0,none⟩=some (.slice (some ⟨g0,0,none⟩) n c)/\w'.cell? ⟨g0,p,none⟩=some u0/\w'.frozen? ⟨g0,p,none⟩=false:=fun Wx w' hx hy=>by
        have hn:=hx.trans hy;have l1:=zqB W7 ⟨bm,0,none⟩ a5;have l2:=zqB W7 ⟨g0,p,none⟩ m1;exact⟨(hn.cell (a:=⟨bm,0,none⟩) l1 id).trans a5,(hn.cell (a:=⟨g0,p,none⟩) l2 id).trans m1,(hn.frozen (a:=⟨g0,p,none⟩) l2 id).trans q0⟩
       have v3:=zqH g6;have v4:=zqH hk;have q2:=zqH b9;clear g6 hk b9 e0 p9
       go_upto_region 13 with fail
       have x6:bm≠g0:=Ne.symm i7
       go_region_held (fun w'=>w'.cell? ⟨bm,0,none⟩=some (.slice (some ⟨g0,0,none⟩) n c)) (go_keep) (first
        | (go_at_call 198;refine(v3.out _ ((Upd.refl _ W7).drew)).mono ?_;rintro e W8 ⟨g8,c8,rfl,t4,t5,m4⟩;obtain⟨j0,j1,j2⟩:=v4.out _ _ ((Upd.refl _ W7).drew) m4;have H8:=zqH (zN t4 (zN t5 m4));clear t4 t5 m4))
       go_upto_region 14 with fail
       obtain⟨W9,m2⟩:=zE (W8.setCell ⟨g0,p,none⟩ (.slice (some ⟨g8,0,none⟩) 16 c8));have h9:=half_state HPS.out (by omega) (Upd.of_drew H8.out.2.2) H8.out.2.1 H8.out.1 (fun b hb=>by have h1:=a1.out.dsub.2.1 b hb;have h2:=g5.out.size;omega);have l7:Upd (fun b=>b=g0) W8 W9:=(by rw[m2];exact Upd.setCell W8 _ rfl);rw[<-m2]at h9 ⊢;clear m2 a5 m1 q0 j0 j1 j2;obtain⟨l',m3⟩:∃l',l'=ps[p].take i ++ [(k,v)] ++ ps[p].drop i:=⟨_,rfl⟩
       have i0:(ps.set p (ps[p].take i ++ [(k,v)] ++ ps[p].drop i))[p]'HPS.out.hp=l':=(by rw[m3];simp);rw[i0,v2.out,List.set_set,List.set_set]at h9;have q4:g1≠g0:=fun e=>(HPS.out.raw.away p _ g1 HPS.out.at_ rfl).2.1 (by rw[e];rfl);have g7:New W7 W8:=Upd.of_drew H8.out.2.2;have g9:W9.ownsRow base 182 2 (.slice (some ⟨g1,0,none⟩) (32+1) d7) (32+1) d8:=zae (zae q2.out (fun b hb hl=>g7.block b hl id)) (fun b hb hl=>l7.block b hl (fun e=>by
        simp[Value.ownBlock]at hb;exact q4 (hb.trans e)))
       have b6:=HPS.out.ents _ (zG HPS.out.hp);rw[i0]at b6;have a3:EntsAt (DD D w W3) W9 d8 l':=(b6.imp (fun _ _ hb=>hb.upd g7 (fun _ _=>id))).imp (fun _ _ hb=>hb.upd l7 (fun b hd e=>by
        subst e;exact HPS.out.raw.dA _ rfl hd))
       have j5:l'.length=33:=by
        have:=HPS.out.len _ (zG HPS.out.hp);rw[i0]at this;exact this
       have a5:=h9.1.cell0;obtain⟨i4,h6⟩:=zE (vs.set p (.slice (some ⟨g8,0,none⟩) 16 c8));rw[<-h6]at h9;have g6:∀Wx,New W9 Wx->Calls Tryz.prog 198 #[.slice (some ⟨g1,32,none⟩) 17 (d7-16)] Wx fun e w'=>∃g' c',e=.returned (.slice (some ⟨g',0,none⟩) 17 c')/\Wx.heap.size<=g'/\w'.ownsRow Wx.heap.size 182 2 (.slice (some ⟨g',0,none⟩) 17 c') 17 (d8.drop 32)/\New Wx w':=fun Wx hx=>by
        have hs:=(Sl.of_own g9).sub (a:=16) (b:=17) (by omega);have hl:=a3.length;rw[List.take_of_length_le (by rw[List.length_drop];omega)]at hs;exact clone_c (hs.new hx) (fun u hu=>a3.oneCells u (List.mem_of_mem_drop hu)) (by omega) (by omega)
       have q5:∀(a4 a6:Nat) (W10 Wx:World),New W9 W10->W9.heap.size<=a4->Wx.heap=W10.heap.push (.cells #[.slice (some ⟨a4,0,none⟩) 17 a6] 251)->Calls Tryz.prog 199 #[.slice (some ⟨g0,0,none⟩) n c,.int .i64 ((p:Int)+1),.slice (some ⟨W10.heap.size,0,none⟩) 1 1] Wx (Inserted base 251 1 Wx g0 n (i4.take (p+1) ++ [.slice (some ⟨a4,0,none⟩) 17 a6] ++ i4.drop (p+1))):=fun a4 a6 W10 Wx hx hge he=>by
        have f5:g0<W9.heap.size:=(zal h9.1.row (c:=g0) rfl).1;exact ins58 (i:=p+1) (zar (zae h9.1.row (fun b hb hl=>hx.block b hl id)) _ he) (fun u hu=>by
         obtain⟨j,hj⟩:=List.getElem?_of_mem hu;obtain⟨l,_,hl⟩:=h9.1.page_at hj;obtain⟨cc,ho,_⟩:=hl;obtain⟨A',c',rfl⟩:=ownsRow_form ho
         rfl) (by omega) (by omega) (by omega) (te:=251) (by rw[he];simp) (by have:=hx.size;omega) rfl (by intro u hu;simp at hu;subst hu;rfl) (by rw[he];have h1:=HB.out;have h2:=h9.1.hb;have h3:=h9.1.bm_lt;have h4:=hx.size;simp;omega)
       have q6:∀(a4 a6:Nat) (W10 Wx:World) (x:Ending) (W12:World),Inserted base 251 1 Wx g0 n (i4.take (p+1) ++ [.slice (some ⟨a4,0,none⟩) 17 a6] ++ i4.drop (p+1)) x W12 → (W9.drew.heap.size<=a4/\W10.ownsRow W9.drew.heap.size 182 2 (.slice (some ⟨a4,0,none⟩) 17 a6) 17 (d8.drop 32)/\New W9.drew W10)->Wx.heap=W10.heap.push (.cells #[.slice (some ⟨a4,0,none⟩) 17 a6] 251)->Wx.tape=W10.tape->Wx.os=W10.os->Wx.output=W10.output->_:=fun a4 a6 W10 Wx x W12 hins hq he ht ho hu=>by
        have a7:New W9 W10:=Upd.of_drew hq.2.2;have f9:New W10 Wx:=⟨ho,hu,ht,by rw[he];simp,fun b hb _=>by rw[he,Array.getElem?_push_lt hb];simp[hb]⟩
        exact split_state (l2:=l'.drop 16) h9.1 (by rw[List.length_set];exact hp) (a7.trans f9) (zar hq.2.1 _ he) hq.1 (by rw[List.length_drop];omega) ((a3.imp (fun _ _ hb=>hb.upd (a7.trans f9) (fun _ _=>id))).drop 16) hins
       have v5:=zqH q6;clear q6;have H9:=zqH h9;have q7:=zqH g6;have v6:=zqH q5;have q8:=zqH h6;have v7:=zqH m3;have z8:=zqH a3;have x8:=zqH j5;have q9:=h9.1.bm_lt;have r1:∀Wx,New W9 Wx->Wx.cell? ⟨bm,0,none⟩=some (.slice (some ⟨g0,0,none⟩) n c):=fun Wx hx=>(hx.cell (a:=⟨bm,0,none⟩) q9 id).trans a5;have r2:=zqH r1;have z9:IntKind.i64.wrap ((p:Int)+1)=(p:Int)+1:=(by rw[IntKind.wrap_i64];omega);clear h9 l7 i0 g9 b6 a3 j5 h6 m3 g7 g6 q5 r1 q4
       go_region_with (first
        | (go_at_call 198;refine(q7.out _ ((Upd.refl _ W9).drew)).mono ?_;rintro e W10 ⟨a4,a6,rfl,k6,k7,a7⟩;have z0:=r2.out _ (Upd.of_drew a7);have z1:=r2.out _ ((Upd.of_drew a7).trans (zU (fun _=>False) _ (.cells #[.slice (some ⟨a4,0,none⟩) 17 a6] 251)));have i1:=zqH (zN k6 (zN k7 a7));clear k6 k7 a7)
        | (go_at_call 199;refine(v6.out a4 a6 W10 _ (Upd.of_drew i1.out.2.2) i1.out.1 rfl).mono ?_;rintro e W12 hins;obtain⟨g2,x0,rfl,⟨u2,r7⟩,x1,j9,k4,s9⟩:=v5.out a4 a6 W10 _ _ _ hins i1.out rfl rfl rfl rfl;have e3:=zqH (zN j9 (zN k4 s9));clear j9 k4 s9 hins))
       all_goals (obtain⟨al,k5⟩:=zE (W12.setCell ⟨bm,0,none⟩ (.slice (some ⟨g2,0,none⟩) (n+1) x0));rw[<-k5]at e3 ⊢;clear k5 r7 x1)
       all_goals go_wp2
       all_goals go_ret
       all_goals
        have q1:=e3.out.1;rw[q8.out,v7.out]at q1;have r3:w.heap.size<=W7.heap.size:=zT a1.out.new.size g5.out.size;have r4:w.heap.size<=W9.heap.size:=zT r3 H9.out.2.size;refine split_end a1.out HF.out e6.out hp l6.out.symm q1 ?_ (zT r3 H8.out.1) (zT r4 i1.out.1) (e3.out.2.2.imp id (fun e=>zT r4 e))
        refine((g5.out.mono (fun b _ hb=>touch_foot hb)).then H9.out.2 (fun b hb e=>?_)).then e3.out.2.1 (fun b hb e=>?_)
        · rcases e with e|e|⟨y,hy,e⟩
          · exact .inl e
          · exact .inr (.inl e)
          · rw[List.getElem?_set,if_pos rfl,if_pos (by have:=a1.out.map.len;omega)]at hy;cases hy;simp[Value.ownBlock]at e;rcases p7.out with⟨y,hy,e2⟩|hge
            · exact .inr (.inr (.inl ⟨y,List.mem_of_getElem? hy,by rw[e2,e]⟩))
            · rcases p5.out with⟨y,hy,e2⟩|hge2
              · exact .inr (.inr (.inl ⟨y,List.mem_of_getElem? hy,by rw[e2,e]⟩))
              · have:=HP.out.upd.size;omega
        · rcases e with e|e
          · exact .inl e
          · exact .inr (.inl (by rw[e];rfl))
theorem found_get {ps:List (List Ent)} {k:Bs} {p i:Nat} (h:Gl.Found ps k p i true):∃(hp:p<ps.length) (u:Bs),(ps[p])[i]?=some (k,u)/\get ps.flatten k=some u:=by
 obtain⟨A,X,Y,C,rfl,rfl,rfl,a1,a2⟩:=h;rw[if_pos rfl]at a2;obtain⟨u,Y',rfl,hh⟩:=a2;refine⟨by simp,u,by simp,?_⟩;have e:(A ++ (X ++ (k,u) :: Y') :: C).flatten=(A.flatten ++ X) ++ (k,u) :: (Y' ++ C.flatten):=by simp
 rw[e];exact get_old a1
theorem found_none {ps:List (List Ent)} {k:Bs} {p i:Nat} (h:Gl.Found ps k p i false):get ps.flatten k=none:=by
 obtain⟨A,X,Y,C,rfl,rfl,rfl,a1,a2⟩:=h;simp only[Bool.false_eq_true,ite_false]at a2;have e:(A ++ (X ++ Y) :: C).flatten=(A.flatten ++ X) ++ (Y ++ C.flatten):=by simp
 rw[e];exact get_none a1 a2
theorem find_nil {base bm n c na ca:Nat} {w:World} {D:Nat->Prop} {A Ak:Option Addr} {vs:List Value} (h:MapIn 182 251 base w bm D A n c vs []):
 Calls Tryz.prog 196 #[.pointer (some ⟨bm,0,none⟩),.slice Ak na ca] w fun e w'=>e=.returned (.tuple #[.int .i64 0,.int .i64 0,.bool false])/\w'=w:=by
 have hn:=h.n_eq;have a2:=h.cell0;simp only[List.length_nil]at hn;subst hn;clear h;go_enter Tryz.func196,Tryz.ntmps196;go_wp2
 go_ret3
 exact⟨by simp[Act.eval],rfl⟩
def Got (w:World) (L:List Ent) (k:Bs) (e:Ending) (w':World):Prop:=
 New w w'/\((get L k=none/\e=.returned (.tuple #[.slice none 0 0,.bool false]))\/∃v A n c,get L k=some v/\e=.returned (.tuple #[.slice A n c,.bool true])/\BV (fun b=>w.heap.size<=b) w' (.slice A n c) v)
theorem pget_c {base bm n c nk ck:Nat} {w:World} {D:Nat->Prop} {A Ak:Option Addr} {vs:List Value} {ps:List (List Ent)} {k:Bs} (h:MapIn 182 251 base w bm D A n c vs ps) (hk:By w Ak nk ck k) (hlen:ps.flatten.length<=1000000) (hsz:∀e ∈ ps.flatten,e.2.length<=1073741824):
 Calls Tryz.prog 171 #[.pointer (some ⟨bm,0,none⟩),.slice Ak nk ck] w (Got w ps.flatten k):=by
 by_cases hps:ps=[]
 · subst hps;have hv:vs=[]:=by have:=h.len;simpa using this
   have HF:=zqH (find_nil (na:=nk) (ca:=ck) (Ak:=Ak) h);clear h hk hlen hsz;go_enter Tryz.func171,Tryz.ntmps171
   go_wp2_with (go_at_call 196;refine HF.out.mono ?_;rintro e W1 ⟨rfl,rfl⟩)
   go_ret2
   exact⟨Upd.refl _ _,.inl ⟨rfl,rfl⟩⟩
 · have a8:0<ps.length:=List.length_pos_iff.2 hps;have e4:ps.length<=1000000:=zT (pages_le h.good.1) hlen;have a9:=find_c h hk a8 (by omega);have HM:=zqH h;have d0:=zqH hsz;obtain⟨g0,rfl⟩:∃g0,A=some ⟨g0,0,none⟩:=(by obtain⟨g0,gp0,cp0,cs0,hA0,_⟩:=h.at a8;exact⟨g0,hA0⟩)
   have hn:=h.toMapRaw.n_eq;have f0:n<=1000000:=by omega
   clear h hk hsz hlen;go_enter Tryz.func171,Tryz.ntmps171
   go_upto_region 2 with(go_at_call 196;refine a9.mono ?_;rintro e W3 ⟨p,i,f,rfl,hf,b8⟩;have b0:=zqH hf;have a1:=zqH b8;clear a9 hf b8)
   cases f with
   | false=>
     go_wp2
     go_ret2
     exact⟨a1.out,.inl ⟨found_none b0.out,rfl⟩⟩
   | true=>
     obtain⟨hp,u,a2,a3⟩:=found_get b0.out;have a4:=HM.out.upd a1.out (fun _ _=>id);obtain⟨f7,gp,cp,cs,e1,d7,d8,a6,b6,b7⟩:=a4.at hp;cases e1;have hi:i<ps[p].length:=(List.getElem?_eq_some_iff.1 a2).1;obtain⟨k1,v1,d9,f9,e0,e2⟩:=page_cells a6 b6 a2;obtain⟨A1,n1,c1,rfl,a7,hd⟩:=e2;have f3:=a4.cell0;have hu:u.length<=1073741824:=d0.out (k,u) (List.mem_flatten.2 ⟨_,List.getElem_mem hp,List.mem_of_getElem? a2⟩);have b5:=zqH (owned_c a7 (by rw[<-a7.len];exact hu));have f4:p<n:=(by omega);obtain⟨m,hm⟩:=zE (ps[p].length);have a5:=Sl.of_own a6;have f5:m<=cp/\cp<=maxLen:=⟨by rw[hm];exact a5.le,a5.max⟩
     rw[<-hm]at d8 hi;have HG:=zqH a3;clear a4 d7 a6 b6 b7 a7 e0 hd d9 hu hm a2 a5 a3
     go_wp2_with (go_at_call 107;refine b5.out.mono ?_;rintro e W4 ⟨A2,c2,rfl,b9,c5⟩;have d5:=zqH b9;have d6:=zqH c5;clear b5 b9 c5)
     go_ret2
     exact⟨a1.out.trans d6.out,.inr ⟨u,A2,n1,c2,HG.out,rfl,d5.out.mono (fun b hb=>zT a1.out.size hb)⟩⟩
end Gz

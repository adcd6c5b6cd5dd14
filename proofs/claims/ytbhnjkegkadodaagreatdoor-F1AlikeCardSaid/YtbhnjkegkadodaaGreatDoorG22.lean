/- Part of the proof. -/
import Derived.Test.YtbhnjkegkadodaaGreatDoorG21
import Derived.Deep.RegionHeld
import Derived.Deep.DeepCutAuto
set_option linter.all false
set_option maxRecDepth 100000
set_option maxHeartbeats 8000000
namespace Go.Proofs.YtbhnjkegkadodaaGreatDoor
open Go Go.RowKit Go.Proofs Gl
theorem insw56:InsW Tryz.prog 197 2 251 182 where
 toInsWalks:=walks197
 grow' w c q n cap i vb vo m vc cells e fr old new h1 h2 h3 h4 h5 h6 h7 h8 h9 h10 h11 h12:=ins197_grow w (vc:=vc) h1 h2 h3 h4 h5 h6 h7 h8 h9 h10 h11 h12
theorem insw58:InsW Tryz.prog 199 1 170 251 where
 toInsWalks:=walks199
 grow' w c q n cap i vb vo m vc cells e fr old new h1 h2 h3 h4 h5 h6 h7 h8 h9 h10 h11 h12:=by
  simp only[Nat.mul_one]at *
  exact ins199_grow w (vc:=vc) h1 h2 h3 h4 h5 h6 h7 h8 h9 h10 h11 h12
theorem ins56 {w:World} {base g n c i vb:Nat} {xs ns:List Value} {te:TypeId} (hown:w.ownsRow base 182 2 (.slice (some ⟨g,0,none⟩) n c) n xs) (h1:∀v ∈ xs,v.oneCell'=true) (hi:i<=n) (hn:0<n) (hbig:n+1<=1048576)
 (hvb:w.heap[vb]?=some (.cells ns.toArray te (0,0))) (hne:vb≠g) (hnl:ns.length=2) (hn1:∀v ∈ ns,v.oneCell'=true) (hbase:base<=w.heap.size):
 Calls Tryz.prog 197 #[.slice (some ⟨g,0,none⟩) n c,.int .i64 (i:Int),.slice (some ⟨vb,0,none⟩) 1 1] w (Inserted base 182 2 w g n (xs.take (i*2) ++ ns ++ xs.drop (i*2))):=by
 obtain⟨i0,hi0,hz0,hz1,hz2⟩:=info_parts info182
 exact ins_own insw56 Tryz.underlying251 hi0 hz0 hz1 hz2 rfl (by omega) (by omega) hown h1 hi hn hbig hvb hne hnl hn1 hbase
theorem ins58 {w:World} {base g n c i vb:Nat} {xs ns:List Value} {te:TypeId} (hown:w.ownsRow base 251 1 (.slice (some ⟨g,0,none⟩) n c) n xs) (h1:∀v ∈ xs,v.oneCell'=true) (hi:i<=n) (hn:0<n) (hbig:n+1<=1048576)
 (hvb:w.heap[vb]?=some (.cells ns.toArray te (0,0))) (hne:vb≠g) (hnl:ns.length=1) (hn1:∀v ∈ ns,v.oneCell'=true) (hbase:base<=w.heap.size):
 Calls Tryz.prog 199 #[.slice (some ⟨g,0,none⟩) n c,.int .i64 (i:Int),.slice (some ⟨vb,0,none⟩) 1 1] w (Inserted base 251 1 w g n (xs.take i ++ ns ++ xs.drop i)):=by
 obtain⟨i0,hi0,hz0,hz1,hz2⟩:=info_parts info251
 have:=ins_own insw58 Tryz.underlying170 hi0 hz0 hz1 hz2 rfl (by omega) (by omega) hown h1 hi hn hbig hvb hne hnl hn1 hbase
 simp only[Nat.mul_one]at this
 exact this
theorem set_c {base bm n c nk ck nv cv:Nat} {w:World} {D F:Nat->Prop} {A Ak Av:Option Addr} {vs:List Value} {ps:List (List Ent)} {k v:Bs} (h:MapIn 182 251 base w bm D A n c vs ps) (hF:∀b,foot bm D A n c vs b->F b) (hk:By w Ak nk ck k) (hv:By w Av nv cv v) (hnk:nk<=1073741824) (hnv:nv<=1073741824) (hlen:ps.flatten.length<=1000000) (hbase:base<=w.heap.size):
 Calls Tryz.prog 134 #[.pointer (some ⟨bm,0,none⟩),.slice Ak nk ck,.slice Av nv cv] w (SetEnd base bm F w (put ps.flatten k v)):=by
 have h33:=owned_c hk hnk
 have H33:=zqH h33;have HK:=zqH hk;have HV:=zqH hv;have HNV:=zqH hnv;have HM:=zqH h;have HF:=zqH hF;have HL:=zqH hlen;have HB:=zqH hbase
 clear h hF hk hv hnk hnv hlen hbase h33
 go_enter Tryz.func134,Tryz.ntmps134
 go_upto_region 2 with(first
  | (go_at_call 107;refine H33.out.mono ?_;rintro e W1 ⟨A1,c1,rfl,hb1,hn1⟩;have h33b:=owned_c (HV.out.new hn1) HNV.out;have HB1:=zqH hb1;have HN1:=zqH hn1;clear H33 hb1 hn1)
  | (go_at_call 107;refine h33b.mono ?_;rintro e W2 ⟨A2,c2,rfl,hb2,hn2⟩;have HS:=zqH (SetS.start HM.out HN1.out hn2 HB1.out hb2);clear h33b hb2 hn2 HB1 HN1))
 refine letW (fun W=>Hid (SetS base bm n c w W W2.heap.size A vs D ps (.slice A1 nk c1) (.slice A2 nv c2) k v)) HS ?_
 clear HS
 obtain⟨bx,hbx⟩:∃bx,bx=W2.heap.size:=⟨_,rfl⟩
 rw[<-hbx]
 clear hbx
 intro W HS
 by_cases hps:ps=[]
 · have hb0:=zaa HS.out.box 0 _ rfl
   have hb1:=zaa HS.out.box 1 _ rfl
   have hc0:=HS.out.map.cell0
   subst hps
   obtain rfl:n=0:=HS.out.map.n_eq
   obtain⟨t,ht⟩:=HS.out.map.blk
   have hlt:=HS.out.map.bm_lt
   have g1:((W.alloc (.cells #[.slice A1 nk c1,.slice A2 nv c2] 182)).alloc (.cells #[.slice (some ⟨W.heap.size,0,none⟩) 1 1] 251)).heap[bm]?=_:=(zaj _ (by show bm<(W.heap.push _).size;simp;omega)).trans ((zaj _ hlt).trans ht)
   have g0:=zab ht (.slice (some ⟨W.heap.size+1,0,none⟩) 1 1) (i:=0)
   have hlt2:bm<(W.setCell ⟨bm,0,none⟩ (.slice (some ⟨W.heap.size+1,0,none⟩) 1 1)).heap.size:=(zqA.1 g0).1
   have g2:(((W.setCell ⟨bm,0,none⟩ (.slice (some ⟨W.heap.size+1,0,none⟩) 1 1)).alloc (.cells #[.slice A1 nk c1,.slice A2 nv c2] 182)).alloc (.cells #[.slice (some ⟨W.heap.size,0,none⟩) 1 1] 251)).heap[bm]?=_:=(zaj _ (by show bm<(Array.push _ _).size;rw[Array.size_push];omega)).trans ((zaj _ hlt2).trans g0)
   have d0:=zaa g1 0 (.slice A 0 c) rfl
   have d1:=zac g1 0
   have d2:=zaa g2 1 (.int .i64 0) rfl
   have d3:=zac g2 1
   clear g0 g1 g2
   go_wp2_with fail
   go_ret
   exact set_first HS.out HF.out HB.out
 · have hp0:0<ps.length:=List.length_pos_iff.2 hps
   have hple:ps.length<=1000000:=Nat.le_trans (pages_le HM.out.good.1) HL.out
   have hc0:=HS.out.map.cell0
   have hn:=HM.out.toMapRaw.n_eq
   obtain⟨g0,rfl⟩:∃g0,A=some ⟨g0,0,none⟩:=(by obtain⟨g0,gp0,cp0,cs0,hA0,_⟩:=HM.out.at hp0;exact⟨g0,hA0⟩)
   have h55:=find_c HS.out.map (HK.out.new HS.out.new) hp0 (by omega)
   have hn0:((n:Int) == 0)=false:=by simp;omega
   have hn1:n<=1000000:=by omega
   have HPL:=zqH hple
   clear hple hn
   go_upto_region 6 with(go_at_call 196;refine h55.mono ?_;rintro e W3 ⟨p,i,f,rfl,hf,hn3⟩;have HFD:=zqH hf;have HS3:=zqH (HS.out.next hn3);clear h55 hf hn3 hc0)
   clear HS
   have hp:p<ps.length:=by obtain⟨X1,X2,X3,X4,e1,e2,_⟩:=HFD.out;rw[e1,e2];simp
   obtain⟨g0',gp,cp,cs,e1,hvp,hcp,hop,hep,hpos⟩:=HS3.out.map.at hp
   cases e1
   have hpn:p<n:=by have:=HM.out.toMapRaw.n_eq;omega
   have hb0:=zaa HS3.out.box 0 _ rfl
   have hb1:=zaa HS3.out.box 1 _ rfl
   have hc0:=HS3.out.map.cell0
   cases f with
   | true=>
     have hi:i<ps[p].length:=by obtain⟨_,hi,_,_,_⟩:=set_old (v:=v) HM.out.good HFD.out;exact hi
     obtain⟨k1,v1,hk1,hv1,-,-⟩:=page_cells hop hep (List.getElem?_eq_getElem hi)
     have f0:=own_frozen hop (i*2)
     have f1:(W3.setCell ⟨gp,i*2,none⟩ (.slice A1 nk c1)).frozen? ⟨gp,i*2+1,none⟩=false:=own_frozen (zbk hop (i:=i*2) (by omega) (.slice A1 nk c1)) (i*2+1)
     have f2:∃u,(W3.setCell ⟨gp,i*2,none⟩ (.slice A1 nk c1)).cell? ⟨gp,i*2+1,none⟩=some u:=by
      obtain⟨cur,h1,h2,_⟩:=own_blk hop
      have h3:=zab h1 (.slice A1 nk c1) (i:=i*2)
      have hl:=hop.1
      have hsz:i*2+1<cur.size:=by
       have:=congrArg List.length h2
       rw[List.length_take]at this
       simp at this;omega
      exact⟨_,zaa h3 (i*2+1) _ (Array.getElem?_eq_getElem (by simpa using hsz))⟩
     obtain⟨u2,hu2⟩:=f2
     obtain⟨m,hm⟩:∃m,m=ps[p].length:=⟨_,rfl⟩
     have him:i<m:=by omega
     rw[<-hm]at hcp
     have HEND:=zqH (set_here HS3.out HF.out HFD.out hp hvp hop hep)
     have HM2:=zqH hm
     clear hm hvp hop hep hpos hi
     go_wp2
     go_region
     all_goals go_wp2
     all_goals go_ret
     all_goals exact HEND.out.new ((Upd.refl _ _).drew)
   | false=>
     obtain⟨N,hN⟩:∃N,N=ps.flatten.length:=⟨_,rfl⟩
     have hc1:=HS3.out.map.cell1
     rw[<-hN]at hc1
     have hf1:=HS3.out.map.frozen 1
     have hN1:N<=1000000:=by have:=HL.out;omega
     have HN:=zqH hN
     clear hN
     go_upto_region 10 with fail
     refine letW (fun W4=>Hid (Pre base bm n c N w W3 W4 g0 vs D ps)) (zqH (by
      have h:=HS3.out.map.toMapRaw
      rw[<-HN.out]at h
      exact Pre.of h)) ?_
     intro W4 HP
     clear hc1 hf1 hc0 hb0 hb1
     have hgb:bx≠bm:=fun e=>by have h1:=HS3.out.fresh;have h2:=HS3.out.bm_lt;omega
     have hg0b:g0≠bm:=fun e=>HS3.out.map.bmA (by simp[Value.ownBlock,e])
     have hgpb:gp≠bm:=(HS3.out.map.away p _ gp hvp rfl).1
     have hg0l:g0<W3.heap.size:=(zak HS3.out.map.row (c:=g0) rfl).1
     have hgpl:gp<W3.heap.size:=(zak hop (c:=gp) rfl).1
     have hc0:W4.cell? ⟨bm,0,none⟩=some (.slice (some ⟨g0,0,none⟩) n c):=by obtain⟨t,ht⟩:=HP.out.blk;exact zaa ht 0 _ rfl
     have hcp4:=(HP.out.upd.cell (a:=⟨g0,p,none⟩) hg0l hg0b).trans hcp
     have hbox:=(HP.out.upd.block bx HS3.out.box_lt hgb).trans HS3.out.box
     have hb0:=zaa hbox 0 _ rfl
     have hb1:=zaa hbox 1 _ rfl
     have hop4:W4.ownsRow base 182 2 (.slice (some ⟨gp,0,none⟩) ps[p].length cp) ps[p].length cs:=zae hop (fun b hb hl=>HP.out.upd.block b hl (fun e=>by
      simp[Value.ownBlock]at hb
      exact hgpb (hb.trans e)))
     have hfew:=few_len HM.out hp
     have hi:i<=ps[p].length:=by obtain⟨_,hi,_⟩:=set_new (v:=v) HM.out.good HFD.out;exact hi
     have h56:∀Wx:World,Wx.heap=W4.heap.push (.cells #[.slice A1 nk c1,.slice A2 nv c2] 182)->Calls Tryz.prog 197 #[.slice (some ⟨gp,0,none⟩) ps[p].length cp,.int .i64 (i:Int),.slice (some ⟨W4.heap.size,0,none⟩) 1 1] Wx (Inserted base 182 2 Wx gp ps[p].length (cs.take (i*2) ++ [.slice A1 nk c1,.slice A2 nv c2] ++ cs.drop (i*2))):=fun Wx hx=>
      ins56 (zan hop4 _ hx) hep.oneCells hi hpos (by omega) (te:=182) (by rw[hx];simp) (by have:=HP.out.upd.size;omega) rfl (by intro u hu;simp at hu;rcases hu with rfl|rfl<;>rfl) (by rw[hx];have:=HB.out;have:=HS3.out.new.size;have:=HP.out.upd.size;simp;omega)
     have hput:∀(Wx:World) x W6,Inserted base 182 2 Wx gp ps[p].length (cs.take (i*2) ++ [.slice A1 nk c1,.slice A2 nv c2] ++ cs.drop (i*2)) x W6->Wx.heap=W4.heap.push (.cells #[.slice A1 nk c1,.slice A2 nv c2] 182)->Wx.tape=W4.tape->Wx.os=W4.os->Wx.output=W4.output->_:=fun Wx x W6 hins hx ht ho hu=>by
      have hXu:New W4 Wx:=⟨ho,hu,ht,by rw[hx];simp,fun b hb _=>by rw[hx,Array.getElem?_push_lt hb];simp[hb]⟩
      have hb5:∃t,Wx.heap[bm]?=some (.cells #[.slice (some ⟨g0,0,none⟩) n c,.int .i64 ((ps.flatten.length+1:Nat):Int)] t (0,0)):=by
       obtain⟨t,ht⟩:=HP.out.blk
       rw[HN.out]at ht
       exact⟨t,(hXu.block bm (zqA.1 ht).1 id).trans ht⟩
      exact put_state HS3.out hp hi rfl hvp hop hep (HP.out.upd.trans (hXu.mono (fun _ _ h=>h.elim))) hb5 hins
     have hkeep:∀(Wx:World) x W6,Inserted base 182 2 Wx gp ps[p].length (cs.take (i*2) ++ [.slice A1 nk c1,.slice A2 nv c2] ++ cs.drop (i*2)) x W6->Wx.heap=W4.heap.push (.cells #[.slice A1 nk c1,.slice A2 nv c2] 182)->∀b o v,b≠gp->W4.cell? ⟨b,o,none⟩=some v->W6.cell? ⟨b,o,none⟩=some v:=fun Wx x W6 hins hx b o v hb hc=>by
      obtain⟨_,_,_,_,hu,_⟩:=hins
      have hl:b<W4.heap.size:=zqB W4 ⟨b,o,none⟩ hc
      have h1:Wx.cell? ⟨b,o,none⟩=W4.cell? ⟨b,o,none⟩:=World.cell?_of_block (a:=⟨b,o,none⟩) (by rw[hx,Array.getElem?_push_lt hl];simp[hl])
      exact((hu.cell (a:=⟨b,o,none⟩) (by rw[hx];simp;omega) hb).trans h1).trans hc
     have hbmgp:bm≠gp:=Ne.symm hgpb
     have hg0gp:g0≠gp:=fun e=>(HS3.out.map.away p _ gp hvp rfl).2.1 (by rw[e];rfl)
     have hbxgp:bx≠gp:=fun e=>by have h1:=HS3.out.fresh;have h2:=(zak (HM.out.page p _ _ hvp (List.getElem?_eq_getElem hp)).choose_spec.1 (c:=gp) rfl).1;omega
     have hgi:∀(Wx:World) x W6,Inserted base 182 2 Wx gp ps[p].length (cs.take (i*2) ++ [.slice A1 nk c1,.slice A2 nv c2] ++ cs.drop (i*2)) x W6->New W4 Wx->∀g1 c1,x=.returned (.slice (some ⟨g1,0,none⟩) (ps[p].length+1) c1) → (∃v,vs[p]?=some v/\v.ownBlock=some g1)\/W4.heap.size<=g1:=fun Wx x W6 hins hu g1 c1 e=>by
      obtain⟨g',c',e',_,_,hg⟩:=hins
      rw[e']at e
      injection e with e
      injection e with e
      injection e with e
      injection e with e
      subst e
      exact hg.imp (fun e=>⟨_,hvp,by rw[e];rfl⟩) (fun e=>Nat.le_trans hu.size e)
     obtain⟨m,hm⟩:∃m,m=ps[p].length:=⟨_,rfl⟩
     rw[<-hm]at hgi
     have HGI:=zqH hgi
     clear hgi
     rw[<-hm]at hcp4 h56 hput hkeep
     have H56:=zqH h56;have HPUT:=zqH hput;have HKEEP:=zqH hkeep;have HMM:=zqH hm;have HPOS:=zqH hpos;have HFEW:=zqH hfew;have HI:=zqH hi;have HVP:=zqH hvp
     clear h56 hput hkeep hm hcp hop hop4 hep hpos hfew hi hbox hg0l hgpl
     go_region_held (fun w'=>w'.cell? ⟨bm,0,none⟩=some (.slice (some ⟨g0,0,none⟩) n c)/\w'.cell? ⟨g0,p,none⟩=some (.slice (some ⟨gp,0,none⟩) m cp)/\w'.cell? ⟨bx,0,none⟩=some (.slice A1 nk c1)/\w'.cell? ⟨bx,1,none⟩=some (.slice A2 nv c2)) (go_keep) (first
      | (go_at_call 197;refine(H56.out _ rfl).mono ?_;rintro e W6 hins;have hins0:=hins;have k0:=HKEEP.out _ _ _ hins rfl _ _ _ hbmgp hc0;have k1:=HKEEP.out _ _ _ hins rfl _ _ _ hg0gp hcp4;have k2:=HKEEP.out _ _ _ hins rfl _ _ _ hbxgp hb0;have k3:=HKEEP.out _ _ _ hins rfl _ _ _ hbxgp hb1;obtain⟨g1,cg1,rfl,kc0,⟨u1,ku1⟩,kf1,hPS,hUS⟩:=HPUT.out _ _ _ hins rfl rfl rfl rfl;have HPS:=zqH hPS;have HUS:=zqH hUS;have HGP:=zqH (HGI.out _ _ _ hins0 ⟨rfl,rfl,rfl,by simp,fun b hb _=>zaj _ hb⟩ _ _ rfl);clear hins hins0 hPS hUS))
     have HPG:Hid ((∃v,vs[p]?=some v/\v.ownBlock=some g1)\/W4.heap.size<=g1):=HGP
     clear HGP hc0 hb0 hb1 k1 k2 k3 k0 hcp4
     all_goals go_upto_region 12 with fail
     obtain⟨W7,hW7⟩:∃W7,W7=W6.setCell ⟨g0,p,none⟩ (.slice (some ⟨g1,0,none⟩) (m+1) cg1):=⟨_,rfl⟩
     rw[<-hW7]at HPS HUS ⊢
     clear hW7 kc0 ku1 kf1
     have hm32:m<=32:=by rw[HMM.out];exact HFEW.out
     have HG1:Hid ((∃v,vs[p]?=some v/\v.ownBlock=some g1)\/w.heap.size<=g1):=zqH (HPG.out.imp id (fun e=>Nat.le_trans (Nat.le_trans HS3.out.new.size HP.out.upd.size) e))
     by_cases hsm:m+1<=32
     · go_wp2
       go_ret
       exact put_end HS3.out HF.out HFD.out hp HMM.out hsm HG1.out HPS.out HUS.out
     · obtain rfl:m=32:=by omega
       clear hsm hm32
       obtain⟨cs',hcs'⟩:∃cs',cs'=cs.take (i*2) ++ [.slice A1 nk c1,.slice A2 nv c2] ++ cs.drop (i*2):=⟨_,rfl⟩
       rw[<-hcs']at HPS
       clear hcs'
       obtain⟨vs7,hvs7⟩:∃vs7,vs7=vs.set p (.slice (some ⟨g1,0,none⟩) (32+1) cg1):=⟨_,rfl⟩
       rw[<-hvs7]at HPS
       have HVS:=zqH hvs7
       clear hvs7
       have hc0:=HPS.out.raw.cell0
       have hown:=HPS.out.own
       have hcap:33<=cg1/\cg1<=maxLen:=⟨(Sl.of_own hown).le,(Sl.of_own hown).max⟩
       obtain⟨hcap1,hcap2⟩:=hcap
       unfold maxLen at hcap2
       have hrow:=HPS.out.raw.row
       have hpl:p<vs7.length:=by have:=hrow.1;omega
       obtain⟨u0,hu0⟩:∃u,W7.cell? ⟨g0,p,none⟩=some u:=by
        have:=(Sl.of_own hrow).cell rfl (List.getElem?_eq_getElem hpl)
        rw[Nat.zero_add]at this
        exact⟨_,this⟩
       have hfz:=own_frozen hrow p
       have h57:∀Wx,New W7 Wx->Calls Tryz.prog 198 #[.slice (some ⟨g1,0,none⟩) 16 cg1] Wx fun e w'=>∃g' c',e=.returned (.slice (some ⟨g',0,none⟩) 16 c')/\Wx.heap.size<=g'/\w'.ownsRow Wx.heap.size 182 2 (.slice (some ⟨g',0,none⟩) 16 c') 16 (cs'.take 32)/\New Wx w':=fun Wx hx=>by
        have hs:=(Sl.of_own hown).sub (a:=0) (b:=16) (by omega)
        exact clone_c (hs.new hx) (fun u hu=>(HPS.out.ents _ (List.getElem?_eq_getElem HPS.out.hp)).oneCells u (List.mem_of_mem_take hu)) (by omega) (by omega)
       have hk:∀Wx w',New W7 Wx->New Wx w'->w'.cell? ⟨bm,0,none⟩=some (.slice (some ⟨g0,0,none⟩) n c)/\w'.cell? ⟨g0,p,none⟩=some u0/\w'.frozen? ⟨g0,p,none⟩=false:=fun Wx w' hx hy=>by
        have hn:=hx.trans hy
        have l1:=zqB W7 ⟨bm,0,none⟩ hc0
        have l2:=zqB W7 ⟨g0,p,none⟩ hu0
        exact⟨(hn.cell (a:=⟨bm,0,none⟩) l1 id).trans hc0,(hn.cell (a:=⟨g0,p,none⟩) l2 id).trans hu0,(hn.frozen (a:=⟨g0,p,none⟩) l2 id).trans hfz⟩
       have H57:=zqH h57;have HKK:=zqH hk;have HOWN:=zqH hown
       clear h57 hk hown hrow hpl
       go_upto_region 13 with fail
       have hbg0:bm≠g0:=Ne.symm hg0b
       go_region_held (fun w'=>w'.cell? ⟨bm,0,none⟩=some (.slice (some ⟨g0,0,none⟩) n c)) (go_keep) (first
        | (go_at_call 198;refine(H57.out _ ((Upd.refl _ W7).drew)).mono ?_;rintro e W8 ⟨g8,c8,rfl,hg8,ho8,hn8⟩;obtain⟨j0,j1,j2⟩:=HKK.out _ _ ((Upd.refl _ W7).drew) hn8;have H8:=zqH (And.intro hg8 (And.intro ho8 hn8));clear hg8 ho8 hn8))
       go_upto_region 14 with fail
       obtain⟨W9,hW9⟩:∃W9,W9=W8.setCell ⟨g0,p,none⟩ (.slice (some ⟨g8,0,none⟩) 16 c8):=⟨_,rfl⟩
       have h9:=half_state HPS.out (by omega) (Upd.of_drew H8.out.2.2) H8.out.2.1 H8.out.1 (fun b hb=>by have h1:=HS3.out.dsub.2.1 b hb;have h2:=HUS.out.size;omega)
       have hS9:Upd (fun b=>b=g0) W8 W9:=by rw[hW9];exact Upd.setCell W8 _ rfl
       rw[<-hW9]at h9 ⊢
       clear hW9 hc0 hu0 hfz j0 j1 j2
       obtain⟨l',hl'⟩:∃l',l'=ps[p].take i ++ [(k,v)] ++ ps[p].drop i:=⟨_,rfl⟩
       have hat:(ps.set p (ps[p].take i ++ [(k,v)] ++ ps[p].drop i))[p]'HPS.out.hp=l':=by rw[hl'];simp
       rw[hat,HVS.out,List.set_set,List.set_set]at h9
       have hg1:g1≠g0:=fun e=>(HPS.out.raw.away p _ g1 HPS.out.at_ rfl).2.1 (by rw[e];rfl)
       have hn78:New W7 W8:=Upd.of_drew H8.out.2.2
       have hown9:W9.ownsRow base 182 2 (.slice (some ⟨g1,0,none⟩) (32+1) cg1) (32+1) cs':=zae (zae HOWN.out (fun b hb hl=>hn78.block b hl id)) (fun b hb hl=>hS9.block b hl (fun e=>by
        simp[Value.ownBlock]at hb
        exact hg1 (hb.trans e)))
       have hents7:=HPS.out.ents _ (List.getElem?_eq_getElem HPS.out.hp)
       rw[hat]at hents7
       have hents9:EntsAt (DD D w W3) W9 cs' l':=(hents7.imp (fun _ _ hb=>hb.upd hn78 (fun _ _=>id))).imp (fun _ _ hb=>hb.upd hS9 (fun b hd e=>by
        subst e
        exact HPS.out.raw.dA _ rfl hd))
       have hl33:l'.length=33:=by
        have:=HPS.out.len _ (List.getElem?_eq_getElem HPS.out.hp)
        rw[hat]at this;exact this
       have hc0:=h9.1.cell0
       obtain⟨vs9,hvs9⟩:∃vs9,vs9=vs.set p (.slice (some ⟨g8,0,none⟩) 16 c8):=⟨_,rfl⟩
       rw[<-hvs9]at h9
       have h57:∀Wx,New W9 Wx->Calls Tryz.prog 198 #[.slice (some ⟨g1,32,none⟩) 17 (cg1-16)] Wx fun e w'=>∃g' c',e=.returned (.slice (some ⟨g',0,none⟩) 17 c')/\Wx.heap.size<=g'/\w'.ownsRow Wx.heap.size 182 2 (.slice (some ⟨g',0,none⟩) 17 c') 17 (cs'.drop 32)/\New Wx w':=fun Wx hx=>by
        have hs:=(Sl.of_own hown9).sub (a:=16) (b:=17) (by omega)
        have hl:=hents9.length
        rw[List.take_of_length_le (by rw[List.length_drop];omega)]at hs
        exact clone_c (hs.new hx) (fun u hu=>hents9.oneCells u (List.mem_of_mem_drop hu)) (by omega) (by omega)
       have h58:∀(g10 c10:Nat) (W10 Wx:World),New W9 W10->W9.heap.size<=g10->Wx.heap=W10.heap.push (.cells #[.slice (some ⟨g10,0,none⟩) 17 c10] 251)->Calls Tryz.prog 199 #[.slice (some ⟨g0,0,none⟩) n c,.int .i64 ((p:Int)+1),.slice (some ⟨W10.heap.size,0,none⟩) 1 1] Wx (Inserted base 251 1 Wx g0 n (vs9.take (p+1) ++ [.slice (some ⟨g10,0,none⟩) 17 c10] ++ vs9.drop (p+1))):=fun g10 c10 W10 Wx hx hge he=>by
        have hg0l:g0<W9.heap.size:=(zak h9.1.row (c:=g0) rfl).1
        exact ins58 (i:=p+1) (zan (zae h9.1.row (fun b hb hl=>hx.block b hl id)) _ he) (fun u hu=>by
         obtain⟨j,hj⟩:=List.getElem?_of_mem hu
         obtain⟨l,_,hl⟩:=h9.1.page_at hj
         obtain⟨cc,ho,_⟩:=hl
         obtain⟨A',c',rfl⟩:=ownsRow_form ho
         rfl) (by omega) (by omega) (by omega) (te:=251) (by rw[he];simp) (by have:=hx.size;omega) rfl (by intro u hu;simp at hu;subst hu;rfl) (by rw[he];have h1:=HB.out;have h2:=h9.1.hb;have h3:=h9.1.bm_lt;have h4:=hx.size;simp;omega)
       have hsp:∀(g10 c10:Nat) (W10 Wx:World) (x:Ending) (W12:World),Inserted base 251 1 Wx g0 n (vs9.take (p+1) ++ [.slice (some ⟨g10,0,none⟩) 17 c10] ++ vs9.drop (p+1)) x W12 → (W9.drew.heap.size<=g10/\W10.ownsRow W9.drew.heap.size 182 2 (.slice (some ⟨g10,0,none⟩) 17 c10) 17 (cs'.drop 32)/\New W9.drew W10)->Wx.heap=W10.heap.push (.cells #[.slice (some ⟨g10,0,none⟩) 17 c10] 251)->Wx.tape=W10.tape->Wx.os=W10.os->Wx.output=W10.output->_:=fun g10 c10 W10 Wx x W12 hins hq he ht ho hu=>by
        have hn10:New W9 W10:=Upd.of_drew hq.2.2
        have hXu:New W10 Wx:=⟨ho,hu,ht,by rw[he];simp,fun b hb _=>by rw[he,Array.getElem?_push_lt hb];simp[hb]⟩
        exact split_state (l2:=l'.drop 16) h9.1 (by rw[List.length_set];exact hp) (hn10.trans hXu) (zan hq.2.1 _ he) hq.1 (by rw[List.length_drop];omega) ((hents9.imp (fun _ _ hb=>hb.upd (hn10.trans hXu) (fun _ _=>id))).drop 16) hins
       have HSP:=zqH hsp
       clear hsp
       have H9:=zqH h9;have H57b:=zqH h57;have H58:=zqH h58;have HVS9:=zqH hvs9;have HLL:=zqH hl';have HO9:=zqH hents9;have HL33:=zqH hl33
       have hbml:=h9.1.bm_lt
       have hk0:∀Wx,New W9 Wx->Wx.cell? ⟨bm,0,none⟩=some (.slice (some ⟨g0,0,none⟩) n c):=fun Wx hx=>(hx.cell (a:=⟨bm,0,none⟩) hbml id).trans hc0
       have HK0:=zqH hk0
       have hw1:IntKind.i64.wrap ((p:Int)+1)=(p:Int)+1:=by rw[IntKind.wrap_i64];omega
       clear h9 hS9 hat hown9 hents7 hents9 hl33 hvs9 hl' hn78 h57 h58 hk0 hg1
       go_region_with (first
        | (go_at_call 198;refine(H57b.out _ ((Upd.refl _ W9).drew)).mono ?_;rintro e W10 ⟨g10,c10,rfl,hg10,ho10,hn10⟩;have z0:=HK0.out _ (Upd.of_drew hn10);have z1:=HK0.out _ ((Upd.of_drew hn10).trans (Upd.alloc (fun _=>False) _ (.cells #[.slice (some ⟨g10,0,none⟩) 17 c10] 251)));have H10:=zqH (And.intro hg10 (And.intro ho10 hn10));clear hg10 ho10 hn10)
        | (go_at_call 199;refine(H58.out g10 c10 W10 _ (Upd.of_drew H10.out.2.2) H10.out.1 rfl).mono ?_;rintro e W12 hins;obtain⟨g2,c2',rfl,⟨u2,hu2⟩,hf2,hraw,hupd,hg2⟩:=HSP.out g10 c10 W10 _ _ _ hins H10.out rfl rfl rfl rfl;have HR13:=zqH (And.intro hraw (And.intro hupd hg2));clear hraw hupd hg2 hins))
       all_goals (obtain⟨W13,hW13⟩:∃W13,W13=W12.setCell ⟨bm,0,none⟩ (.slice (some ⟨g2,0,none⟩) (n+1) c2'):=⟨_,rfl⟩;rw[<-hW13]at HR13 ⊢;clear hW13 hu2 hf2)
       all_goals go_wp2
       all_goals go_ret
       all_goals
        have q1:=HR13.out.1
        rw[HVS9.out,HLL.out]at q1
        have hs1:w.heap.size<=W7.heap.size:=Nat.le_trans HS3.out.new.size HUS.out.size
        have hs2:w.heap.size<=W9.heap.size:=Nat.le_trans hs1 H9.out.2.size
        refine split_end HS3.out HF.out HFD.out hp HMM.out.symm q1 ?_ (Nat.le_trans hs1 H8.out.1) (Nat.le_trans hs2 H10.out.1) (HR13.out.2.2.imp id (fun e=>Nat.le_trans hs2 e))
        refine((HUS.out.mono (fun b _ hb=>touch_foot hb)).then H9.out.2 (fun b hb e=>?_)).then HR13.out.2.1 (fun b hb e=>?_)
        · rcases e with e|e|⟨y,hy,e⟩
          · exact .inl e
          · exact .inr (.inl e)
          · rw[List.getElem?_set,if_pos rfl,if_pos (by have:=HS3.out.map.len;omega)]at hy
            cases hy
            simp[Value.ownBlock]at e
            rcases HG1.out with⟨y,hy,e2⟩|hge
            · exact .inr (.inr (.inl ⟨y,List.mem_of_getElem? hy,by rw[e2,e]⟩))
            · rcases HPG.out with⟨y,hy,e2⟩|hge2
              · exact .inr (.inr (.inl ⟨y,List.mem_of_getElem? hy,by rw[e2,e]⟩))
              · have:=HP.out.upd.size;omega
        · rcases e with e|e
          · exact .inl e
          · exact .inr (.inl (by rw[e];rfl))
theorem found_get {ps:List (List Ent)} {k:Bs} {p i:Nat} (h:Gl.Found ps k p i true):∃(hp:p<ps.length) (u:Bs),(ps[p])[i]?=some (k,u)/\get ps.flatten k=some u:=by
 obtain⟨A,X,Y,C,rfl,rfl,rfl,hlow,hif⟩:=h
 rw[if_pos rfl]at hif
 obtain⟨u,Y',rfl,hh⟩:=hif
 refine⟨by simp,u,by simp,?_⟩
 have e:(A ++ (X ++ (k,u) :: Y') :: C).flatten=(A.flatten ++ X) ++ (k,u) :: (Y' ++ C.flatten):=by simp
 rw[e];exact get_old hlow
theorem found_none {ps:List (List Ent)} {k:Bs} {p i:Nat} (h:Gl.Found ps k p i false):get ps.flatten k=none:=by
 obtain⟨A,X,Y,C,rfl,rfl,rfl,hlow,hif⟩:=h
 simp only[Bool.false_eq_true,ite_false]at hif
 have e:(A ++ (X ++ Y) :: C).flatten=(A.flatten ++ X) ++ (Y ++ C.flatten):=by simp
 rw[e];exact get_none hlow hif
theorem find_nil {base bm n c na ca:Nat} {w:World} {D:Nat->Prop} {A Ak:Option Addr} {vs:List Value} (h:MapIn 182 251 base w bm D A n c vs []):
 Calls Tryz.prog 196 #[.pointer (some ⟨bm,0,none⟩),.slice Ak na ca] w fun e w'=>e=.returned (.tuple #[.int .i64 0,.int .i64 0,.bool false])/\w'=w:=by
 have hn:=h.n_eq
 have hc0:=h.cell0
 simp only[List.length_nil]at hn
 subst hn
 clear h
 go_enter Tryz.func196,Tryz.ntmps196
 go_wp2
 go_ret3
 exact⟨by simp[Act.eval],rfl⟩
def Got (w:World) (L:List Ent) (k:Bs) (e:Ending) (w':World):Prop:=
 New w w'/\((get L k=none/\e=.returned (.tuple #[.slice none 0 0,.bool false]))\/∃v A n c,get L k=some v/\e=.returned (.tuple #[.slice A n c,.bool true])/\BV (fun b=>w.heap.size<=b) w' (.slice A n c) v)
theorem pget_c {base bm n c nk ck:Nat} {w:World} {D:Nat->Prop} {A Ak:Option Addr} {vs:List Value} {ps:List (List Ent)} {k:Bs} (h:MapIn 182 251 base w bm D A n c vs ps) (hk:By w Ak nk ck k) (hlen:ps.flatten.length<=1000000) (hsz:∀e ∈ ps.flatten,e.2.length<=1073741824):
 Calls Tryz.prog 171 #[.pointer (some ⟨bm,0,none⟩),.slice Ak nk ck] w (Got w ps.flatten k):=by
 by_cases hps:ps=[]
 · subst hps
   have hv:vs=[]:=by have:=h.len;simpa using this
   have HF:=zqH (find_nil (na:=nk) (ca:=ck) (Ak:=Ak) h)
   clear h hk hlen hsz
   go_enter Tryz.func171,Tryz.ntmps171
   go_wp2_with (go_at_call 196;refine HF.out.mono ?_;rintro e W1 ⟨rfl,rfl⟩)
   go_ret2
   exact⟨Upd.refl _ _,.inl ⟨rfl,rfl⟩⟩
 · have hp0:0<ps.length:=List.length_pos_iff.2 hps
   have hple:ps.length<=1000000:=Nat.le_trans (pages_le h.good.1) hlen
   have h55:=find_c h hk hp0 (by omega)
   have HM:=zqH h;have HSZ:=zqH hsz
   obtain⟨g0,rfl⟩:∃g0,A=some ⟨g0,0,none⟩:=(by obtain⟨g0,gp0,cp0,cs0,hA0,_⟩:=h.at hp0;exact⟨g0,hA0⟩)
   have hn:=h.toMapRaw.n_eq
   have hn1:n<=1000000:=by omega
   clear h hk hsz hlen
   go_enter Tryz.func171,Tryz.ntmps171
   go_upto_region 2 with(go_at_call 196;refine h55.mono ?_;rintro e W3 ⟨p,i,f,rfl,hf,hn3⟩;have HFD:=zqH hf;have HN3:=zqH hn3;clear h55 hf hn3)
   cases f with
   | false=>
     go_wp2
     go_ret2
     exact⟨HN3.out,.inl ⟨found_none HFD.out,rfl⟩⟩
   | true=>
     obtain⟨hp,u,hpi,hget⟩:=found_get HFD.out
     have hM3:=HM.out.upd HN3.out (fun _ _=>id)
     obtain⟨g0',gp,cp,cs,e1,hvp,hcp,hop,hep,hpos⟩:=hM3.at hp
     cases e1
     have hi:i<ps[p].length:=(List.getElem?_eq_some_iff.1 hpi).1
     obtain⟨k1,v1,hk1,hv1,hbk,hbv⟩:=page_cells hop hep hpi
     obtain⟨A1,n1,c1,rfl,hby,hd⟩:=hbv
     have hc0:=hM3.cell0
     have hu:u.length<=1073741824:=HSZ.out (k,u) (List.mem_flatten.2 ⟨_,List.getElem_mem hp,List.mem_of_getElem? hpi⟩)
     have H33:=zqH (owned_c hby (by rw[<-hby.len];exact hu))
     have hpn:p<n:=by omega
     obtain⟨m,hm⟩:∃m,m=ps[p].length:=⟨_,rfl⟩
     have hsl:=Sl.of_own hop
     have hmc:m<=cp/\cp<=maxLen:=⟨by rw[hm];exact hsl.le,hsl.max⟩
     rw[<-hm]at hcp hi
     have HG:=zqH hget
     clear hM3 hvp hop hep hpos hby hbk hd hk1 hu hm hpi hsl hget
     go_wp2_with (go_at_call 107;refine H33.out.mono ?_;rintro e W4 ⟨A2,c2,rfl,hb2,hn4⟩;have HB2:=zqH hb2;have HN4:=zqH hn4;clear H33 hb2 hn4)
     go_ret2
     exact⟨HN3.out.trans HN4.out,.inr ⟨u,A2,n1,c2,HG.out,rfl,HB2.out.mono (fun b hb=>Nat.le_trans HN3.out.size hb)⟩⟩
end Go.Proofs.YtbhnjkegkadodaaGreatDoor

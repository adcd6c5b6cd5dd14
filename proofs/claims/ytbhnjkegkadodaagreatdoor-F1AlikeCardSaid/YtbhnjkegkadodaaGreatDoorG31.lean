/- Part of the proof. -/
import Derived.Test.YtbhnjkegkadodaaGreatDoorG30
import Derived.Test.YtbhnjkegkadodaaGreatDoorG16
set_option linter.all false
set_option maxRecDepth 100000
set_option maxHeartbeats 8000000
namespace Go.Proofs.YtbhnjkegkadodaaGreatDoor
open Go Go.RowKit Go.Proofs Gl
theorem joined_m {base bm n c p g0 gp cp gn cn m m':Nat} {w W6:World} {D:Nat->Prop} {vs:List Value} {ps:List (List Ent)} {zs:List Value} (h:MapIn 182 251 base w bm D (some ⟨g0,0,none⟩) n c vs ps) (hp:p+1<ps.length) (hm:m=(ps[p]'(by omega)).length) (hm':m'=ps[p+1].length)
 (hvp:vs[p]?=some (.slice (some ⟨gp,0,none⟩) m cp)) (hn:New w W6) (ho:W6.ownsRow base 182 2 (.slice (some ⟨gn,0,none⟩) (m+m') cn) (m+m') zs)
 (he:EntsAt D w zs (ps[p]'(by omega) ++ ps[p+1])) (hgn:w.heap.size<=gn):
 MapRaw 182 251 base (W6.setCell ⟨g0,p,none⟩ (.slice (some ⟨gn,0,none⟩) (m+m') cn)) bm D (some ⟨g0,0,none⟩) n c ps.flatten.length (vs.set p (.slice (some ⟨gn,0,none⟩) (m+m') cn)) (ps.set p (ps[p]'(by omega) ++ ps[p+1])) /\
 ∀(W8:World) en,Deleted base 251 1 (W6.setCell ⟨g0,p,none⟩ (.slice (some ⟨gn,0,none⟩) (m+m') cn)) g0 n c ((vs.set p (.slice (some ⟨gn,0,none⟩) (m+m') cn)).take (p+1) ++ (vs.set p (.slice (some ⟨gn,0,none⟩) (m+m') cn)).drop (p+1+1)) en W8->∀F:Nat->Prop,(∀b,foot bm D (some ⟨g0,0,none⟩) n c vs b->F b)->m+m'<=16 ->
  W8.cell? ⟨bm,0,none⟩=some (.slice (some ⟨g0,0,none⟩) n c)/\W8.frozen? ⟨bm,0,none⟩=false/\en=.returned (.slice (some ⟨g0,0,none⟩) (n-1) c) /\
  SetEnd base bm F w ps.flatten (.returned (.bool true)) (W8.setCell ⟨bm,0,none⟩ (.slice (some ⟨g0,0,none⟩) (n-1) c)):=by
 subst hm hm'
 exact⟨(joined_set h hp hvp hn ho he hgn).1,fun W8 en hd F hF hs=>joined_end h hF hp hs hvp hn ho he hgn hd⟩
theorem joins_do {base bm n c p:Nat} {w:World} {D F:Nat->Prop} {A:Option Addr} {vs:List Value} {ps:List (List Ent)} (h:MapIn 182 251 base w bm D A n c vs ps) (hF:∀b,foot bm D A n c vs b->F b) (hp:p+1<ps.length) (hps:ps.length<=1000000) (hs:ps[p].length+ps[p+1].length<=16):
 Calls Tryz.prog 210 #[.pointer (some ⟨bm,0,none⟩),.int .i64 (p:Int)] w (fun e w'=>e=.returned (.bool true)/\SetEnd base bm F w ps.flatten (.returned (.bool true)) w'):=by
 have HM:=zqH h;have HF:=zqH hF
 have hne0:∀g0,A=some ⟨g0,0,none⟩->g0≠bm:=fun g0 e e2=>by subst e;exact h.bmA (by simp[Value.ownBlock,e2])
 have hfz0:∀g0,A=some ⟨g0,0,none⟩->w.frozen? ⟨g0,p,none⟩=false:=fun g0 e=>by subst e;exact own_frozen h.row p
 have hc0:=h.cell0
 obtain⟨g0,gp,cp,cs,rfl,hvp,hcp,hop,hep,hpos⟩:=h.at (i:=p) (by omega)
 obtain⟨g0',gq,cq,cs',e0,hvq,hcq,hoq,heq,hposq⟩:=h.at (i:=p+1) hp
 cases e0
 obtain⟨m,hm⟩:∃m,m=ps[p].length:=⟨_,rfl⟩
 obtain⟨m',hm'⟩:∃m',m'=ps[p+1].length:=⟨_,rfl⟩
 rw[<-hm]at hcp hs hop hpos hvp
 rw[<-hm']at hcq hs hoq hposq hvq
 have hn:=h.n_eq
 have h1:decide ((p:Int)<0)=false:=by simp
 have h2:decide ((p:Int)+1 ≥ (n:Int))=false:=by simp;omega
 have h4:(p:Int)+1<(n:Int):=by omega
 have hp':p<=1000000:=by omega
 have hpn:p<n:=by omega
 have hpn1:p+1<n:=by omega
 have hw1:IntKind.i64.wrap ((p:Int)+1)=(p:Int)+1:=by rw[IntKind.wrap_i64];omega
 have h5:decide ((16:Int)<(m:Int)+(m':Int))=false:=by simp;omega
 have h251:∀Wx:World,Wx.heap=w.heap.push (.cells #[.slice (some ⟨gp,0,none⟩) m cp,.slice (some ⟨gq,0,none⟩) m' cq] 251)->Calls Tryz.prog 251 #[.slice (some ⟨w.heap.size,0,none⟩) 2 2] Wx (Cat Wx (m+m') (cs ++ cs')):=fun Wx hx=>
  concat_c (te:=251) (by rw[hx];simp) (zan hop _ hx) (zan hoq _ hx) hep.oneCells heq.oneCells hpos hposq (by omega)
 have hm32:m<=32:=by omega
 have hm33:m'<=32:=by omega
 have h6:decide ((m:Int)+(m':Int) > 16)=false:=by simp;omega
 have h7:¬(m:Int)+(m':Int) > 16:=by omega
 have H251:=zqH h251;have HMM:=zqH hm;have HMQ:=zqH hm';have HP:=zqH hp;have HPS:=zqH hps;have HS:=zqH hs
 have HBW:Hid (base<=w.heap.size):=zqH (by have:=HM.out.hb;have:=HM.out.bm_lt;omega)
 have HEN:=zqH (hep.append heq);have HVP:=zqH (And.intro hvp True.intro)
 clear h hF hn hps hvp hop hep hpos hvq hoq heq hposq hm hm' h251
 go_enter Tryz.func210,Tryz.ntmps210
 go_wp2
 go_quiet (fail)
 go_upto_region 3 with fail
 have hg0l:g0<w.heap.size:=zqB w _ hcp
 have hbml:bm<w.heap.size:=zqB w _ hc0
 have hk:∀(Wx W2:World),Wx.heap=w.heap.push (.cells #[.slice (some ⟨gp,0,none⟩) m cp,.slice (some ⟨gq,0,none⟩) m' cq] 251)->New Wx W2->∀b o v,w.cell? ⟨b,o,none⟩=some v->W2.cell? ⟨b,o,none⟩=some v:=fun Wx W2 hx hu b o v hc=>by
  have hl:b<w.heap.size:=zqB w ⟨b,o,none⟩ hc
  have h1:Wx.cell? ⟨b,o,none⟩=w.cell? ⟨b,o,none⟩:=World.cell?_of_block (a:=⟨b,o,none⟩) (by rw[hx,Array.getElem?_push_lt hl];simp[hl])
  exact((hu.cell (a:=⟨b,o,none⟩) (by rw[hx];simp;omega) id).trans h1).trans hc
 have hg0b:g0≠bm:=hne0 g0 rfl
 have hbg0:bm≠g0:=Ne.symm hg0b
 have hfz:w.frozen? ⟨g0,p,none⟩=false:=hfz0 g0 rfl
 have hkf:∀(Wx W2:World),Wx.heap=w.heap.push (.cells #[.slice (some ⟨gp,0,none⟩) m cp,.slice (some ⟨gq,0,none⟩) m' cq] 251)->New Wx W2->W2.frozen? ⟨g0,p,none⟩=false:=fun Wx W2 hx hu=>by
  have h1:New w Wx\/True:=.inr trivial
  have h2:Wx.frozen? ⟨g0,p,none⟩=w.frozen? ⟨g0,p,none⟩:=by
   have:Wx.heap[g0]?=w.heap[g0]?:=by rw[hx,Array.getElem?_push_lt hg0l];simp[hg0l]
   simp only[World.frozen?,this]
  exact((hu.frozen (a:=⟨g0,p,none⟩) (by rw[hx];simp;omega) id).trans h2).trans hfz
 have hnx:∀(Wx W2:World),Wx.heap=w.heap.push (.cells #[.slice (some ⟨gp,0,none⟩) m cp,.slice (some ⟨gq,0,none⟩) m' cq] 251)->Wx.tape=w.tape->Wx.os=w.os->Wx.output=w.output->New Wx W2->New w W2:=fun Wx W2 hx ht ho hu hn=>
  (⟨ho,hu,ht,by rw[hx];simp,fun b hb _=>by rw[hx,Array.getElem?_push_lt hb];simp[hb]⟩:New w Wx).trans hn
 have HNX:=zqH hnx;clear hnx
 have HK:=zqH hk;have HKF:=zqH hkf
 clear hk hkf hfz0 hne0
 have hS0:(w.drewN nq).drew.cell? ⟨bm,0,none⟩=some (.slice (some ⟨g0,0,none⟩) n c)/\(w.drewN nq).drew.cell? ⟨g0,p,none⟩=some (.slice (some ⟨gp,0,none⟩) m cp)/\(w.drewN nq).drew.cell? ⟨g0,p+1,none⟩=some (.slice (some ⟨gq,0,none⟩) m' cq):=⟨hc0,hcp,hcq⟩
 refine beginK 23 (fun w'=>w'.cell? ⟨bm,0,none⟩=some (.slice (some ⟨g0,0,none⟩) n c)/\w'.cell? ⟨g0,p,none⟩=some (.slice (some ⟨gp,0,none⟩) m cp)/\w'.cell? ⟨g0,p+1,none⟩=some (.slice (some ⟨gq,0,none⟩) m' cq)) (by kernel_rfl) (fun hcl=>?_)
 refine takeK 0 [0] rfl (by kernel_rfl) (by kernel_rfl) (by kernel_rfl) (by kernel_rfl) hcl (fun _ _ _ h=>h) (v:=.pointer (some ⟨bm,0,none⟩)) (Or.inl ⟨by rfl,?_⟩) hS0 (fun hcl2=>?_)
 · rintro w' ⟨y1,y2,y3⟩
   go_simp
 simp only[Act.put,zqP]
 replace hcl:=hcl2
 clear hcl2
 refine takeK 1 [1] rfl (by kernel_rfl) (by kernel_rfl) (by kernel_rfl) (by kernel_rfl) hcl (fun _ _ _ h=>h) (v:=.pointer (some ⟨bm,0,none⟩)) (Or.inl ⟨by rfl,?_⟩) hS0 (fun hcl2=>?_)
 · rintro w' ⟨y1,y2,y3⟩
   go_simp
 simp only[Act.put,zqP]
 replace hcl:=hcl2
 clear hcl2
 refine takeK 2 [2] rfl (by kernel_rfl) (by kernel_rfl) (by kernel_rfl) (by kernel_rfl) hcl (fun _ _ _ h=>h) (v:=.pointer (some ⟨bm,0,none⟩)) (Or.inl ⟨by rfl,?_⟩) hS0 (fun hcl2=>?_)
 · rintro w' ⟨y1,y2,y3⟩
   go_simp
 simp only[Act.put,zqP]
 replace hcl:=hcl2
 clear hcl2
 refine takeK 3 [3] rfl (by kernel_rfl) (by kernel_rfl) (by kernel_rfl) (by kernel_rfl) hcl (fun _ _ _ h=>h) (v:=.slice (some ⟨g0,0,none⟩) n c) (Or.inl ⟨by rfl,?_⟩) hS0 (fun hcl2=>?_)
 · rintro w' ⟨y1,y2,y3⟩
   go_simp
 simp only[Act.put,zqP]
 replace hcl:=hcl2
 clear hcl2
 refine takeK 4 [4] rfl (by kernel_rfl) (by kernel_rfl) (by kernel_rfl) (by kernel_rfl) hcl (fun _ _ _ h=>h) (v:=.int .i64 (p:Int)) (Or.inl ⟨by rfl,?_⟩) hS0 (fun hcl2=>?_)
 · rintro w' ⟨y1,y2,y3⟩
   go_simp
 simp only[Act.put,zqP]
 replace hcl:=hcl2
 clear hcl2
 refine takeK 5 [5] rfl (by kernel_rfl) (by kernel_rfl) (by kernel_rfl) (by kernel_rfl) hcl (fun _ _ _ h=>h) (v:=.pointer (some ⟨bm,0,none⟩)) (Or.inl ⟨by rfl,?_⟩) hS0 (fun hcl2=>?_)
 · rintro w' ⟨y1,y2,y3⟩
   go_simp
 simp only[Act.put,zqP]
 replace hcl:=hcl2
 clear hcl2
 refine takeK 6 [6] rfl (by kernel_rfl) (by kernel_rfl) (by kernel_rfl) (by kernel_rfl) hcl (fun _ _ _ h=>h) (v:=.pointer (some ⟨bm,0,none⟩)) (Or.inl ⟨by rfl,?_⟩) hS0 (fun hcl2=>?_)
 · rintro w' ⟨y1,y2,y3⟩
   go_simp
 simp only[Act.put,zqP]
 replace hcl:=hcl2
 clear hcl2
 refine takeK 7 [7] rfl (by kernel_rfl) (by kernel_rfl) (by kernel_rfl) (by kernel_rfl) hcl (fun _ _ _ h=>h) (v:=.pointer (some ⟨bm,0,none⟩)) (Or.inl ⟨by rfl,?_⟩) hS0 (fun hcl2=>?_)
 · rintro w' ⟨y1,y2,y3⟩
   go_simp
 simp only[Act.put,zqP]
 replace hcl:=hcl2
 clear hcl2
 refine takeK 8 [8] rfl (by kernel_rfl) (by kernel_rfl) (by kernel_rfl) (by kernel_rfl) hcl (fun _ _ _ h=>h) (v:=.slice (some ⟨g0,0,none⟩) n c) (Or.inl ⟨by rfl,?_⟩) hS0 (fun hcl2=>?_)
 · rintro w' ⟨y1,y2,y3⟩
   go_simp
 simp only[Act.put,zqP]
 replace hcl:=hcl2
 clear hcl2
 refine takeK 9 [9] rfl (by kernel_rfl) (by kernel_rfl) (by kernel_rfl) (by kernel_rfl) hcl (fun _ _ _ h=>h) (v:=.int .i64 (p:Int)) (Or.inl ⟨by rfl,?_⟩) hS0 (fun hcl2=>?_)
 · rintro w' ⟨y1,y2,y3⟩
   go_simp
 simp only[Act.put,zqP]
 replace hcl:=hcl2
 clear hcl2
 refine takeK 10 [10] rfl (by kernel_rfl) (by kernel_rfl) (by kernel_rfl) (by kernel_rfl) hcl (fun _ _ _ h=>h) (v:=.pointer (some ⟨g0,p,none⟩)) (Or.inl ⟨by rfl,?_⟩) hS0 (fun hcl2=>?_)
 · rintro w' ⟨y1,y2,y3⟩
   go_simp
 simp only[Act.put,zqP]
 replace hcl:=hcl2
 clear hcl2
 refine takeK 11 [11] rfl (by kernel_rfl) (by kernel_rfl) (by kernel_rfl) (by kernel_rfl) hcl (fun _ _ _ h=>h) (v:=.slice (some ⟨gp,0,none⟩) m cp) (Or.inl ⟨by rfl,?_⟩) hS0 (fun hcl2=>?_)
 · rintro w' ⟨y1,y2,y3⟩
   go_simp
 simp only[Act.put,zqP]
 replace hcl:=hcl2
 clear hcl2
 refine takeK 12 [12] rfl (by kernel_rfl) (by kernel_rfl) (by kernel_rfl) (by kernel_rfl) hcl (fun _ _ _ h=>h) (v:=.pointer (some ⟨bm,0,none⟩)) (Or.inl ⟨by rfl,?_⟩) hS0 (fun hcl2=>?_)
 · rintro w' ⟨y1,y2,y3⟩
   go_simp
 simp only[Act.put,zqP]
 replace hcl:=hcl2
 clear hcl2
 refine takeK 13 [13] rfl (by kernel_rfl) (by kernel_rfl) (by kernel_rfl) (by kernel_rfl) hcl (fun _ _ _ h=>h) (v:=.pointer (some ⟨bm,0,none⟩)) (Or.inl ⟨by rfl,?_⟩) hS0 (fun hcl2=>?_)
 · rintro w' ⟨y1,y2,y3⟩
   go_simp
 simp only[Act.put,zqP]
 replace hcl:=hcl2
 clear hcl2
 refine takeK 14 [14] rfl (by kernel_rfl) (by kernel_rfl) (by kernel_rfl) (by kernel_rfl) hcl (fun _ _ _ h=>h) (v:=.pointer (some ⟨bm,0,none⟩)) (Or.inl ⟨by rfl,?_⟩) hS0 (fun hcl2=>?_)
 · rintro w' ⟨y1,y2,y3⟩
   go_simp
 simp only[Act.put,zqP]
 replace hcl:=hcl2
 clear hcl2
 refine takeK 15 [15] rfl (by kernel_rfl) (by kernel_rfl) (by kernel_rfl) (by kernel_rfl) hcl (fun _ _ _ h=>h) (v:=.slice (some ⟨g0,0,none⟩) n c) (Or.inl ⟨by rfl,?_⟩) hS0 (fun hcl2=>?_)
 · rintro w' ⟨y1,y2,y3⟩
   go_simp
 simp only[Act.put,zqP]
 replace hcl:=hcl2
 clear hcl2
 refine takeK 16 [16] rfl (by kernel_rfl) (by kernel_rfl) (by kernel_rfl) (by kernel_rfl) hcl (fun _ _ _ h=>h) (v:=.int .i64 (p:Int)) (Or.inl ⟨by rfl,?_⟩) hS0 (fun hcl2=>?_)
 · rintro w' ⟨y1,y2,y3⟩
   go_simp
 simp only[Act.put,zqP]
 replace hcl:=hcl2
 clear hcl2
 refine takeK 17 [17] rfl (by kernel_rfl) (by kernel_rfl) (by kernel_rfl) (by kernel_rfl) hcl (fun _ _ _ h=>h) (v:=.int .i64 ((p:Int)+1)) (Or.inl ⟨by rfl,?_⟩) hS0 (fun hcl2=>?_)
 · rintro w' ⟨y1,y2,y3⟩
   go_simp
 simp only[Act.put,zqP]
 replace hcl:=hcl2
 clear hcl2
 refine takeK 18 [18] rfl (by kernel_rfl) (by kernel_rfl) (by kernel_rfl) (by kernel_rfl) hcl (fun _ _ _ h=>h) (v:=.pointer (some ⟨g0,p+1,none⟩)) (Or.inl ⟨by rfl,?_⟩) hS0 (fun hcl2=>?_)
 · rintro w' ⟨y1,y2,y3⟩
   go_simp
   intro hneg
   exfalso
   omega
 simp only[Act.put,zqP]
 replace hcl:=hcl2
 clear hcl2
 refine takeK 19 [19] rfl (by kernel_rfl) (by kernel_rfl) (by kernel_rfl) (by kernel_rfl) hcl (fun _ _ _ h=>h) (v:=.slice (some ⟨gq,0,none⟩) m' cq) (Or.inl ⟨by rfl,?_⟩) hS0 (fun hcl2=>?_)
 · rintro w' ⟨y1,y2,y3⟩
   go_simp
 simp only[Act.put,zqP]
 replace hcl:=hcl2
 clear hcl2
 refine oneK 20 rfl (by kernel_rfl) hcl (by rfl) (fun K hK=>?_)
 go_simp
 have hnA:New w ((w.drewN nq).drew.alloc (.cells #[.slice (some ⟨gp,0,none⟩) m cp,.slice (some ⟨gq,0,none⟩) m' cq] 251)):=((Upd.refl _ w).drewN _).drew.trans (Upd.alloc _ _ _)
 refine hK _ _ (fun _=>⟨(hnA.cell (a:=⟨bm,0,none⟩) hbml id).trans hc0,(hnA.cell (a:=⟨g0,p,none⟩) hg0l id).trans hcp,(hnA.cell (a:=⟨g0,p+1,none⟩) hg0l id).trans hcq⟩) (fun hcl2=>?_)
 clear hcl hK K hS0 hnA
 try simp only[Act.put,zqP]
 refine oneK 21 rfl (by kernel_rfl) hcl2 (by rfl) (fun K hK=>?_)
 go_simp
 refine(H251.out _ rfl).mono ?_
 rintro e W6 ⟨cz,rfl,hoz,hnz⟩
 have k0:=HK.out _ _ rfl hnz _ _ _ hc0
 have k1:=HK.out _ _ rfl hnz _ _ _ hcp
 have k2:=HK.out _ _ rfl hnz _ _ _ hcq
 have k3:=HKF.out _ _ rfl hnz
 have HNA:Hid (New w W6):=zqH (((Upd.refl _ w).drewN _).drew.trans ((Upd.alloc _ _ _).trans hnz))
 have HOA:=zqH (own_base hoz (Nat.le_trans HBW.out ((((Upd.refl (fun _=>False) w).drewN _).drew.trans (Upd.alloc _ _ _)).size)))
 have hS0:W6.cell? ⟨bm,0,none⟩=some (.slice (some ⟨g0,0,none⟩) n c)/\W6.cell? ⟨g0,p,none⟩=some (.slice (some ⟨gp,0,none⟩) m cp)/\W6.cell? ⟨g0,p+1,none⟩=some (.slice (some ⟨gq,0,none⟩) m' cq):=⟨k0,k1,k2⟩
 refine hK _ _ (fun _=>hS0) (fun hcl=>?_)
 clear hoz hnz hcl2 hK K
 try simp only[Act.put,zqP]
 refine takeK 22 [22] rfl (by kernel_rfl) (by kernel_rfl) (by kernel_rfl) (by kernel_rfl) hcl (fun _ _ _ h=>h) (v:=.pointer (some ⟨g0,p,none⟩)) (Or.inl ⟨by rfl,?_⟩) hS0 (fun hcl2=>?_)
 · rintro w' ⟨y1,y2,y3⟩
   go_simp
 simp only[Act.put,zqP]
 replace hcl:=hcl2
 clear hcl2
 refine oneK 23 rfl (by kernel_rfl) hcl (by rfl) (fun K hK=>?_)
 go_simp
 refine hK _ _ (fun h=>absurd rfl h) (fun _=>?_)
 clear hcl hK K hS0
 try simp only[Act.put,zqP]
 refine doneK (by kernel_rfl) ?_ _
 all_goals
   obtain⟨W7,hW7⟩:∃W7,W7=W6.setCell ⟨g0,p,none⟩ (.slice (some ⟨w.heap.size+1,0,none⟩) (m+m') cz):=⟨_,rfl⟩
   rw[<-hW7]
   have hJ:=joined_m HM.out HP.out HMM.out HMQ.out HVP.out.1 HNA.out HOA.out HEN.out ((((Upd.refl (fun _=>False) w).drewN _).drew.trans (Upd.alloc _ _ _)).size)
   rw[show((w.drewN (nq+1)).alloc (.cells #[.slice (some ⟨gp,0,none⟩) m cp,.slice (some ⟨gq,0,none⟩) m' cq] 251)).heap.size=w.heap.size+1 from by show(Array.push _ _).size=_;rw[Array.size_push];rfl,<-hW7]at hJ
   have c7:=hJ.1.cell0
   have h209:∀Wx,New W7 Wx->Calls Tryz.prog 209 #[.slice (some ⟨g0,0,none⟩) n c,.int .i64 ((p:Int)+1),.int .i64 ((p:Int)+2)] Wx (Deleted base 251 1 Wx g0 n c ((vs.set p (.slice (some ⟨w.heap.size+1,0,none⟩) (m+m') cz)).take (p+1) ++ (vs.set p (.slice (some ⟨w.heap.size+1,0,none⟩) (m+m') cz)).drop (p+1+1))):=fun Wx hx=>by
    have:=del251 (i:=p+1) (zae hJ.1.row (fun b hb hl=>hx.block b hl id)) (fun u hu=>by
     obtain⟨j,hj⟩:=List.getElem?_of_mem hu
     obtain⟨l,_,hl⟩:=hJ.1.page_at hj
     obtain⟨cc,ho,_⟩:=hl
     obtain⟨A',c',rfl⟩:=ownsRow_form ho
     rfl) hpn1 (by have:=HM.out.toMapRaw.n_eq;have:=HPS.out;omega)
    rw[show((p+1:Nat):Int)+1=(p:Int)+2 by omega,show((p+1:Nat):Int)=(p:Int)+1 by omega]at this
    exact this
   have HJ:=zqH (fun W8 en hd=>hJ.2 W8 en hd F HF.out (by have:=HS.out;omega));have H209:=zqH (h209 W7 (Upd.refl _ _))
   have hw2:IntKind.i64.wrap ((p:Int)+2)=(p:Int)+2:=by rw[IntKind.wrap_i64];omega
   clear hJ h209 hW7 k0 k1 k2 k3 hc0 hcp hcq
   go_wp2_with (go_at_call 209;refine H209.out.mono ?_;rintro e W8 hd;obtain⟨k0,kf,rfl,hend⟩:=HJ.out W8 e hd;have HEND:=zqH hend;clear hd hend)
   go_ret
   exact⟨rfl,HEND.out⟩
def Joins (base bm:Nat) (F:Nat->Prop) (w:World) (L:List Ent) (e:Ending) (w':World):Prop:=(e=.returned (.bool false)/\New w w')\/(e=.returned (.bool true)/\SetEnd base bm F w L (.returned (.bool true)) w')
theorem joins_any {base bm n c p:Nat} {w:World} {D F:Nat->Prop} {A:Option Addr} {vs:List Value} {ps:List (List Ent)} (h:MapIn 182 251 base w bm D A n c vs ps) (hF:∀b,foot bm D A n c vs b->F b) (hp:p<ps.length) (hps:ps.length<=1000000):
 Calls Tryz.prog 210 #[.pointer (some ⟨bm,0,none⟩),.int .i64 (p:Int)] w (Joins base bm F w ps.flatten):=by
 by_cases h1:p+1=ps.length
 · exact(joins_last h h1 hps).mono fun e w' h=>.inl h
 · have hp1:p+1<ps.length:=by omega
   by_cases h2:16<(ps[p]'hp).length+ps[p+1].length
   · exact(joins_many h hp1 hps h2).mono fun e w' h=>.inl h
   · exact(joins_do h hF hp1 hps (by omega)).mono fun e w' hs=>.inr hs
theorem joins_pred {base bm n c p:Nat} {w:World} {D F:Nat->Prop} {A:Option Addr} {vs:List Value} {ps:List (List Ent)} (h:MapIn 182 251 base w bm D A n c vs ps) (hF:∀b,foot bm D A n c vs b->F b) (hp:p<ps.length) (hps:ps.length<=1000000):
 Calls Tryz.prog 210 #[.pointer (some ⟨bm,0,none⟩),.int .i64 ((p:Int)-1)] w (Joins base bm F w ps.flatten):=by
 cases p with
 | zero=>exact joins_neg.mono fun e w' h=>.inl h
 | succ p=>
   rw[show((p+1:Nat):Int)-1=(p:Int) by omega]
   exact joins_any h hF (by omega) hps
theorem cut_state {base bm n c p i g0 gp cp m:Nat} {W3 Wx W6:World} {D:Nat->Prop} {vs cs:List Value} {ps:List (List Ent)} {en:Ending} (h:MapIn 182 251 base W3 bm D (some ⟨g0,0,none⟩) n c vs ps) (hp:p<ps.length) (hi:i<ps[p].length) (hm:m=ps[p].length)
 (hvp:vs[p]?=some (.slice (some ⟨gp,0,none⟩) m cp)) (hep:EntsAt D W3 cs ps[p]) (hu4:Upd (fun b=>b=bm) W3 Wx) (hb4:∃t,Wx.heap[bm]?=some (.cells #[.slice (some ⟨g0,0,none⟩) n c,.int .i64 ((ps.flatten.length:Int)-1)] t (0,0)))
 (hd:Deleted base 182 2 Wx gp m cp (cs.take (i*2) ++ cs.drop ((i+1)*2)) en W6):
 en=.returned (.slice (some ⟨gp,0,none⟩) (m-1) cp)/\W6.cell? ⟨bm,0,none⟩=some (.slice (some ⟨g0,0,none⟩) n c)/\(∃u,W6.cell? ⟨g0,p,none⟩=some u)/\W6.frozen? ⟨g0,p,none⟩=false /\
 MapRaw 182 251 base (W6.setCell ⟨g0,p,none⟩ (.slice (some ⟨gp,0,none⟩) (m-1) cp)) bm D (some ⟨g0,0,none⟩) n c (ps.set p (cut1 ps[p] i)).flatten.length (vs.set p (.slice (some ⟨gp,0,none⟩) (m-1) cp)) (ps.set p (cut1 ps[p] i)) /\
 Upd (touch bm (some ⟨g0,0,none⟩) n c vs p) W3 (W6.setCell ⟨g0,p,none⟩ (.slice (some ⟨gp,0,none⟩) (m-1) cp)):=by
 obtain⟨he,ho,hu⟩:=hd
 have hgp:=h.away p _ gp hvp rfl
 have hg0b:g0≠bm:=fun e=>h.bmA (by simp[Value.ownBlock,e])
 have hg0gp:g0≠gp:=fun e=>hgp.2.1 (by rw[e];rfl)
 have hU:Upd (fun b=>b=bm\/(Value.slice (some ⟨gp,0,none⟩) m cp).ownBlock=some b) W3 W6:=(hu4.mono (fun _ _ e=>.inl e)).trans (hu.mono (fun b _ e=>.inr (by rw[e];rfl)))
 obtain⟨t,ht⟩:=hb4
 have hbm:=(hu.block bm (zqA.1 ht).1 (fun e=>hgp.1 e.symm)).trans ht
 have hlen:(ps.set p (cut1 ps[p] i)).flatten.length=ps.flatten.length-1/\0<ps.flatten.length:=by
  have e1:ps=ps.take p ++ ps[p] :: ps.drop (p+1):=by
   conv=>lhs;rw[<-List.take_append_drop p ps,List.drop_eq_getElem_cons hp]
  have e2:ps.set p (cut1 ps[p] i)=ps.take p ++ cut1 ps[p] i :: ps.drop (p+1):=by rw[List.set_eq_take_append_cons_drop,if_pos hp]
  have f1:ps.flatten.length=(ps.take p).flatten.length+(ps[p].length+(ps.drop (p+1)).flatten.length):=by
   conv=>lhs;rw[e1]
   simp only[List.flatten_append,List.flatten_cons,List.length_append]
  have f2:(ps.set p (cut1 ps[p] i)).flatten.length=(ps.take p).flatten.length+((cut1 ps[p] i).length+(ps.drop (p+1)).flatten.length):=by
   rw[e2];simp only[List.flatten_append,List.flatten_cons,List.length_append]
  have f3:=cut1_len hi
  omega
 have hrow:=h.row
 obtain⟨cur,r1,r2,_⟩:=own_blk hrow
 have hg0l:g0<W3.heap.size:=(zqA.1 r1).1
 have hn:=h.toMapRaw.n_eq
 have r6:=(hU.block g0 hg0l (fun e=>e.elim hg0b (fun e=>hg0gp (by simp[Value.ownBlock]at e;exact e.symm)))).trans r1
 have hcell:∃u,W6.cell? ⟨g0,p,none⟩=some u:=by
  have:=congrArg List.length r2
  rw[List.length_take]at this
  have hl:=hrow.1
  exact⟨_,zaa r6 p _ (Array.getElem?_eq_getElem (by simp at this;omega))⟩
 refine⟨he,zaa hbm 0 _ rfl,hcell,zac r6 p,?_⟩
 have hDg:∀b,D b->¬(b=bm\/(Value.slice (some ⟨gp,0,none⟩) m cp).ownBlock=some b):=fun b hb=>by
  rintro(e|e)
  · exact h.dm (e▸hb)
  · simp[Value.ownBlock]at e;exact hgp.2.2 (e▸hb)
 have he6:EntsAt D W6 (cs.take (i*2) ++ cs.drop ((i+1)*2)) (cut1 ps[p] i):=by
  have:=hep.imp (D':=D) (w':=W6) (fun _ _ hb=>hb.upd hU hDg)
  exact(this.take i).append (this.drop (i+1))
 have hN:((ps.set p (cut1 ps[p] i)).flatten.length:Int)=(ps.flatten.length:Int)-1:=by omega
 exact raw_replace h.toMapRaw hp hvp hU ⟨t,by rw[hN];exact hbm⟩ (fun _ hb=>hb) (fun _ hb=>.inl hb) (fun b hb=>zqL (h.lim b hb) hU.size) ho (by rw[cut1_len hi,hm]) he6 (.inl rfl) hgp.2.2
theorem pages_cut {ps:List (List Ent)} {p i:Nat} (hg:Pages ps) (hp:p<ps.length) (hi:i<ps[p].length) (h1:1<ps[p].length) (hs:Sorted (ps.set p (cut1 ps[p] i)).flatten):Pages (ps.set p (cut1 ps[p] i)):=by
 refine⟨fun l hl=>?_,hs⟩
 rcases List.mem_or_eq_of_mem_set hl with h|rfl
 · exact hg.1 l h
 · intro e
   have:=congrArg List.length e
   rw[cut1_len hi]at this
   simp at this;omega
theorem few_cut {ps:List (List Ent)} {p i:Nat} (hg:∀l ∈ ps,l.length<=32) (hp:p<ps.length) (hi:i<ps[p].length):∀l ∈ ps.set p (cut1 ps[p] i),l.length<=32:=by
 intro l hl
 rcases List.mem_or_eq_of_mem_set hl with h|rfl
 · exact hg l h
 · rw[cut1_len hi];have:=hg _ (List.getElem_mem hp);omega
theorem touch_foot' {bm n c p:Nat} {A:Option Addr} {vs:List Value} {D:Nat->Prop} {b:Nat} (h:touch bm A n c vs p b):foot bm D A n c vs b:=by
 rcases h with e|e|⟨v,hv,e⟩
 · exact .inl e
 · exact .inr (.inl e)
 · exact .inr (.inr (.inl ⟨v,List.mem_of_getElem? hv,e⟩))
theorem foot_cut {bm n c p gp m m' cp:Nat} {D:Nat->Prop} {A:Option Addr} {vs:List Value} (hvp:vs[p]?=some (.slice (some ⟨gp,0,none⟩) m cp)) {b:Nat} (h:foot bm D A n c (vs.set p (.slice (some ⟨gp,0,none⟩) m' cp)) b):foot bm D A n c vs b:=by
 rcases h with h|h|⟨v,hm,h⟩|h
 · exact .inl h
 · exact .inr (.inl h)
 · rcases List.mem_or_eq_of_mem_set hm with hm|rfl
   · exact .inr (.inr (.inl ⟨v,hm,h⟩))
   · exact .inr (.inr (.inl ⟨_,List.mem_of_getElem? hvp,h⟩))
 · exact .inr (.inr (.inr h))
theorem gone_end {base bm n c p i g0 gp cp:Nat} {w W3 W7 W8:World} {D F:Nat->Prop} {vs:List Value} {ps:List (List Ent)} {k:Bs} {en:Ending} (h:MapIn 182 251 base W3 bm D (some ⟨g0,0,none⟩) n c vs ps) (hF:∀b,foot bm D (some ⟨g0,0,none⟩) n c vs b->F b) (hn3:New w W3) (hf:Gl.Found ps k p i true) (hp:p<ps.length) (hi:i<ps[p].length) (h1:ps[p].length=1)
 (hvp:vs[p]?=some (.slice (some ⟨gp,0,none⟩) 1 cp)) (h7:MapRaw 182 251 base W7 bm D (some ⟨g0,0,none⟩) n c (ps.set p (cut1 ps[p] i)).flatten.length (vs.set p (.slice (some ⟨gp,0,none⟩) 0 cp)) (ps.set p (cut1 ps[p] i))) (hu7:Upd (touch bm (some ⟨g0,0,none⟩) n c vs p) W3 W7)
 (hd:Deleted base 251 1 W7 g0 n c ((vs.set p (.slice (some ⟨gp,0,none⟩) 0 cp)).take p ++ (vs.set p (.slice (some ⟨gp,0,none⟩) 0 cp)).drop (p+1)) en W8):
 W8.cell? ⟨bm,0,none⟩=some (.slice (some ⟨g0,0,none⟩) n c)/\W8.frozen? ⟨bm,0,none⟩=false/\en=.returned (.slice (some ⟨g0,0,none⟩) (n-1) c) /\
 SetEnd base bm F w (del ps.flatten k) (.returned (.bool true)) (W8.setCell ⟨bm,0,none⟩ (.slice (some ⟨g0,0,none⟩) (n-1) c)):=by
 obtain⟨_,_,hfl,_⟩:=found_del h.good hf
 obtain⟨k0,kf,ke,h9,hu9⟩:=page_out (i:=p) h7 (by rw[List.length_set];exact hp) hd
 have hce:cut1 ps[p] i=[]:=List.eq_nil_of_length_eq_zero (by rw[cut1_len hi,h1])
 rw[hce]at h9 hfl
 have hgf:=gone_flat hp
 have hset:(ps.set p []).take p ++ (ps.set p []).drop (p+1)=ps.take p ++ ps.drop (p+1):=by
  rw[List.take_set_of_le (Nat.le_refl _),List.drop_set_of_lt (Nat.lt_succ_self _)]
 rw[hset]at hgf h9
 have hfl2:(ps.take p ++ ps.drop (p+1)).flatten=del ps.flatten k:=hgf.trans hfl
 have hmem:∀l ∈ ps.take p ++ ps.drop (p+1),l ∈ ps:=fun l hl=>(List.mem_append.1 hl).elim List.mem_of_mem_take List.mem_of_mem_drop
 rw[hfl,<-hfl2]at h9
 refine⟨k0,kf,ke,true,_,_,rfl,⟨D,_,_,_,_,⟨h9,⟨fun l hl=>h.good.1 l (hmem l hl),by rw[hfl2];exact sorted_del h.good.2⟩,fun l hl=>h.few l (hmem l hl)⟩,fun b hb=>hb⟩,fun x hx=>?_,?_,hfl2⟩
 · exact .inl (hF x (foot_cut hvp (foot_out hx)))
 · refine(hn3.mono (fun _ _ e=>e.elim)).trans ((hu7.mono (fun b _ hb=>hF b (touch_foot' hb))).then hu9 (fun b hb e=>?_))
   rcases e with e|e
   · exact hF b (.inl e)
   · exact hF b (.inr (.inl (by rw[e];rfl)))
theorem stay_end {base bm n c p i g0 gp cp m:Nat} {w W3 W7:World} {D F:Nat->Prop} {vs:List Value} {ps:List (List Ent)} {k:Bs} (h:MapIn 182 251 base W3 bm D (some ⟨g0,0,none⟩) n c vs ps) (hF:∀b,foot bm D (some ⟨g0,0,none⟩) n c vs b->F b) (hn3:New w W3) (hf:Gl.Found ps k p i true) (hp:p<ps.length) (hi:i<ps[p].length) (h1:1<ps[p].length)
 (hvp:vs[p]?=some (.slice (some ⟨gp,0,none⟩) m cp)) (h7:MapRaw 182 251 base W7 bm D (some ⟨g0,0,none⟩) n c (ps.set p (cut1 ps[p] i)).flatten.length (vs.set p (.slice (some ⟨gp,0,none⟩) (m-1) cp)) (ps.set p (cut1 ps[p] i))) (hu7:Upd (touch bm (some ⟨g0,0,none⟩) n c vs p) W3 W7):
 MapIn 182 251 base W7 bm D (some ⟨g0,0,none⟩) n c (vs.set p (.slice (some ⟨gp,0,none⟩) (m-1) cp)) (ps.set p (cut1 ps[p] i))/\(∀b,foot bm D (some ⟨g0,0,none⟩) n c (vs.set p (.slice (some ⟨gp,0,none⟩) (m-1) cp)) b->F b)/\Upd F w W7/\(ps.set p (cut1 ps[p] i)).flatten=del ps.flatten k:=by
 obtain⟨_,_,hfl,_⟩:=found_del h.good hf
 refine⟨⟨h7,pages_cut h.good hp hi h1 (by rw[hfl];exact sorted_del h.good.2),few_cut h.few hp hi⟩,fun b hb=>hF b (foot_cut hvp hb),(hn3.mono (fun _ _ e=>e.elim)).trans (hu7.mono (fun b _ hb=>hF b (touch_foot' hb))),hfl⟩
theorem same_end {base bm n c:Nat} {w W:World} {D F:Nat->Prop} {A:Option Addr} {vs:List Value} {ps:List (List Ent)} {L:List Ent} (b:Bool) (h:MapIn 182 251 base W bm D A n c vs ps) (hF:∀b,foot bm D A n c vs b->F b) (hu:Upd F w W) (hL:ps.flatten=L):SetEnd base bm F w L (.returned (.bool b)) W:=
 ⟨b,F,ps,rfl,⟨D,A,n,c,vs,h,hF⟩,fun _ hx=>.inl hx,hu,hL⟩
theorem pdel_c {base bm n c nk ck:Nat} {w:World} {D F:Nat->Prop} {A Ak:Option Addr} {vs:List Value} {ps:List (List Ent)} {k:Bs} (h:MapIn 182 251 base w bm D A n c vs ps) (hF:∀b,foot bm D A n c vs b->F b) (hk:By w Ak nk ck k) (hlen:ps.flatten.length<=1000000):
 Calls Tryz.prog 142 #[.pointer (some ⟨bm,0,none⟩),.slice Ak nk ck] w (SetEnd base bm F w (del ps.flatten k)):=by
 by_cases hps:ps=[]
 · subst hps
   have HE:=zqH (same_end (L:=del ([]:List (List Ent)).flatten k) false h hF (Upd.refl F w) rfl)
   have HFN:=zqH (find_nil (na:=nk) (ca:=ck) (Ak:=Ak) h)
   clear h hF hk hlen
   go_enter Tryz.func142,Tryz.ntmps142
   go_wp2_with (go_at_call 196;refine HFN.out.mono ?_;rintro e W1 ⟨rfl,rfl⟩)
   go_ret
   exact HE.out
 · have hp0:0<ps.length:=List.length_pos_iff.2 hps
   have hple:ps.length<=1000000:=Nat.le_trans (pages_le h.good.1) hlen
   have h55:=find_c h hk hp0 (by omega)
   have HM:=zqH h;have HF:=zqH hF;have HPL:=zqH hple;have HLEN:=zqH hlen
   obtain⟨g0,rfl⟩:∃g0,A=some ⟨g0,0,none⟩:=(by obtain⟨g0,gp0,cp0,cs0,hA0,_⟩:=h.at hp0;exact⟨g0,hA0⟩)
   have hn:=h.toMapRaw.n_eq
   have hn1:n<=1000000:=by omega
   clear h hF hk hlen hple hn
   go_enter Tryz.func142,Tryz.ntmps142
   go_upto_region 2 with(go_at_call 196;refine h55.mono ?_;rintro e W3 ⟨p,i,f,rfl,hf,hn3⟩;have HFD:=zqH hf;have HN3:=zqH hn3;clear h55 hf hn3)
   cases f with
   | false=>
     have HE:=zqH (same_end (L:=del ps.flatten k) false (HM.out.upd HN3.out (fun _ _=>id)) HF.out (HN3.out.mono (fun _ _ e=>e.elim)) (found_del_none HFD.out).1.symm)
     go_wp2
     go_ret
     exact HE.out
   | true=>
     obtain⟨hp,hi,x1,x2⟩:=found_del HM.out.good HFD.out
     clear x1 x2
     have h3:=HM.out.upd HN3.out (fun _ _=>id)
     obtain⟨g0',gp,cp,cs,e1,hvp,hcp,hop,hep,hpos⟩:=h3.at hp
     cases e1
     have hpn:p<n:=by have:=HM.out.toMapRaw.n_eq;omega
     have hc0:=h3.cell0
     have hc1:=h3.cell1
     have hfr1:=h3.frozen 1
     obtain⟨t3,ht3⟩:=h3.blk
     obtain⟨m,hm⟩:∃m,m=ps[p].length:=⟨_,rfl⟩
     have hm32:m<=32:=by rw[hm];exact few_len h3 hp
     rw[<-hm]at hcp hvp hop hpos
     obtain⟨N,hN⟩:∃N,N=ps.flatten.length:=⟨_,rfl⟩
     rw[<-hN]at hc1 ht3
     have hN1:N<=1000000:=by have:=HLEN.out;omega
     have hwN:IntKind.i64.wrap ((N:Int)-1)=(N:Int)-1:=by rw[IntKind.wrap_i64];omega
     have HP:=zqH hp;have HI:=zqH hi;have HMM:=zqH hm;have HNN:=zqH hN;have H3:=zqH h3;have HVP:=zqH (And.intro hvp hep);have HOP:=zqH hop;have HT3:=zqH ht3;have HPOS:=zqH hpos
     clear hi hm hN h3 hvp hep hop ht3 hpos
     go_upto_region 5 with fail
     obtain⟨W4,hW4⟩:∃W4,W4=W3.setCell ⟨bm,1,none⟩ (.int .i64 ((N:Int)-1)):=⟨_,rfl⟩
     rw[<-hW4]
     have hb4:W4.heap[bm]?=some (.cells #[.slice (some ⟨g0,0,none⟩) n c,.int .i64 ((N:Int)-1)] t3 (0,0)):=by rw[hW4,zab HT3.out];rfl
     have hu4:Upd (fun b=>b=bm) W3 W4:=by rw[hW4];exact Upd.setCell W3 _ rfl
     have hg0b:g0≠bm:=fun e=>H3.out.bmA (by simp[Value.ownBlock,e])
     have hgpb:gp≠bm:=(H3.out.away p _ gp HVP.out.1 rfl).1
     have d0:=zaa hb4 0 _ rfl
     have d1:W4.cell? ⟨g0,p,none⟩=some (.slice (some ⟨gp,0,none⟩) m cp):=(hu4.cell (a:=⟨g0,p,none⟩) (zqB W3 _ hcp) hg0b).trans hcp
     have h208:∀Wx,New W4 Wx->Calls Tryz.prog 208 #[.slice (some ⟨gp,0,none⟩) m cp,.int .i64 (i:Int),.int .i64 ((i:Int)+1)] Wx (Deleted base 182 2 Wx gp m cp (cs.take (i*2) ++ cs.drop ((i+1)*2))):=fun Wx hx=>
      del182 (zae (zae HOP.out (fun b hb hl=>hu4.block b hl (fun e=>by
       simp[Value.ownBlock]at hb
       exact hgpb (hb.trans e)))) (fun b hb hl=>hx.block b hl id)) HVP.out.2.oneCells (by have:=HMM.out;have:=HI.out;omega) (by omega)
     have hst:∀Wx W6 en,New W4 Wx->Deleted base 182 2 Wx gp m cp (cs.take (i*2) ++ cs.drop ((i+1)*2)) en W6->_:=fun Wx W6 en hx hd=>
      cut_state H3.out HP.out HI.out HMM.out HVP.out.1 HVP.out.2 (hu4.trans (hx.mono (fun _ _ e=>e.elim))) ⟨t3,by rw[<-HNN.out];exact(hx.block bm (zqA.1 hb4).1 id).trans hb4⟩ hd
     have H208:=zqH h208;have HST:=zqH hst
     have hi32:i<=32:=by have:=HMM.out;have:=HI.out;omega
     have hwi:IntKind.i64.wrap ((i:Int)+1)=(i:Int)+1:=by rw[IntKind.wrap_i64];omega
     clear h208 hst hb4 hu4 hW4 hc0 hc1 hfr1 hcp
     go_region_with (first
      | (go_at_call 208;refine(H208.out _ ((Upd.refl _ W4).drewN _)).mono ?_;rintro e W6 hd;obtain⟨rfl,k0,⟨u0,ku⟩,kf,hraw,hupd⟩:=HST.out _ W6 e ((Upd.refl _ W4).drewN _) hd;have HR:=zqH (And.intro hraw hupd);clear hd hraw hupd))
     all_goals
      obtain⟨hraw,hupd⟩:=HR.out
      have HPOS1:=HPOS.out
      obtain⟨m1,rfl⟩:∃m1,m=m1+1:=⟨m-1,by omega⟩
      rw[show m1+1-1=m1 from rfl]at hraw hupd ⊢
      obtain⟨W7,hW7⟩:∃W7,W7=W6.setCell ⟨g0,p,none⟩ (.slice (some ⟨gp,0,none⟩) m1 cp):=⟨_,rfl⟩
      rw[<-hW7]at hraw hupd ⊢
      have c0:=hraw.cell0
      have c1:W7.cell? ⟨g0,p,none⟩=some (.slice (some ⟨gp,0,none⟩) m1 cp):=own_cell hraw.row (by rw[List.getElem?_set,if_pos rfl,if_pos (by have:=H3.out.len;have:=HP.out;omega)])
      have HRW:=zqH (And.intro hraw hupd)
      clear hraw hupd HR hW7 k0 ku kf d0 d1 HST H208
      by_cases hz:m1=0
      · subst hz
        have h209:Calls Tryz.prog 209 #[.slice (some ⟨g0,0,none⟩) n c,.int .i64 (p:Int),.int .i64 ((p:Int)+1)] W7 (Deleted base 251 1 W7 g0 n c ((vs.set p (.slice (some ⟨gp,0,none⟩) 0 cp)).take p ++ (vs.set p (.slice (some ⟨gp,0,none⟩) 0 cp)).drop (p+1))):=
         del251 (i:=p) HRW.out.1.row (fun u hu=>by
          obtain⟨j,hj⟩:=List.getElem?_of_mem hu
          obtain⟨l,_,hl⟩:=HRW.out.1.page_at hj
          obtain⟨cc,ho,_⟩:=hl
          obtain⟨A',c',rfl⟩:=ownsRow_form ho
          rfl) hpn (by omega)
        have H209:=zqH h209
        have hwp:IntKind.i64.wrap ((p:Int)+1)=(p:Int)+1:=by rw[IntKind.wrap_i64];omega
        clear h209
        go_wp2_with (go_at_call 209;refine H209.out.mono ?_;rintro e W8 hd;obtain⟨k0,kf,rfl,hend⟩:=gone_end H3.out HF.out HN3.out HFD.out HP.out HI.out HMM.out.symm HVP.out.1 HRW.out.1 HRW.out.2 hd;have HEND:=zqH hend;clear hd hend)
        go_ret
        exact HEND.out
      · have hz1:((m1:Int) == 0)=false:=by simp;omega
        obtain⟨h7,hF7,hu7,hfl⟩:=stay_end H3.out HF.out HN3.out HFD.out HP.out HI.out (by have:=HMM.out;omega) HVP.out.1 HRW.out.1 HRW.out.2
        have hp7:p<(ps.set p (cut1 ps[p] i)).length:=by rw[List.length_set];exact HP.out
        have hl7:(ps.set p (cut1 ps[p] i)).length<=1000000:=by rw[List.length_set];exact HPL.out
        have hj1:=joins_any h7 hF7 hp7 hl7
        have HJ2:=zqH (fun Wx (hx:New W7 Wx)=>joins_pred (h7.upd hx (fun _ _=>id)) hF7 hp7 hl7)
        have HU7:=zqH hu7;have HFL:=zqH hfl;have H7:=zqH (And.intro h7 hF7)
        have hwp:IntKind.i64.wrap ((p:Int)-1)=(p:Int)-1:=by rw[IntKind.wrap_i64];omega
        clear h7 hF7 hu7 hfl hp7 hl7
        go_upto_region 9 with(go_at_call 210;refine hj1.mono ?_;rintro e W8 (⟨rfl,hn8⟩|⟨rfl,hs8⟩))
        · have hj2:=HJ2.out W8 hn8
          have HN8:=zqH hn8
          clear hn8 hj1
          go_wp2_with (go_at_call 210;refine hj2.mono ?_;rintro e W9 (⟨rfl,hn9⟩|⟨rfl,hs9⟩))
          · go_ret
            exact same_end true (H7.out.1.upd (HN8.out.trans hn9) (fun _ _=>id)) H7.out.2 (HU7.out.trans ((HN8.out.trans hn9).mono (fun _ _ e=>e.elim))) HFL.out
          · go_ret
            have hs:=SetEnd.trans (fun x hx=>.inl hx) (HU7.out.trans (HN8.out.mono (fun _ _ e=>e.elim))) hs9
            rw[HFL.out]at hs
            exact hs
        · go_ret
          have hs:=SetEnd.trans (fun x hx=>.inl hx) HU7.out hs8
          rw[HFL.out]at hs
          exact hs
end Go.Proofs.YtbhnjkegkadodaaGreatDoor

/- Part of the proof. -/
import Derived.Test.YtbhnjkegkadodaaGreatDoorG29
import Derived.Test.YtbhnjkegkadodaaGreatDoorG15
set_option linter.all false
set_option maxRecDepth 100000
set_option maxHeartbeats 8000000
namespace Gz
open Go Go.RowKit Go.Proofs Gl
theorem joined_m {base bm n c p g0 gp cp gn cn m m':Nat} {w W6:World} {D:Nat->Prop} {vs:List Value} {ps:List (List Ent)} {zs:List Value} (h:MapIn 182 251 base w bm D (some ⟨g0,0,none⟩) n c vs ps) (hp:p+1<ps.length) (hm:m=(ps[p]'(by omega)).length) (hm':m'=ps[p+1].length)
 (hvp:vs[p]?=some (.slice (some ⟨gp,0,none⟩) m cp)) (hn:New w W6) (ho:W6.ownsRow base 182 2 (.slice (some ⟨gn,0,none⟩) (m+m') cn) (m+m') zs)
 (he:EntsAt D w zs (ps[p]'(by omega) ++ ps[p+1])) (hgn:w.heap.size<=gn):
 MapRaw 182 251 base (W6.setCell ⟨g0,p,none⟩ (.slice (some ⟨gn,0,none⟩) (m+m') cn)) bm D (some ⟨g0,0,none⟩) n c ps.flatten.length (vs.set p (.slice (some ⟨gn,0,none⟩) (m+m') cn)) (ps.set p (ps[p]'(by omega) ++ ps[p+1])) /\
 ∀(W8:World) en,Deleted base 251 1 (W6.setCell ⟨g0,p,none⟩ (.slice (some ⟨gn,0,none⟩) (m+m') cn)) g0 n c ((vs.set p (.slice (some ⟨gn,0,none⟩) (m+m') cn)).take (p+1) ++ (vs.set p (.slice (some ⟨gn,0,none⟩) (m+m') cn)).drop (p+1+1)) en W8->∀F:Nat->Prop,(∀b,foot bm D (some ⟨g0,0,none⟩) n c vs b->F b)->m+m'<=16 ->
  W8.cell? ⟨bm,0,none⟩=some (.slice (some ⟨g0,0,none⟩) n c)/\W8.frozen? ⟨bm,0,none⟩=false/\en=.returned (.slice (some ⟨g0,0,none⟩) (n-1) c) /\
  SetEnd base bm F w ps.flatten (.returned (.bool true)) (W8.setCell ⟨bm,0,none⟩ (.slice (some ⟨g0,0,none⟩) (n-1) c)):=by
 subst hm hm';exact⟨(joined_set h hp hvp hn ho he hgn).1,fun W8 en hd F hF hs=>joined_end h hF hp hs hvp hn ho he hgn hd⟩
theorem joins_do {base bm n c p:Nat} {w:World} {D F:Nat->Prop} {A:Option Addr} {vs:List Value} {ps:List (List Ent)} (h:MapIn 182 251 base w bm D A n c vs ps) (hF:∀b,foot bm D A n c vs b->F b) (hp:p+1<ps.length) (hps:ps.length<=1000000) (hs:ps[p].length+ps[p+1].length<=16):
 Calls Tryz.prog 210 #[.pointer (some ⟨bm,0,none⟩),.int .i64 (p:Int)] w (fun e w'=>e=.returned (.bool true)/\SetEnd base bm F w ps.flatten (.returned (.bool true)) w'):=by
 have HM:=zqH h;have HF:=zqH hF;have d6:∀g0,A=some ⟨g0,0,none⟩->g0≠bm:=fun g0 e e2=>by subst e;exact h.bmA (by simp[Value.ownBlock,e2])
 have d7:∀g0,A=some ⟨g0,0,none⟩->w.frozen? ⟨g0,p,none⟩=false:=fun g0 e=>by subst e;exact own_frozen h.row p
 have b6:=h.cell0;obtain⟨g0,gp,cp,cs,rfl,e3,b0,e4,e5,b7⟩:=h.at (i:=p) (by omega);obtain⟨l3,gq,cq,i6,e0,g2,b8,e6,e7,a8⟩:=h.at (i:=p+1) hp;cases e0;obtain⟨m,hm⟩:=zE (ps[p].length);obtain⟨m',e8⟩:∃m',m'=ps[p+1].length:=⟨_,rfl⟩
 rw[<-hm]at b0 hs e4 b7 e3;rw[<-e8]at b8 hs e6 a8 g2;have hn:=h.n_eq;have h1:decide ((p:Int)<0)=false:=by simp
 have h2:decide ((p:Int)+1 ≥ (n:Int))=false:=by simp;omega
 have h4:(p:Int)+1<(n:Int):=by omega
 have j9:p<=1000000:=by omega
 have k4:p<n:=by omega
 have f3:p+1<n:=by omega
 have k5:IntKind.i64.wrap ((p:Int)+1)=(p:Int)+1:=by rw[IntKind.wrap_i64];omega
 have h5:decide ((16:Int)<(m:Int)+(m':Int))=false:=by simp;omega
 have d8:∀Wx:World,Wx.heap=w.heap.push (.cells #[.slice (some ⟨gp,0,none⟩) m cp,.slice (some ⟨gq,0,none⟩) m' cq] 251)->Calls Tryz.prog 251 #[.slice (some ⟨w.heap.size,0,none⟩) 2 2] Wx (Cat Wx (m+m') (cs ++ i6)):=fun Wx hx=>
  concat_c (te:=251) (by rw[hx];simp) (zar e4 _ hx) (zar e6 _ hx) e5.oneCells e7.oneCells b7 a8 (by omega)
 have j3:m<=32:=by omega
 have j4:m'<=32:=by omega
 have h6:decide ((m:Int)+(m':Int) > 16)=false:=by simp;omega
 have h7:¬(m:Int)+(m':Int) > 16:=by omega
 have f4:=zqH d8;have g7:=zqH hm;have g8:=zqH e8;have HP:=zqH hp;have g9:=zqH hps;have HS:=zqH hs;have h0:Hid (base<=w.heap.size):=zqH (by have:=HM.out.hb;have:=HM.out.bm_lt;omega);have h3:=zqH (e5.append e7);have h8:=zqH (zN e3 True.intro);clear h hF hn hps e3 e4 e5 b7 g2 e6 e7 a8 hm e8 d8;go_enter Tryz.func210,Tryz.ntmps210;go_wp2
 go_quiet (fail)
 go_upto_region 3 with fail
 have a9:g0<w.heap.size:=zqB w _ b0;have f5:bm<w.heap.size:=zqB w _ b6;have hk:∀(Wx W2:World),Wx.heap=w.heap.push (.cells #[.slice (some ⟨gp,0,none⟩) m cp,.slice (some ⟨gq,0,none⟩) m' cq] 251)->New Wx W2->∀b o v,w.cell? ⟨b,o,none⟩=some v->W2.cell? ⟨b,o,none⟩=some v:=fun Wx W2 hx hu b o v hc=>by
  have hl:b<w.heap.size:=zqB w ⟨b,o,none⟩ hc;have h1:Wx.cell? ⟨b,o,none⟩=w.cell? ⟨b,o,none⟩:=World.cell?_of_block (a:=⟨b,o,none⟩) (by rw[hx,Array.getElem?_push_lt hl];simp[hl])
  exact((hu.cell (a:=⟨b,o,none⟩) (by rw[hx];simp;omega) id).trans h1).trans hc
 have f6:g0≠bm:=d6 g0 rfl;have j5:bm≠g0:=Ne.symm f6;have h9:w.frozen? ⟨g0,p,none⟩=false:=d7 g0 rfl;have f7:∀(Wx W2:World),Wx.heap=w.heap.push (.cells #[.slice (some ⟨gp,0,none⟩) m cp,.slice (some ⟨gq,0,none⟩) m' cq] 251)->New Wx W2->W2.frozen? ⟨g0,p,none⟩=false:=fun Wx W2 hx hu=>by
  have h1:New w Wx\/True:=.inr trivial;have h2:Wx.frozen? ⟨g0,p,none⟩=w.frozen? ⟨g0,p,none⟩:=by
   have:Wx.heap[g0]?=w.heap[g0]?:=by rw[hx,Array.getElem?_push_lt a9];simp[a9]
   simp only[World.frozen?,this]
  exact((hu.frozen (a:=⟨g0,p,none⟩) (by rw[hx];simp;omega) id).trans h2).trans h9
 have f8:∀(Wx W2:World),Wx.heap=w.heap.push (.cells #[.slice (some ⟨gp,0,none⟩) m cp,.slice (some ⟨gq,0,none⟩) m' cq] 251)->Wx.tape=w.tape->Wx.os=w.os->Wx.output=w.output->New Wx W2->New w W2:=fun Wx W2 hx ht ho hu hn=>
  (⟨ho,hu,ht,by rw[hx];simp,fun b hb _=>by rw[hx,Array.getElem?_push_lt hb];simp[hb]⟩:New w Wx).trans hn
 have k8:=zqH f8;clear f8;have HK:=zqH hk;have i1:=zqH f7;clear hk f7 d7 d6;have a2:(w.drewN nq).drew.cell? ⟨bm,0,none⟩=some (.slice (some ⟨g0,0,none⟩) n c)/\(w.drewN nq).drew.cell? ⟨g0,p,none⟩=some (.slice (some ⟨gp,0,none⟩) m cp)/\(w.drewN nq).drew.cell? ⟨g0,p+1,none⟩=some (.slice (some ⟨gq,0,none⟩) m' cq):=⟨b6,b0,b8⟩
 refine beginK 23 (fun w'=>w'.cell? ⟨bm,0,none⟩=some (.slice (some ⟨g0,0,none⟩) n c)/\w'.cell? ⟨g0,p,none⟩=some (.slice (some ⟨gp,0,none⟩) m cp)/\w'.cell? ⟨g0,p+1,none⟩=some (.slice (some ⟨gq,0,none⟩) m' cq)) (by kernel_rfl) (fun a1=>?_);refine takeK 0 [0] rfl (by kernel_rfl) (by kernel_rfl) (by kernel_rfl) (by kernel_rfl) a1 (fun _ _ _ h=>h) (v:=.pointer (some ⟨bm,0,none⟩)) (Or.inl ⟨by rfl,?_⟩) a2 (fun hcl2=>?_)
 · rintro w' ⟨y1,y2,y3⟩;go_simp
 simp only[Act.put,zqP];replace a1:=hcl2;clear hcl2;refine takeK 1 [1] rfl (by kernel_rfl) (by kernel_rfl) (by kernel_rfl) (by kernel_rfl) a1 (fun _ _ _ h=>h) (v:=.pointer (some ⟨bm,0,none⟩)) (Or.inl ⟨by rfl,?_⟩) a2 (fun hcl2=>?_)
 · rintro w' ⟨y1,y2,y3⟩;go_simp
 simp only[Act.put,zqP];replace a1:=hcl2;clear hcl2;refine takeK 2 [2] rfl (by kernel_rfl) (by kernel_rfl) (by kernel_rfl) (by kernel_rfl) a1 (fun _ _ _ h=>h) (v:=.pointer (some ⟨bm,0,none⟩)) (Or.inl ⟨by rfl,?_⟩) a2 (fun hcl2=>?_)
 · rintro w' ⟨y1,y2,y3⟩;go_simp
 simp only[Act.put,zqP];replace a1:=hcl2;clear hcl2;refine takeK 3 [3] rfl (by kernel_rfl) (by kernel_rfl) (by kernel_rfl) (by kernel_rfl) a1 (fun _ _ _ h=>h) (v:=.slice (some ⟨g0,0,none⟩) n c) (Or.inl ⟨by rfl,?_⟩) a2 (fun hcl2=>?_)
 · rintro w' ⟨y1,y2,y3⟩;go_simp
 simp only[Act.put,zqP];replace a1:=hcl2;clear hcl2;refine takeK 4 [4] rfl (by kernel_rfl) (by kernel_rfl) (by kernel_rfl) (by kernel_rfl) a1 (fun _ _ _ h=>h) (v:=.int .i64 (p:Int)) (Or.inl ⟨by rfl,?_⟩) a2 (fun hcl2=>?_)
 · rintro w' ⟨y1,y2,y3⟩;go_simp
 simp only[Act.put,zqP];replace a1:=hcl2;clear hcl2;refine takeK 5 [5] rfl (by kernel_rfl) (by kernel_rfl) (by kernel_rfl) (by kernel_rfl) a1 (fun _ _ _ h=>h) (v:=.pointer (some ⟨bm,0,none⟩)) (Or.inl ⟨by rfl,?_⟩) a2 (fun hcl2=>?_)
 · rintro w' ⟨y1,y2,y3⟩;go_simp
 simp only[Act.put,zqP];replace a1:=hcl2;clear hcl2;refine takeK 6 [6] rfl (by kernel_rfl) (by kernel_rfl) (by kernel_rfl) (by kernel_rfl) a1 (fun _ _ _ h=>h) (v:=.pointer (some ⟨bm,0,none⟩)) (Or.inl ⟨by rfl,?_⟩) a2 (fun hcl2=>?_)
 · rintro w' ⟨y1,y2,y3⟩;go_simp
 simp only[Act.put,zqP];replace a1:=hcl2;clear hcl2;refine takeK 7 [7] rfl (by kernel_rfl) (by kernel_rfl) (by kernel_rfl) (by kernel_rfl) a1 (fun _ _ _ h=>h) (v:=.pointer (some ⟨bm,0,none⟩)) (Or.inl ⟨by rfl,?_⟩) a2 (fun hcl2=>?_)
 · rintro w' ⟨y1,y2,y3⟩;go_simp
 simp only[Act.put,zqP];replace a1:=hcl2;clear hcl2;refine takeK 8 [8] rfl (by kernel_rfl) (by kernel_rfl) (by kernel_rfl) (by kernel_rfl) a1 (fun _ _ _ h=>h) (v:=.slice (some ⟨g0,0,none⟩) n c) (Or.inl ⟨by rfl,?_⟩) a2 (fun hcl2=>?_)
 · rintro w' ⟨y1,y2,y3⟩;go_simp
 simp only[Act.put,zqP];replace a1:=hcl2;clear hcl2;refine takeK 9 [9] rfl (by kernel_rfl) (by kernel_rfl) (by kernel_rfl) (by kernel_rfl) a1 (fun _ _ _ h=>h) (v:=.int .i64 (p:Int)) (Or.inl ⟨by rfl,?_⟩) a2 (fun hcl2=>?_)
 · rintro w' ⟨y1,y2,y3⟩;go_simp
 simp only[Act.put,zqP];replace a1:=hcl2;clear hcl2;refine takeK 10 [10] rfl (by kernel_rfl) (by kernel_rfl) (by kernel_rfl) (by kernel_rfl) a1 (fun _ _ _ h=>h) (v:=.pointer (some ⟨g0,p,none⟩)) (Or.inl ⟨by rfl,?_⟩) a2 (fun hcl2=>?_)
 · rintro w' ⟨y1,y2,y3⟩;go_simp
 simp only[Act.put,zqP];replace a1:=hcl2;clear hcl2;refine takeK 11 [11] rfl (by kernel_rfl) (by kernel_rfl) (by kernel_rfl) (by kernel_rfl) a1 (fun _ _ _ h=>h) (v:=.slice (some ⟨gp,0,none⟩) m cp) (Or.inl ⟨by rfl,?_⟩) a2 (fun hcl2=>?_)
 · rintro w' ⟨y1,y2,y3⟩;go_simp
 simp only[Act.put,zqP];replace a1:=hcl2;clear hcl2;refine takeK 12 [12] rfl (by kernel_rfl) (by kernel_rfl) (by kernel_rfl) (by kernel_rfl) a1 (fun _ _ _ h=>h) (v:=.pointer (some ⟨bm,0,none⟩)) (Or.inl ⟨by rfl,?_⟩) a2 (fun hcl2=>?_)
 · rintro w' ⟨y1,y2,y3⟩;go_simp
 simp only[Act.put,zqP];replace a1:=hcl2;clear hcl2;refine takeK 13 [13] rfl (by kernel_rfl) (by kernel_rfl) (by kernel_rfl) (by kernel_rfl) a1 (fun _ _ _ h=>h) (v:=.pointer (some ⟨bm,0,none⟩)) (Or.inl ⟨by rfl,?_⟩) a2 (fun hcl2=>?_)
 · rintro w' ⟨y1,y2,y3⟩;go_simp
 simp only[Act.put,zqP];replace a1:=hcl2;clear hcl2;refine takeK 14 [14] rfl (by kernel_rfl) (by kernel_rfl) (by kernel_rfl) (by kernel_rfl) a1 (fun _ _ _ h=>h) (v:=.pointer (some ⟨bm,0,none⟩)) (Or.inl ⟨by rfl,?_⟩) a2 (fun hcl2=>?_)
 · rintro w' ⟨y1,y2,y3⟩;go_simp
 simp only[Act.put,zqP];replace a1:=hcl2;clear hcl2;refine takeK 15 [15] rfl (by kernel_rfl) (by kernel_rfl) (by kernel_rfl) (by kernel_rfl) a1 (fun _ _ _ h=>h) (v:=.slice (some ⟨g0,0,none⟩) n c) (Or.inl ⟨by rfl,?_⟩) a2 (fun hcl2=>?_)
 · rintro w' ⟨y1,y2,y3⟩;go_simp
 simp only[Act.put,zqP];replace a1:=hcl2;clear hcl2;refine takeK 16 [16] rfl (by kernel_rfl) (by kernel_rfl) (by kernel_rfl) (by kernel_rfl) a1 (fun _ _ _ h=>h) (v:=.int .i64 (p:Int)) (Or.inl ⟨by rfl,?_⟩) a2 (fun hcl2=>?_)
 · rintro w' ⟨y1,y2,y3⟩;go_simp
 simp only[Act.put,zqP];replace a1:=hcl2;clear hcl2;refine takeK 17 [17] rfl (by kernel_rfl) (by kernel_rfl) (by kernel_rfl) (by kernel_rfl) a1 (fun _ _ _ h=>h) (v:=.int .i64 ((p:Int)+1)) (Or.inl ⟨by rfl,?_⟩) a2 (fun hcl2=>?_)
 · rintro w' ⟨y1,y2,y3⟩;go_simp
 simp only[Act.put,zqP];replace a1:=hcl2;clear hcl2;refine takeK 18 [18] rfl (by kernel_rfl) (by kernel_rfl) (by kernel_rfl) (by kernel_rfl) a1 (fun _ _ _ h=>h) (v:=.pointer (some ⟨g0,p+1,none⟩)) (Or.inl ⟨by rfl,?_⟩) a2 (fun hcl2=>?_)
 · rintro w' ⟨y1,y2,y3⟩;go_simp;intro hneg
   exfalso
   omega
 simp only[Act.put,zqP];replace a1:=hcl2;clear hcl2;refine takeK 19 [19] rfl (by kernel_rfl) (by kernel_rfl) (by kernel_rfl) (by kernel_rfl) a1 (fun _ _ _ h=>h) (v:=.slice (some ⟨gq,0,none⟩) m' cq) (Or.inl ⟨by rfl,?_⟩) a2 (fun hcl2=>?_)
 · rintro w' ⟨y1,y2,y3⟩;go_simp
 simp only[Act.put,zqP];replace a1:=hcl2;clear hcl2;refine oneK 20 rfl (by kernel_rfl) a1 (by rfl) (fun K hK=>?_);go_simp;have d5:New w ((w.drewN nq).drew.alloc (.cells #[.slice (some ⟨gp,0,none⟩) m cp,.slice (some ⟨gq,0,none⟩) m' cq] 251)):=((Upd.refl _ w).drewN _).drew.trans (zU _ _ _);refine hK _ _ (fun _=>⟨(d5.cell (a:=⟨bm,0,none⟩) f5 id).trans b6,(d5.cell (a:=⟨g0,p,none⟩) a9 id).trans b0,(d5.cell (a:=⟨g0,p+1,none⟩) a9 id).trans b8⟩) (fun hcl2=>?_);clear a1 hK K a2 d5;(try simp only[Act.put,zqP]);refine oneK 21 rfl (by kernel_rfl) hcl2 (by rfl) (fun K hK=>?_);go_simp;refine(f4.out _ rfl).mono ?_
 rintro e W6 ⟨cz,rfl,g3,b5⟩;have k0:=HK.out _ _ rfl b5 _ _ _ b6;have k1:=HK.out _ _ rfl b5 _ _ _ b0;have k2:=HK.out _ _ rfl b5 _ _ _ b8;have k3:=i1.out _ _ rfl b5;have i4:Hid (New w W6):=zqH (((Upd.refl _ w).drewN _).drew.trans ((zU _ _ _).trans b5));have i5:=zqH (own_base g3 (zT h0.out ((((Upd.refl (fun _=>False) w).drewN _).drew.trans (zU _ _ _)).size)));have a2:W6.cell? ⟨bm,0,none⟩=some (.slice (some ⟨g0,0,none⟩) n c)/\W6.cell? ⟨g0,p,none⟩=some (.slice (some ⟨gp,0,none⟩) m cp)/\W6.cell? ⟨g0,p+1,none⟩=some (.slice (some ⟨gq,0,none⟩) m' cq):=⟨k0,k1,k2⟩
 refine hK _ _ (fun _=>a2) (fun a1=>?_);clear g3 b5 hcl2 hK K;(try simp only[Act.put,zqP]);refine takeK 22 [22] rfl (by kernel_rfl) (by kernel_rfl) (by kernel_rfl) (by kernel_rfl) a1 (fun _ _ _ h=>h) (v:=.pointer (some ⟨g0,p,none⟩)) (Or.inl ⟨by rfl,?_⟩) a2 (fun hcl2=>?_)
 · rintro w' ⟨y1,y2,y3⟩;go_simp
 simp only[Act.put,zqP];replace a1:=hcl2;clear hcl2;refine oneK 23 rfl (by kernel_rfl) a1 (by rfl) (fun K hK=>?_);go_simp;refine hK _ _ (fun h=>absurd rfl h) (fun _=>?_);clear a1 hK K a2;(try simp only[Act.put,zqP]);refine doneK (by kernel_rfl) ?_ _
 all_goals
   obtain⟨W7,e9⟩:=zE (W6.setCell ⟨g0,p,none⟩ (.slice (some ⟨w.heap.size+1,0,none⟩) (m+m') cz));rw[<-e9];have hJ:=joined_m HM.out HP.out g7.out g8.out h8.out.1 i4.out i5.out h3.out ((((Upd.refl (fun _=>False) w).drewN _).drew.trans (zU _ _ _)).size);rw[show((w.drewN (nq+1)).alloc (.cells #[.slice (some ⟨gp,0,none⟩) m cp,.slice (some ⟨gq,0,none⟩) m' cq] 251)).heap.size=w.heap.size+1 from by show(Array.push _ _).size=_;rw[Array.size_push];rfl,<-e9]at hJ;have c7:=hJ.1.cell0;have d9:∀Wx,New W7 Wx->Calls Tryz.prog 209 #[.slice (some ⟨g0,0,none⟩) n c,.int .i64 ((p:Int)+1),.int .i64 ((p:Int)+2)] Wx (Deleted base 251 1 Wx g0 n c ((vs.set p (.slice (some ⟨w.heap.size+1,0,none⟩) (m+m') cz)).take (p+1) ++ (vs.set p (.slice (some ⟨w.heap.size+1,0,none⟩) (m+m') cz)).drop (p+1+1))):=fun Wx hx=>by
    have:=del251 (i:=p+1) (zae hJ.1.row (fun b hb hl=>hx.block b hl id)) (fun u hu=>by
     obtain⟨j,hj⟩:=List.getElem?_of_mem hu;obtain⟨l,_,hl⟩:=hJ.1.page_at hj;obtain⟨cc,ho,_⟩:=hl;obtain⟨A',c',rfl⟩:=ownsRow_form ho
     rfl) f3 (by have:=HM.out.toMapRaw.n_eq;have:=g9.out;omega)
    rw[show((p+1:Nat):Int)+1=(p:Int)+2 by omega,show((p+1:Nat):Int)=(p:Int)+1 by omega]at this;exact this
   have HJ:=zqH (fun W8 en hd=>hJ.2 W8 en hd F HF.out (by have:=HS.out;omega));have f9:=zqH (d9 W7 (Upd.refl _ _));have l1:IntKind.i64.wrap ((p:Int)+2)=(p:Int)+2:=by rw[IntKind.wrap_i64];omega
   clear hJ d9 e9 k0 k1 k2 k3 b6 b0 b8
   go_wp2_with (go_at_call 209;refine f9.out.mono ?_;rintro e W8 hd;obtain⟨k0,kf,rfl,e1⟩:=HJ.out W8 e hd;have g1:=zqH e1;clear hd e1)
   go_ret
   exact⟨rfl,g1.out⟩
def Joins (base bm:Nat) (F:Nat->Prop) (w:World) (L:List Ent) (e:Ending) (w':World):Prop:=(e=.returned (.bool false)/\New w w')\/(e=.returned (.bool true)/\SetEnd base bm F w L (.returned (.bool true)) w')
theorem joins_any {base bm n c p:Nat} {w:World} {D F:Nat->Prop} {A:Option Addr} {vs:List Value} {ps:List (List Ent)} (h:MapIn 182 251 base w bm D A n c vs ps) (hF:∀b,foot bm D A n c vs b->F b) (hp:p<ps.length) (hps:ps.length<=1000000):
 Calls Tryz.prog 210 #[.pointer (some ⟨bm,0,none⟩),.int .i64 (p:Int)] w (Joins base bm F w ps.flatten):=by
 by_cases h1:p+1=ps.length
 · exact(joins_last h h1 hps).mono fun e w' h=>.inl h
 · have a1:p+1<ps.length:=by omega
   by_cases h2:16<(ps[p]'hp).length+ps[p+1].length
   · exact(joins_many h a1 hps h2).mono fun e w' h=>.inl h
   · exact(joins_do h hF a1 hps (by omega)).mono fun e w' hs=>.inr hs
theorem joins_pred {base bm n c p:Nat} {w:World} {D F:Nat->Prop} {A:Option Addr} {vs:List Value} {ps:List (List Ent)} (h:MapIn 182 251 base w bm D A n c vs ps) (hF:∀b,foot bm D A n c vs b->F b) (hp:p<ps.length) (hps:ps.length<=1000000):
 Calls Tryz.prog 210 #[.pointer (some ⟨bm,0,none⟩),.int .i64 ((p:Int)-1)] w (Joins base bm F w ps.flatten):=by
 cases p with
 | zero=>exact joins_neg.mono fun e w' h=>.inl h
 | succ p=>
   rw[show((p+1:Nat):Int)-1=(p:Int) by omega];exact joins_any h hF (by omega) hps
theorem cut_state {base bm n c p i g0 gp cp m:Nat} {W3 Wx W6:World} {D:Nat->Prop} {vs cs:List Value} {ps:List (List Ent)} {en:Ending} (h:MapIn 182 251 base W3 bm D (some ⟨g0,0,none⟩) n c vs ps) (hp:p<ps.length) (hi:i<ps[p].length) (hm:m=ps[p].length)
 (hvp:vs[p]?=some (.slice (some ⟨gp,0,none⟩) m cp)) (hep:EntsAt D W3 cs ps[p]) (hu4:Upd (fun b=>b=bm) W3 Wx) (hb4:∃t,Wx.heap[bm]?=some (.cells #[.slice (some ⟨g0,0,none⟩) n c,.int .i64 ((ps.flatten.length:Int)-1)] t (0,0)))
 (hd:Deleted base 182 2 Wx gp m cp (cs.take (i*2) ++ cs.drop ((i+1)*2)) en W6):
 en=.returned (.slice (some ⟨gp,0,none⟩) (m-1) cp)/\W6.cell? ⟨bm,0,none⟩=some (.slice (some ⟨g0,0,none⟩) n c)/\(∃u,W6.cell? ⟨g0,p,none⟩=some u)/\W6.frozen? ⟨g0,p,none⟩=false /\
 MapRaw 182 251 base (W6.setCell ⟨g0,p,none⟩ (.slice (some ⟨gp,0,none⟩) (m-1) cp)) bm D (some ⟨g0,0,none⟩) n c (ps.set p (cut1 ps[p] i)).flatten.length (vs.set p (.slice (some ⟨gp,0,none⟩) (m-1) cp)) (ps.set p (cut1 ps[p] i)) /\
 Upd (touch bm (some ⟨g0,0,none⟩) n c vs p) W3 (W6.setCell ⟨g0,p,none⟩ (.slice (some ⟨gp,0,none⟩) (m-1) cp)):=by
 obtain⟨he,ho,hu⟩:=hd;have a1:=h.away p _ gp hvp rfl;have a5:g0≠bm:=fun e=>h.bmA (by simp[Value.ownBlock,e]);have a3:g0≠gp:=fun e=>a1.2.1 (by rw[e];rfl);have hU:Upd (fun b=>b=bm\/(Value.slice (some ⟨gp,0,none⟩) m cp).ownBlock=some b) W3 W6:=(hu4.mono (fun _ _ e=>.inl e)).trans (hu.mono (fun b _ e=>.inr (by rw[e];rfl)));obtain⟨t,ht⟩:=hb4;have a6:=(hu.block bm (zqA.1 ht).1 (fun e=>a1.1 e.symm)).trans ht;have b5:(ps.set p (cut1 ps[p] i)).flatten.length=ps.flatten.length-1/\0<ps.flatten.length:=by
  have e1:ps=ps.take p ++ ps[p] :: ps.drop (p+1):=by
   conv=>lhs;rw[<-List.take_append_drop p ps,List.drop_eq_getElem_cons hp]
  have e2:ps.set p (cut1 ps[p] i)=ps.take p ++ cut1 ps[p] i :: ps.drop (p+1):=by rw[List.set_eq_take_append_cons_drop,if_pos hp]
  have f1:ps.flatten.length=(ps.take p).flatten.length+(ps[p].length+(ps.drop (p+1)).flatten.length):=by
   conv=>lhs;rw[e1]
   simp only[List.flatten_append,List.flatten_cons,List.length_append]
  have f2:(ps.set p (cut1 ps[p] i)).flatten.length=(ps.take p).flatten.length+((cut1 ps[p] i).length+(ps.drop (p+1)).flatten.length):=by
   rw[e2];simp only[List.flatten_append,List.flatten_cons,List.length_append]
  have f3:=cut1_len hi;omega
 have a2:=h.row;obtain⟨cur,r1,r2,_⟩:=own_blk a2;have a7:g0<W3.heap.size:=(zqA.1 r1).1;have hn:=h.toMapRaw.n_eq;have r6:=(hU.block g0 a7 (fun e=>e.elim a5 (fun e=>a3 (by simp[Value.ownBlock]at e;exact e.symm)))).trans r1;have a4:∃u,W6.cell? ⟨g0,p,none⟩=some u:=by
  have:=congrArg List.length r2;rw[List.length_take]at this;have hl:=a2.1;exact⟨_,zaa r6 p _ (Array.getElem?_eq_getElem (by simp at this;omega))⟩
 refine⟨he,zaa a6 0 _ rfl,a4,zad r6 p,?_⟩;have a9:∀b,D b->¬(b=bm\/(Value.slice (some ⟨gp,0,none⟩) m cp).ownBlock=some b):=fun b hb=>by
  rintro(e|e)
  · exact h.dm (e▸hb)
  · simp[Value.ownBlock]at e;exact a1.2.2 (e▸hb)
 have b0:EntsAt D W6 (cs.take (i*2) ++ cs.drop ((i+1)*2)) (cut1 ps[p] i):=by
  have:=hep.imp (D':=D) (w':=W6) (fun _ _ hb=>hb.upd hU a9);exact(this.take i).append (this.drop (i+1))
 have hN:((ps.set p (cut1 ps[p] i)).flatten.length:Int)=(ps.flatten.length:Int)-1:=by omega
 exact raw_replace h.toMapRaw hp hvp hU ⟨t,by rw[hN];exact a6⟩ (fun _ hb=>hb) (fun _ hb=>.inl hb) (fun b hb=>zqL (h.lim b hb) hU.size) ho (by rw[cut1_len hi,hm]) b0 (.inl rfl) a1.2.2
theorem pages_cut {ps:List (List Ent)} {p i:Nat} (hg:Pages ps) (hp:p<ps.length) (hi:i<ps[p].length) (h1:1<ps[p].length) (hs:Sorted (ps.set p (cut1 ps[p] i)).flatten):Pages (ps.set p (cut1 ps[p] i)):=by
 refine⟨fun l hl=>?_,hs⟩;rcases List.mem_or_eq_of_mem_set hl with h|rfl
 · exact hg.1 l h
 · intro e;have:=congrArg List.length e;rw[cut1_len hi]at this;simp at this;omega
theorem few_cut {ps:List (List Ent)} {p i:Nat} (hg:∀l ∈ ps,l.length<=32) (hp:p<ps.length) (hi:i<ps[p].length):∀l ∈ ps.set p (cut1 ps[p] i),l.length<=32:=by
 intro l hl;rcases List.mem_or_eq_of_mem_set hl with h|rfl
 · exact hg l h
 · rw[cut1_len hi];have:=hg _ (List.getElem_mem hp);omega
theorem touch_foot' {bm n c p:Nat} {A:Option Addr} {vs:List Value} {D:Nat->Prop} {b:Nat} (h:touch bm A n c vs p b):foot bm D A n c vs b:=by
 rcases h with e|e|⟨v,hv,e⟩
 · exact .inl e
 · exact .inr (.inl e)
 · exact .inr (.inr (.inl ⟨v,List.mem_of_getElem? hv,e⟩))
theorem foot_cut {bm n c p gp m m' cp:Nat} {D:Nat->Prop} {A:Option Addr} {vs:List Value} (hvp:vs[p]?=some (.slice (some ⟨gp,0,none⟩) m cp)) {b:Nat} (h:foot bm D A n c (vs.set p (.slice (some ⟨gp,0,none⟩) m' cp)) b):foot bm D A n c vs b:=by
 rcases h with h|h|⟨v,hm,h⟩|h
 · exact .inl h
 · exact .inr (.inl h)
 · rcases List.mem_or_eq_of_mem_set hm with hm|rfl
   · exact .inr (.inr (.inl ⟨v,hm,h⟩))
   · exact .inr (.inr (.inl ⟨_,List.mem_of_getElem? hvp,h⟩))
 · exact .inr (.inr (.inr h))
theorem gone_end {base bm n c p i g0 gp cp:Nat} {w W3 W7 W8:World} {D F:Nat->Prop} {vs:List Value} {ps:List (List Ent)} {k:Bs} {en:Ending} (h:MapIn 182 251 base W3 bm D (some ⟨g0,0,none⟩) n c vs ps) (hF:∀b,foot bm D (some ⟨g0,0,none⟩) n c vs b->F b) (hn3:New w W3) (hf:Gl.Found ps k p i true) (hp:p<ps.length) (hi:i<ps[p].length) (h1:ps[p].length=1)
 (hvp:vs[p]?=some (.slice (some ⟨gp,0,none⟩) 1 cp)) (h7:MapRaw 182 251 base W7 bm D (some ⟨g0,0,none⟩) n c (ps.set p (cut1 ps[p] i)).flatten.length (vs.set p (.slice (some ⟨gp,0,none⟩) 0 cp)) (ps.set p (cut1 ps[p] i))) (hu7:Upd (touch bm (some ⟨g0,0,none⟩) n c vs p) W3 W7)
 (hd:Deleted base 251 1 W7 g0 n c ((vs.set p (.slice (some ⟨gp,0,none⟩) 0 cp)).take p ++ (vs.set p (.slice (some ⟨gp,0,none⟩) 0 cp)).drop (p+1)) en W8):
 W8.cell? ⟨bm,0,none⟩=some (.slice (some ⟨g0,0,none⟩) n c)/\W8.frozen? ⟨bm,0,none⟩=false/\en=.returned (.slice (some ⟨g0,0,none⟩) (n-1) c) /\
 SetEnd base bm F w (del ps.flatten k) (.returned (.bool true)) (W8.setCell ⟨bm,0,none⟩ (.slice (some ⟨g0,0,none⟩) (n-1) c)):=by
 obtain⟨_,_,a3,_⟩:=found_del h.good hf;obtain⟨k0,kf,ke,h9,a8⟩:=page_out (i:=p) h7 (by rw[List.length_set];exact hp) hd;have a7:cut1 ps[p] i=[]:=List.eq_nil_of_length_eq_zero (by rw[cut1_len hi,h1]);rw[a7]at h9 a3;have a4:=gone_flat hp;have a5:(ps.set p []).take p ++ (ps.set p []).drop (p+1)=ps.take p ++ ps.drop (p+1):=by
  rw[List.take_set_of_le (zR _),List.drop_set_of_lt (Nat.lt_succ_self _)]
 rw[a5]at a4 h9;have a1:(ps.take p ++ ps.drop (p+1)).flatten=del ps.flatten k:=a4.trans a3;have a2:∀l ∈ ps.take p ++ ps.drop (p+1),l ∈ ps:=fun l hl=>(List.mem_append.1 hl).elim List.mem_of_mem_take List.mem_of_mem_drop;rw[a3,<-a1]at h9;refine⟨k0,kf,ke,true,_,_,rfl,⟨D,_,_,_,_,⟨h9,⟨fun l hl=>h.good.1 l (a2 l hl),by rw[a1];exact sorted_del h.good.2⟩,fun l hl=>h.few l (a2 l hl)⟩,fun b hb=>hb⟩,fun x hx=>?_,?_,a1⟩
 · exact .inl (hF x (foot_cut hvp (foot_out hx)))
 · refine(hn3.mono (fun _ _ e=>e.elim)).trans ((hu7.mono (fun b _ hb=>hF b (touch_foot' hb))).then a8 (fun b hb e=>?_));rcases e with e|e
   · exact hF b (.inl e)
   · exact hF b (.inr (.inl (by rw[e];rfl)))
theorem stay_end {base bm n c p i g0 gp cp m:Nat} {w W3 W7:World} {D F:Nat->Prop} {vs:List Value} {ps:List (List Ent)} {k:Bs} (h:MapIn 182 251 base W3 bm D (some ⟨g0,0,none⟩) n c vs ps) (hF:∀b,foot bm D (some ⟨g0,0,none⟩) n c vs b->F b) (hn3:New w W3) (hf:Gl.Found ps k p i true) (hp:p<ps.length) (hi:i<ps[p].length) (h1:1<ps[p].length)
 (hvp:vs[p]?=some (.slice (some ⟨gp,0,none⟩) m cp)) (h7:MapRaw 182 251 base W7 bm D (some ⟨g0,0,none⟩) n c (ps.set p (cut1 ps[p] i)).flatten.length (vs.set p (.slice (some ⟨gp,0,none⟩) (m-1) cp)) (ps.set p (cut1 ps[p] i))) (hu7:Upd (touch bm (some ⟨g0,0,none⟩) n c vs p) W3 W7):
 MapIn 182 251 base W7 bm D (some ⟨g0,0,none⟩) n c (vs.set p (.slice (some ⟨gp,0,none⟩) (m-1) cp)) (ps.set p (cut1 ps[p] i))/\(∀b,foot bm D (some ⟨g0,0,none⟩) n c (vs.set p (.slice (some ⟨gp,0,none⟩) (m-1) cp)) b->F b)/\Upd F w W7/\(ps.set p (cut1 ps[p] i)).flatten=del ps.flatten k:=by
 obtain⟨_,_,a1,_⟩:=found_del h.good hf;refine⟨⟨h7,pages_cut h.good hp hi h1 (by rw[a1];exact sorted_del h.good.2),few_cut h.few hp hi⟩,fun b hb=>hF b (foot_cut hvp hb),(hn3.mono (fun _ _ e=>e.elim)).trans (hu7.mono (fun b _ hb=>hF b (touch_foot' hb))),a1⟩
theorem same_end {base bm n c:Nat} {w W:World} {D F:Nat->Prop} {A:Option Addr} {vs:List Value} {ps:List (List Ent)} {L:List Ent} (b:Bool) (h:MapIn 182 251 base W bm D A n c vs ps) (hF:∀b,foot bm D A n c vs b->F b) (hu:Upd F w W) (hL:ps.flatten=L):SetEnd base bm F w L (.returned (.bool b)) W:=
 ⟨b,F,ps,rfl,⟨D,A,n,c,vs,h,hF⟩,fun _ hx=>.inl hx,hu,hL⟩
theorem pdel_c {base bm n c nk ck:Nat} {w:World} {D F:Nat->Prop} {A Ak:Option Addr} {vs:List Value} {ps:List (List Ent)} {k:Bs} (h:MapIn 182 251 base w bm D A n c vs ps) (hF:∀b,foot bm D A n c vs b->F b) (hk:By w Ak nk ck k) (hlen:ps.flatten.length<=1000000):
 Calls Tryz.prog 142 #[.pointer (some ⟨bm,0,none⟩),.slice Ak nk ck] w (SetEnd base bm F w (del ps.flatten k)):=by
 by_cases hps:ps=[]
 · subst hps;have HE:=zqH (same_end (L:=del ([]:List (List Ent)).flatten k) false h hF (Upd.refl F w) rfl);have i7:=zqH (find_nil (na:=nk) (ca:=ck) (Ak:=Ak) h);clear h hF hk hlen;go_enter Tryz.func142,Tryz.ntmps142
   go_wp2_with (go_at_call 196;refine i7.out.mono ?_;rintro e W1 ⟨rfl,rfl⟩)
   go_ret
   exact HE.out
 · have f4:0<ps.length:=List.length_pos_iff.2 hps;have c5:ps.length<=1000000:=zT (pages_le h.good.1) hlen;have f5:=find_c h hk f4 (by omega);have HM:=zqH h;have HF:=zqH hF;have j0:=zqH c5;have f6:=zqH hlen;obtain⟨g0,rfl⟩:∃g0,A=some ⟨g0,0,none⟩:=(by obtain⟨g0,gp0,cp0,cs0,hA0,_⟩:=h.at f4;exact⟨g0,hA0⟩)
   have hn:=h.toMapRaw.n_eq;have l6:n<=1000000:=by omega
   clear h hF hk hlen c5 hn;go_enter Tryz.func142,Tryz.ntmps142
   go_upto_region 2 with(go_at_call 196;refine f5.mono ?_;rintro e W3 ⟨p,i,f,rfl,hf,h8⟩;have b0:=zqH hf;have a6:=zqH h8;clear f5 hf h8)
   cases f with
   | false=>
     have HE:=zqH (same_end (L:=del ps.flatten k) false (HM.out.upd a6.out (fun _ _=>id)) HF.out (a6.out.mono (fun _ _ e=>e.elim)) (found_del_none b0.out).1.symm);go_wp2;go_ret;exact HE.out
   | true=>
     obtain⟨hp,hi,x1,x2⟩:=found_del HM.out.good b0.out;clear x1 x2;have h3:=HM.out.upd a6.out (fun _ _=>id);obtain⟨m5,gp,cp,cs,e1,e7,b7,e8,h1,a8⟩:=h3.at hp;cases e1;have j1:p<n:=(by have:=HM.out.toMapRaw.n_eq;omega);have j3:=h3.cell0;have f7:=h3.cell1;have f8:=h3.frozen 1;obtain⟨t3,e9⟩:=h3.blk;obtain⟨m,hm⟩:=zE (ps[p].length);have k6:m<=32:=(by rw[hm];exact few_len h3 hp);rw[<-hm]at b7 e7 e8 a8;obtain⟨N,hN⟩:=zE ps.flatten.length;rw[<-hN]at f7 e9;have l7:N<=1000000:=(by have:=f6.out;omega);have l8:IntKind.i64.wrap ((N:Int)-1)=(N:Int)-1:=(by rw[IntKind.wrap_i64];omega);have HP:=zqH hp;have HI:=zqH hi;have a7:=zqH hm;have j4:=zqH hN;have H3:=zqH h3;have a3:=zqH (zN e7 h1);have j5:=zqH e8;have j6:=zqH e9;have g2:=zqH a8;clear hi hm hN h3 e7 h1 e8 e9 a8
     go_upto_region 5 with fail
     obtain⟨W4,b8⟩:=zE (W3.setCell ⟨bm,1,none⟩ (.int .i64 ((N:Int)-1)));rw[<-b8];have b5:W4.heap[bm]?=some (.cells #[.slice (some ⟨g0,0,none⟩) n c,.int .i64 ((N:Int)-1)] t3 (0,0)):=(by rw[b8,zac j6.out];rfl);have b6:Upd (fun b=>b=bm) W3 W4:=(by rw[b8];exact Upd.setCell W3 _ rfl);have g3:g0≠bm:=fun e=>H3.out.bmA (by simp[Value.ownBlock,e]);have g4:gp≠bm:=(H3.out.away p _ gp a3.out.1 rfl).1;have d0:=zaa b5 0 _ rfl;have d1:W4.cell? ⟨g0,p,none⟩=some (.slice (some ⟨gp,0,none⟩) m cp):=(b6.cell (a:=⟨g0,p,none⟩) (zqB W3 _ b7) g3).trans b7;have d5:∀Wx,New W4 Wx->Calls Tryz.prog 208 #[.slice (some ⟨gp,0,none⟩) m cp,.int .i64 (i:Int),.int .i64 ((i:Int)+1)] Wx (Deleted base 182 2 Wx gp m cp (cs.take (i*2) ++ cs.drop ((i+1)*2))):=fun Wx hx=>
      del182 (zae (zae j5.out (fun b hb hl=>b6.block b hl (fun e=>by
       simp[Value.ownBlock]at hb;exact g4 (hb.trans e)))) (fun b hb hl=>hx.block b hl id)) a3.out.2.oneCells (by have:=a7.out;have:=HI.out;omega) (by omega)
     have g5:∀Wx W6 en,New W4 Wx->Deleted base 182 2 Wx gp m cp (cs.take (i*2) ++ cs.drop ((i+1)*2)) en W6->_:=fun Wx W6 en hx hd=>
      cut_state H3.out HP.out HI.out a7.out a3.out.1 a3.out.2 (b6.trans (hx.mono (fun _ _ e=>e.elim))) ⟨t3,by rw[<-j4.out];exact(hx.block bm (zqA.1 b5).1 id).trans b5⟩ hd
     have d6:=zqH d5;have g6:=zqH g5;have k7:i<=32:=(by have:=a7.out;have:=HI.out;omega);have m0:IntKind.i64.wrap ((i:Int)+1)=(i:Int)+1:=(by rw[IntKind.wrap_i64];omega);clear d5 g5 b5 b6 b8 j3 f7 f8 b7
     go_region_with (first
      | (go_at_call 208;refine(d6.out _ ((Upd.refl _ W4).drewN _)).mono ?_;rintro e W6 hd;obtain⟨rfl,k0,⟨u0,ku⟩,kf,a1,a2⟩:=g6.out _ W6 e ((Upd.refl _ W4).drewN _) hd;have HR:=zqH (zN a1 a2);clear hd a1 a2))
     all_goals
      obtain⟨a1,a2⟩:=HR.out;have j7:=g2.out;obtain⟨m1,rfl⟩:∃m1,m=m1+1:=⟨m-1,by omega⟩
      rw[show m1+1-1=m1 from rfl]at a1 a2 ⊢;obtain⟨W7,h2⟩:=zE (W6.setCell ⟨g0,p,none⟩ (.slice (some ⟨gp,0,none⟩) m1 cp));rw[<-h2]at a1 a2 ⊢;have c0:=a1.cell0;have c1:W7.cell? ⟨g0,p,none⟩=some (.slice (some ⟨gp,0,none⟩) m1 cp):=own_cell a1.row (by rw[List.getElem?_set,if_pos rfl,if_pos (by have:=H3.out.len;have:=HP.out;omega)]);have a4:=zqH (zN a1 a2);clear a1 a2 HR h2 k0 ku kf d0 d1 g6 d6;by_cases hz:m1=0
      · subst hz;have d7:Calls Tryz.prog 209 #[.slice (some ⟨g0,0,none⟩) n c,.int .i64 (p:Int),.int .i64 ((p:Int)+1)] W7 (Deleted base 251 1 W7 g0 n c ((vs.set p (.slice (some ⟨gp,0,none⟩) 0 cp)).take p ++ (vs.set p (.slice (some ⟨gp,0,none⟩) 0 cp)).drop (p+1))):=
         del251 (i:=p) a4.out.1.row (fun u hu=>by
          obtain⟨j,hj⟩:=List.getElem?_of_mem hu;obtain⟨l,_,hl⟩:=a4.out.1.page_at hj;obtain⟨cc,ho,_⟩:=hl;obtain⟨A',c',rfl⟩:=ownsRow_form ho
          rfl) j1 (by omega)
        have g7:=zqH d7;have j8:IntKind.i64.wrap ((p:Int)+1)=(p:Int)+1:=(by rw[IntKind.wrap_i64];omega);clear d7
        go_wp2_with (go_at_call 209;refine g7.out.mono ?_;rintro e W8 hd;obtain⟨k0,kf,rfl,e0⟩:=gone_end H3.out HF.out a6.out b0.out HP.out HI.out a7.out.symm a3.out.1 a4.out.1 a4.out.2 hd;have g8:=zqH e0;clear hd e0)
        go_ret
        exact g8.out
      · have m2:((m1:Int) == 0)=false:=(by simp;omega);obtain⟨h7,b9,h5,h6⟩:=stay_end H3.out HF.out a6.out b0.out HP.out HI.out (by have:=a7.out;omega) a3.out.1 a4.out.1 a4.out.2;have e2:p<(ps.set p (cut1 ps[p] i)).length:=(by rw[List.length_set];exact HP.out);have e3:(ps.set p (cut1 ps[p] i)).length<=1000000:=(by rw[List.length_set];exact j0.out);have g9:=joins_any h7 b9 e2 e3;have j9:=zqH (fun Wx (hx:New W7 Wx)=>joins_pred (h7.upd hx (fun _ _=>id)) b9 e2 e3);have e4:=zqH h5;have e5:=zqH h6;have H7:=zqH (zN h7 b9);have j8:IntKind.i64.wrap ((p:Int)-1)=(p:Int)-1:=(by rw[IntKind.wrap_i64];omega);clear h7 b9 h5 h6 e2 e3
        go_upto_region 9 with(go_at_call 210;refine g9.mono ?_;rintro e W8 (⟨rfl,f2⟩|⟨rfl,k4⟩))
        · have k2:=j9.out W8 f2;have e6:=zqH f2;clear f2 g9
          go_wp2_with (go_at_call 210;refine k2.mono ?_;rintro e W9 (⟨rfl,h9⟩|⟨rfl,k5⟩))
          · go_ret
            exact same_end true (H7.out.1.upd (e6.out.trans h9) (fun _ _=>id)) H7.out.2 (e4.out.trans ((e6.out.trans h9).mono (fun _ _ e=>e.elim))) e5.out
          · go_ret
            have hs:=SetEnd.trans (fun x hx=>.inl hx) (e4.out.trans (e6.out.mono (fun _ _ e=>e.elim))) k5;rw[e5.out]at hs;exact hs
        · go_ret
          have hs:=SetEnd.trans (fun x hx=>.inl hx) e4.out k4;rw[e5.out]at hs;exact hs
end Gz

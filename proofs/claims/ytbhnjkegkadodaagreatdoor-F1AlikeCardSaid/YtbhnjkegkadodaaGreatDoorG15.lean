/- Part of the proof. -/
import Derived.Test.YtbhnjkegkadodaaGreatDoorG14
import Derived.Deep.RegionHeld
import Derived.Deep.DeepCutAuto
import Derived.Shelf.RegionOpen
import Derived.OwnWalkIn
import Derived.LoopNIn
import Derived.LoopIn
set_option linter.all false
set_option maxRecDepth 100000
set_option maxHeartbeats 8000000
namespace Go.Proofs.YtbhnjkegkadodaaGreatDoor
open Go Go.RowKit Go.Proofs Gl Go.Shelf
attribute [local go_sem] Oper.semAt_some
def encE (x:CE):Array Value:=#[.agg #[x.1,x.2.1]]
structure Ris (base bm n c b1 b2 nf cf:Nat) (D:Nat->Prop) (A Af:Option Addr) (vs:List Value) (ps:List (List Ent)) (css:List (List Value)) (W:World):Prop where
 map:MapC 182 251 base W bm D A n c vs ps css
 box1:W.cell? ⟨b1,0,none⟩=some (.pointer (some ⟨bm,0,none⟩))
 box2:W.cell? ⟨b2,0,none⟩=some (.slice Af nf cf)
 from_:By W Af nf cf []
theorem Ris.upd {base bm n c b1 b2 nf cf:Nat} {D T:Nat->Prop} {A Af:Option Addr} {vs:List Value} {ps:List (List Ent)} {css:List (List Value)} {W W':World} (h:Ris base bm n c b1 b2 nf cf D A Af vs ps css W) (hu:Upd T W W') (hf:∀b,foot bm D A n c vs b->¬T b) (h1:¬T b1) (h2:¬T b2) (h3:∀a,Af=some a → 0<nf->¬T a.block):Ris base bm n c b1 b2 nf cf D A Af vs ps css W':=
 ⟨h.map.upd hu hf,(hu.cell (a:=⟨b1,0,none⟩) (zqB W _ h.box1) h1).trans h.box1,(hu.cell (a:=⟨b2,0,none⟩) (zqB W _ h.box2) h2).trans h.box2,h.from_.upd hu h3⟩
theorem Ris.new {base bm n c b1 b2 nf cf:Nat} {D:Nat->Prop} {A Af:Option Addr} {vs:List Value} {ps:List (List Ent)} {css:List (List Value)} {W W':World} (h:Ris base bm n c b1 b2 nf cf D A Af vs ps css W) (hu:New W W'):Ris base bm n c b1 b2 nf cf D A Af vs ps css W':=
 h.upd hu (fun _ _=>id) id id (fun _ _ _=>id)
theorem flat_take {α:Type} {L:List (List α)} {a:Nat} {xs:List α} (h:L[a]?=some xs):(L.take (a+1)).flatten=(L.take a).flatten ++ xs:=by
 rw[List.take_add_one,h];simp
theorem flat_split {α:Type} {L:List (List α)} {a j:Nat} {xs:List α} {x:α} (h:L[a]?=some xs) (hx:xs[j]?=some x):∃post,L.flatten=(L.take a).flatten ++ xs.take j ++ x :: post:=by
 have ha:a<L.length:=(List.getElem?_eq_some_iff.1 h).1
 have hj:j<xs.length:=(List.getElem?_eq_some_iff.1 hx).1
 have e1:L=L.take a ++ xs :: L.drop (a+1):=by
  conv=>lhs;rw[<-List.take_append_drop a L,List.drop_eq_getElem_cons ha]
  rw[(List.getElem?_eq_some_iff.1 h).2]
 have e2:xs=xs.take j ++ x :: xs.drop (j+1):=by
  conv=>lhs;rw[<-List.take_append_drop j xs,List.drop_eq_getElem_cons hj]
  rw[(List.getElem?_eq_some_iff.1 hx).2]
 refine⟨xs.drop (j+1) ++ (L.drop (a+1)).flatten,?_⟩
 calc L.flatten=(L.take a ++ xs :: L.drop (a+1)).flatten:=by rw[<-e1]
  _=(L.take a).flatten ++ xs ++ (L.drop (a+1)).flatten:=by simp only[List.flatten_append,List.flatten_cons,List.append_assoc]
  _=(L.take a).flatten ++ (xs.take j ++ x :: xs.drop (j+1)) ++ (L.drop (a+1)).flatten:=by rw[<-e2]
  _=_:=by simp only[List.append_assoc,List.cons_append]
theorem rising1_gives {base bm n c b1 b2 nf cf:Nat} {D:Nat->Prop} {A Af:Option Addr} {vs:List Value} {ps:List (List Ent)} {css:List (List Value)} (hlen:ps.length<=1000000) (hN:0<ps.length):
 Gives Tryz.prog 167 #[.pointer (some ⟨b1,0,none⟩),.pointer (some ⟨b2,0,none⟩)] (fun x _ _ vals=>vals=encE x) (fun _=>False) (Ris base bm n c b1 b2 nf cf D A Af vs ps css) (ceAll css ps).flatten:=by
 intro l J' Jx' W hJ' hJx' hK h0' hY'
 obtain⟨J,hJJ⟩:∃J,J=J' W.heap.size:=⟨_,rfl⟩
 obtain⟨Jx,hJJx⟩:∃Jx,Jx=Jx' W.heap.size:=⟨_,rfl⟩
 have hJ:Abide (fun _=>False) J:=hJJ▸(hJ' W.heap.size).mono (fun _ h=>h.elim)
 have h0:J [] W:=hJJ▸h0' _
 have hY:∀pre x W0 W1 vals,(∃post,(ceAll css ps).flatten=pre ++ x :: post)->W.heap.size<=W0.heap.size->J pre W0->Upd (Priv (fun _=>False) W.heap.size W.heap.size) W0 W1->vals=encE x->Ris base bm n c b1 b2 nf cf D A Af vs ps css W1->YieldAt FW 0 Tryz.prog l vals W1 fun e W'=>Kept W.heap.size W.heap.size W0.heap.size W1 W'/\Ris base bm n c b1 b2 nf cf D A Af vs ps css W'/\((e=.returned (.bool true)/\J (pre ++ [x]) W')\/(e=.returned (.bool false)/\Jx (pre ++ [x]) W')):=by
  rw[hJJ,hJJx];exact fun pre x W0 W1 vals hp hz hj hu he hk=>hY' _ pre x W0 W1 vals hp (Nat.le_refl _) hz hj hu he hk
 have hfin:∀W',W.heap.size<=W'.heap.size → (J (ceAll css ps).flatten W'/\Ris base bm n c b1 b2 nf cf D A Af vs ps css W'\/∃pre x post,(ceAll css ps).flatten=pre ++ x :: post/\Jx (pre ++ [x]) W')->∃Z,W.heap.size<=Z/\Z<=W'.heap.size/\(J' Z (ceAll css ps).flatten W'/\Ris base bm n c b1 b2 nf cf D A Af vs ps css W'\/∃pre x post,(ceAll css ps).flatten=pre ++ x :: post/\Jx' Z (pre ++ [x]) W'):=by
  rw[hJJ,hJJx];exact fun W' hz h=>⟨_,Nat.le_refl _,hz,h⟩
 clear hJ' hJx' h0' hY' hJJ hJJx
 have hK0:=hK
 have hn:n=ps.length:=hK.map.map.toMapRaw.n_eq
 obtain⟨g0,rfl⟩:∃g0,A=some ⟨g0,0,none⟩:=(by obtain⟨g,_,_,_,e,_⟩:=hK.map.at hN;exact⟨g,e⟩)
 have hc0:=hK.map.map.toMapRaw.cell0
 have d1:=hK.box1
 have d2:=hK.box2
 have hn0:((n:Int) == 0)=false:=by simp;omega
 have h71:=page_c hK.map.map hK.from_ hN (by omega)
 have HFIN:=zqH hfin;have HYY:=zqH hY;have HJ:=zqH hJ;have HK:=zqH hK0;have H0:=zqH h0;have HL:=zqH hlen;have HNN:=zqH hN;have HNE:=zqH hn;have H71:=zqH h71
 clear hfin hY hJ hK hK0 h0 hlen hN hn h71
 go_enter Tryz.func167,Tryz.ntmps167
 go_wp2_with (go_at_call 168;refine H71.out.mono ?_;rintro e w1 ⟨p,rfl,hp,q,rfl⟩;obtain rfl:=pageOf_nil HK.out.map.map.good hp;clear H71)
 have h72:∀Wx,New W Wx->∃gp m cp,W.cell? ⟨g0,0,none⟩=some (.slice (some ⟨gp,0,none⟩) m cp)/\Calls Tryz.prog 169 #[.slice (some ⟨gp,0,none⟩) m cp,.slice Af nf cf] Wx (Searched (ps[0]'HNN.out) [] Wx):=fun Wx hx=>by
  obtain⟨g,gp,cp,cs,e1,_,e2,e3,e4,e5⟩:=HK.out.map.map.at HNN.out
  cases e1
  obtain⟨g',gp',cp',cs',e1',_,e2',e3',e4',_⟩:=(HK.out.new hx).map.map.at HNN.out
  cases e1'
  have:Wx.cell? ⟨g0,0,none⟩=W.cell? ⟨g0,0,none⟩:=hx.cell (a:=⟨g0,0,none⟩) (zqB W _ e2) id
  rw[this,e2]at e2'
  cases e2'
  exact⟨gp,_,cp,e2,place_c e3' e4' (HK.out.from_.new hx) (HK.out.map.map.good.2.sublist (List.sublist_flatten_of_mem (List.getElem_mem HNN.out))) rfl (Nat.le_trans (few_len HK.out.map.map HNN.out) (by omega))⟩
 obtain⟨gp,m,cp,hcp,_⟩:=h72 W (Upd.refl _ _)
 have h72':∀Wx,New W Wx->Calls Tryz.prog 169 #[.slice (some ⟨gp,0,none⟩) m cp,.slice Af nf cf] Wx (Searched (ps[0]'HNN.out) [] Wx):=fun Wx hx=>by
  obtain⟨gp',m',cp',e,h⟩:=h72 Wx hx
  rw[hcp]at e;cases e;exact h
 have H72:=zqH h72'
 clear h72 h72'
 have hnp:0<n:=by have:=HNN.out;have:=HNE.out;omega
 have k0:(W.drewN q).cell? ⟨bm,0,none⟩=some (.slice (some ⟨g0,0,none⟩) n c):=hc0
 have k1:(W.drewN q).cell? ⟨b1,0,none⟩=some (.pointer (some ⟨bm,0,none⟩)):=d1
 have k2:(W.drewN q).cell? ⟨b2,0,none⟩=some (.slice Af nf cf):=d2
 have k3:(W.drewN q).cell? ⟨g0,0,none⟩=some (.slice (some ⟨gp,0,none⟩) m cp):=hcp
 have HKP:=zqH (fun(w':World) (hx:New W w')=>(⟨(HK.out.new hx).map.map.toMapRaw.cell0,(HK.out.new hx).box1,(HK.out.new hx).box2,(hx.cell (a:=⟨g0,0,none⟩) (zqB W _ hcp) id).trans hcp⟩:w'.cell? ⟨bm,0,none⟩=some (.slice (some ⟨g0,0,none⟩) n c)/\w'.cell? ⟨b1,0,none⟩=some (.pointer (some ⟨bm,0,none⟩))/\w'.cell? ⟨b2,0,none⟩=some (.slice Af nf cf)/\w'.cell? ⟨g0,0,none⟩=some (.slice (some ⟨gp,0,none⟩) m cp)))
 go_region_held (fun w'=>w'.cell? ⟨bm,0,none⟩=some (.slice (some ⟨g0,0,none⟩) n c)/\w'.cell? ⟨b1,0,none⟩=some (.pointer (some ⟨bm,0,none⟩))/\w'.cell? ⟨b2,0,none⟩=some (.slice Af nf cf)/\w'.cell? ⟨g0,0,none⟩=some (.slice (some ⟨gp,0,none⟩) m cp)) (go_keep) (first
  | (go_at_call 169;refine(H72.out (W.drewN (q+1)) ((Upd.refl _ W).drewN _)).mono ?_;rintro e w2 ⟨i,f,rfl,hp,hn2⟩;obtain rfl:=place_nil hp;have HN2:=zqH hn2;obtain⟨l0,l1,l2,l3⟩:=HKP.out _ (((Upd.refl _ W).drewN _).trans hn2);clear hn2 hp))
 go_wp2
 clear k0 k1 k2 k3 hc0 d1 d2 hcp l0 l1 l2 l3
 have HW2:Hid (New W w2):=zqH (((Upd.refl _ W).drewN _).trans HN2.out)
 go_loopw [4,5] (fun p i wr=>∃a:Nat,a<=n/\p=.int .i64 (a:Int)/\i=.int .i64 0/\Hid (J ((ceAll css ps).take a).flatten wr/\Ris base bm n c b1 b2 nf cf D (some ⟨g0,0,none⟩) Af vs ps css wr/\W.heap.size<=wr.heap.size)) (fun p i _=>n-(intOf p).toNat)
 case atStart=>exact⟨0,Nat.zero_le _,rfl,rfl,zqH ⟨by simpa using HJ.out _ _ _ H0.out HW2.out,HK.out.new HW2.out,HW2.out.size⟩⟩
 case round=>
  obtain⟨a,ha,rfl,rfl,hI⟩:=hrel
  have hc0:=hI.out.2.1.map.map.toMapRaw.cell0
  have d1:=hI.out.2.1.box1
  by_cases han:a<n
  · have hap:a<ps.length:=by have:=HNE.out;omega
    obtain⟨xs,hxs,hxl⟩:∃xs:List CE,(ceAll css ps)[a]?=some xs/\xs.length<=32:=by
     obtain⟨_,_,_,xs,_,_,_,_,h1,h2,_⟩:=hI.out.2.1.map.at hap
     exact⟨xs,h1,h2⟩
    have hpg:∀W',Ris base bm n c b1 b2 nf cf D (some ⟨g0,0,none⟩) Af vs ps css W'->W'.cell? ⟨bm,0,none⟩=some (.slice (some ⟨g0,0,none⟩) n c)/\W'.cell? ⟨b1,0,none⟩=some (.pointer (some ⟨bm,0,none⟩))/\∃gp cp,W'.cell? ⟨g0,a,none⟩=some (.slice (some ⟨gp,0,none⟩) xs.length cp)/\∀(j:Nat) (x:CE),xs[j]?=some x->W'.cell? ⟨gp,j*2,none⟩=some x.1/\W'.cell? ⟨gp,j*2+1,none⟩=some x.2.1:=fun W' hR=>by
     obtain⟨g,gp,cp,xs',e,h1,h2,h3,h4,_,h5⟩:=hR.map.at hap
     cases e
     rw[hxs]at h4
     cases h4
     exact⟨hR.map.map.toMapRaw.cell0,hR.box1,gp,cp,h1,h5⟩
    have HPG:=zqH hpg;have HXS:=zqH hxs;have HAP:=zqH hap
    clear hpg hxs hap
    obtain⟨N,hN⟩:∃N,N=xs.length:=⟨_,rfl⟩
    have HN:=zqH hN
    rw[<-hN]at hxl HPG
    clear hN
    go_wp2
    clear hc0 d1
    go_loopw [5] (fun i wr=>∃j:Nat,j<=N/\i=.int .i64 (j:Int)/\Hid (J (((ceAll css ps).take a).flatten ++ xs.take j) wr/\Ris base bm n c b1 b2 nf cf D (some ⟨g0,0,none⟩) Af vs ps css wr/\W.heap.size<=wr.heap.size)) (fun i _=>N-(intOf i).toNat)
    case atStart=>exact⟨0,Nat.zero_le _,rfl,zqH ⟨by simpa using hI.out.1,hI.out.2⟩⟩
    case round=>
     clear hI
     obtain⟨j,hj,rfl,hI⟩:=hrel
     obtain⟨c0,c1,gp2,cp2,c2,hcc⟩:=HPG.out _ hI.out.2.1
     by_cases hjN:j<N
     · obtain⟨x,hx⟩:∃x,xs[j]?=some x:=⟨_,List.getElem?_eq_getElem (by have:=HN.out;omega)⟩
       obtain⟨c3,c4⟩:=hcc j x hx
       obtain⟨post,hpost⟩:=flat_split HXS.out hx
       obtain⟨fn,tmps,assign,body,hy,hR⟩:=HYY.out _ x wr wr _ ⟨post,hpost⟩ hI.out.2.2 hI.out.1 (Upd.refl _ _) rfl hI.out.2.1
       unfold encE at hy
       have HR:=zqH hR;have HX:=zqH hx;have HPO:=zqH hpost
       clear hcc hR hx hpost
       go_upto_region 7 with fail
       refine(wpIn_wide (n:=0)).1 ?_
       gi_wp2
       refine⟨rfl,HR.out.mono ?_⟩
       rintro e W3 ⟨hz3,hk3,(⟨rfl,hJ3⟩|⟨rfl,hJx3⟩)⟩
       · have HJ3:=zqH hJ3;have HK3:=zqH hk3;have HZ3:=zqH (Nat.le_trans hI.out.2.2 hz3.1)
         clear hJ3 hk3 HR hy hz3
         gi_wp2
         go_wp2
         refine⟨⟨j+1,by omega,by congr 1,zqH ⟨?_,HK3.out,HZ3.out⟩⟩,by simp[intOf];omega⟩
         have:=HJ3.out
         rw[List.append_assoc]at this
         rw[List.take_add_one,HX.out]
         exact this
       · have HJ3:=zqH hJx3;have HZ3:=zqH (Nat.le_trans hI.out.2.2 hz3.1)
         clear hJx3 HR hy hz3 hk3
         gi_wp2
         go_wp2
         refine bodyPost_ret (results_none rfl _ _ _) rfl ?_
         exact⟨⟨_,rfl⟩,HFIN.out _ HZ3.out (.inr ⟨_,x,post,HPO.out,HJ3.out⟩)⟩
     · obtain rfl:j=N:=by omega
       have hn1:n<=1000000:=by have:=HNE.out;have:=HL.out;omega
       go_wp2
       refine⟨⟨a+1,by omega,by congr 1,rfl,zqH ⟨?_,hI.out.2⟩⟩,by simp[intOf];omega⟩
       have:=hI.out.1
       rw[List.take_of_length_le (l:=xs) (by have:=HN.out;omega)]at this
       rw[flat_take HXS.out];exact this
  · obtain rfl:a=n:=by omega
    go_wp2
    go_end0
    refine⟨⟨_,rfl⟩,HFIN.out _ hI.out.2.2 (.inl ⟨?_,hI.out.2.1⟩)⟩
    have:=hI.out.1
    rw[List.take_of_length_le (by rw[hI.out.2.1.map.all_len];have:=HNE.out;omega)]at this
    exact this
end Go.Proofs.YtbhnjkegkadodaaGreatDoor
namespace Go.Proofs.YtbhnjkegkadodaaGreatDoor
open Go Go.RowKit Go.Proofs Gl Go.Shelf
theorem rising1_nil {base bm n c b1 b2 nf cf:Nat} {D:Nat->Prop} {A Af:Option Addr} {vs:List Value} {css:List (List Value)}:
 Gives Tryz.prog 167 #[.pointer (some ⟨b1,0,none⟩),.pointer (some ⟨b2,0,none⟩)] (fun x _ _ vals=>vals=encE x) (fun _=>False) (Ris base bm n c b1 b2 nf cf D A Af vs [] css) (ceAll css []).flatten:=by
 intro l J Jx W hJ hJx hK h0 hY
 have hn:n=0:=hK.map.map.toMapRaw.n_eq
 subst hn
 have hc0:=hK.map.map.toMapRaw.cell0
 have d1:=hK.box1
 have e0:(ceAll css []).flatten=[]:=by simp[ceAll]
 have H0:=zqH h0;have HE:=zqH e0;have HKK:=zqH hK
 clear hJ hJx hY h0 hK e0
 go_enter Tryz.func167,Tryz.ntmps167
 go_wp2
 refine bodyPost_ret (results_none rfl _ _ _) rfl ?_
 exact⟨⟨_,rfl⟩,W.heap.size,Nat.le_refl _,Nat.le_refl _,.inl ⟨by rw[HE.out];exact H0.out _,HKK.out⟩⟩
theorem rising1_all {base bm n c b1 b2 nf cf:Nat} {D:Nat->Prop} {A Af:Option Addr} {vs:List Value} {ps:List (List Ent)} {css:List (List Value)} (hlen:ps.length<=1000000):
 Gives Tryz.prog 167 #[.pointer (some ⟨b1,0,none⟩),.pointer (some ⟨b2,0,none⟩)] (fun x _ _ vals=>vals=encE x) (fun _=>False) (Ris base bm n c b1 b2 nf cf D A Af vs ps css) (ceAll css ps).flatten:=by
 by_cases h:ps=[]
 · subst h;exact rising1_nil
 · exact rising1_gives hlen (List.length_pos_iff.2 h)
theorem owned_nil {w:World}:Calls Tryz.prog 107 #[.slice none 0 0] w fun e w'=>e=.returned (.slice none 0 0)/\w'=w:=by
 obtain⟨i0,hi0,hz0,hz1,hz2⟩:=info_parts info5
 have hr:∀ty,(Builtin.append_ #[113,113] ty #[.slice none 0 0,.slice none 0 0]).run Tryz.prog w=.ok (.slice none 0 0) w:=fun ty=>by
  simp[Builtin.append_,run_underlying Tryz.underlying113,Go.sizeOf,typeInfo,hi0,Builtin.lenOf,Builtin.firstCells]
 go_enter Tryz.func107,Tryz.ntmps107
 go_wp2_with (at_builtin;refine Lib.wpList_append_run _ rfl _ _ _ _ rfl _ _ rfl rfl _ _ (hr _) ?_)
 go_ret
 exact⟨rfl,rfl⟩
theorem rising_c {w:World} {bm nf cf:Nat} {Af:Option Addr}:
 Calls Tryz.prog 109 #[.pointer (some ⟨bm,0,none⟩),.slice Af nf cf] w fun e w'=>∃b1 b2,e=.returned (.func (.func 167) #[] #[.pointer (some ⟨b1,0,none⟩),.pointer (some ⟨b2,0,none⟩)])/\New w w'/\w.heap.size<=b1/\w.heap.size<=b2/\b1<w'.heap.size/\b2<w'.heap.size/\w'.cell? ⟨b1,0,none⟩=some (.pointer (some ⟨bm,0,none⟩))/\w'.cell? ⟨b2,0,none⟩=some (.slice Af nf cf):=by
 go_enter Tryz.func109,Tryz.ntmps109
 go_wp2
 go_ret
 refine⟨w.heap.size,w.heap.size+1,rfl,(Upd.alloc _ _ _).trans (Upd.alloc _ _ _),Nat.le_refl _,by omega,?_,?_,?_,?_⟩
 · show _<((w.heap.push _).push _).size;simp;omega
 · show _<((w.heap.push _).push _).size;simp
 · exact zaa (t:=93) (fr:=(0,0)) (cs:=#[.pointer (some ⟨bm,0,none⟩)]) (by rw[zaj _ (by show _<(w.heap.push _).size;simp)];exact Ex.alloc_new w _) 0 _ rfl
 · have e:=Ex.alloc_new (w.alloc (.cells #[.pointer (some ⟨bm,0,none⟩)] 93)) (.cells #[.slice Af nf cf] 113)
   rw[show(w.alloc (.cells #[.pointer (some ⟨bm,0,none⟩)] 93)).heap.size=w.heap.size+1 by show(w.heap.push _).size=_;simp]at e
   exact zaa e 0 _ rfl
theorem walk_c {w:World} {bm:Nat}:
 Calls Tryz.prog 57 #[.pointer (some ⟨bm,0,none⟩),.slice none 0 0,.slice none 0 0] w fun e w'=>∃b1 b2 b3,e=.returned (.func (.func 108) #[] #[.pointer (some ⟨b1,0,none⟩),.pointer (some ⟨b2,0,none⟩),.pointer (some ⟨b3,0,none⟩)])/\New w w'/\(w.heap.size<=b1/\w.heap.size<=b2/\w.heap.size<=b3)/\w'.cell? ⟨b1,0,none⟩=some (.pointer (some ⟨bm,0,none⟩))/\w'.cell? ⟨b2,0,none⟩=some (.slice none 0 0)/\w'.cell? ⟨b3,0,none⟩=some (.slice none 0 0):=by
 obtain⟨W,hW⟩:∃W,W=((w.alloc (.cells #[.pointer (some ⟨bm,0,none⟩)] 93)).alloc (.cells #[.slice none 0 0] 113)).alloc (.cells #[.slice none 0 0] 113):=⟨_,rfl⟩
 have hu:New w W:=by rw[hW];exact((Upd.alloc _ _ _).trans (Upd.alloc _ _ _)).trans (Upd.alloc _ _ _)
 have e0:W.heap[w.heap.size]?=some (.cells #[.pointer (some ⟨bm,0,none⟩)] 93 (0,0)):=by
  rw[hW];show(((w.heap.push _).push _).push _)[w.heap.size]?=_
  rw[Array.getElem?_push_lt (by simp;omega),Array.getElem_push_lt (by simp),Array.getElem_push_eq]
 have e1:W.heap[w.heap.size+1]?=some (.cells #[.slice none 0 0] 113 (0,0)):=by
  rw[hW];show(((w.heap.push _).push _).push _)[w.heap.size+1]?=_
  rw[Array.getElem?_push_lt (by simp)]
  congr 1
  have:w.heap.size+1=(w.heap.push (Obj.cells #[.pointer (some ⟨bm,0,none⟩)] 93)).size:=by simp
  simp only[this,Array.getElem_push_eq]
 have e2:W.heap[w.heap.size+1+1]?=some (.cells #[.slice none 0 0] 113 (0,0)):=by
  have e:=Ex.alloc_new ((w.alloc (.cells #[.pointer (some ⟨bm,0,none⟩)] 93)).alloc (.cells #[.slice none 0 0] 113)) (.cells #[.slice none 0 0] 113)
  rw[show((w.alloc (.cells #[.pointer (some ⟨bm,0,none⟩)] 93)).alloc (.cells #[.slice none 0 0] 113)).heap.size=w.heap.size+1+1 by show((w.heap.push _).push _).size=_;simp]at e
  rw[hW];exact e
 have c1:=zaa e1 0 (.slice none 0 0) rfl
 have c2:=zaa e2 0 (.slice none 0 0) rfl
 have f1:=zac e1 0
 have f2:=zac e2 0
 have s1:=zab e1 (.slice none 0 0) (i:=0)
 have s2:=zab (i:=0) (b:=w.heap.size+1+1) ((zba (i:=0) (b:=w.heap.size+1) (.slice none 0 0) (by omega)).trans e2) (.slice none 0 0)
 have hne:¬(w.heap.size+1=w.heap.size+1+1):=by omega
 have e3:(W.setCell ⟨w.heap.size+1,0,none⟩ (.slice none 0 0)).cell? ⟨w.heap.size+1+1,0,none⟩=some (.slice none 0 0):=zaa ((zba (i:=0) _ (by omega)).trans e2) 0 _ rfl
 have f3:(W.setCell ⟨w.heap.size+1,0,none⟩ (.slice none 0 0)).frozen? ⟨w.heap.size+1+1,0,none⟩=false:=zac ((zba (i:=0) _ (by omega)).trans e2) 0
 have HF:Hid (∀Wx:World,Wx.heap=W.heap->Wx.tape=W.tape->Wx.os=W.os->Wx.output=W.output->New w Wx/\Wx.cell? ⟨w.heap.size,0,none⟩=some (.pointer (some ⟨bm,0,none⟩))/\Wx.cell? ⟨w.heap.size+1,0,none⟩=some (.slice none 0 0)/\Wx.cell? ⟨w.heap.size+1+1,0,none⟩=some (.slice none 0 0)):=zqH (fun Wx h1 h2 h3 h4=>
  ⟨hu.trans ⟨h3,h4,h2,by rw[h1];exact Nat.le_refl _,fun b _ _=>by rw[h1]⟩,zaa (by rw[h1];exact e0) 0 _ rfl,zaa (by rw[h1];exact e1) 0 _ rfl,zaa (by rw[h1];exact e2) 0 _ rfl⟩)
 clear hu e0 e1 e2 s1 s2
 go_enter Tryz.func57,Tryz.ntmps57
 go_upto_region 1 with fail
 rw[<-hW]
 have h33:∀Wx,Calls Tryz.prog 107 #[.slice none 0 0] Wx fun e w'=>e=.returned (.slice none 0 0)/\w'=Wx:=fun Wx=>owned_nil
 go_region_with (first
  | (go_at_call 107;refine(h33 _).mono ?_;rintro e w2 ⟨rfl,rfl⟩))
 all_goals go_wp2
 all_goals go_ret
 all_goals
  obtain⟨q1,q2,q3,q4⟩:=HF.out _ (by rw[hW]) (by rw[hW]) (by rw[hW]) (by rw[hW])
  exact⟨w.heap.size,w.heap.size+1,w.heap.size+1+1,rfl,q1.drew,⟨Nat.le_refl _,by omega,by omega⟩,q2,q3,q4⟩
end Go.Proofs.YtbhnjkegkadodaaGreatDoor
namespace Gl
open Go Go.RowKit
theorem found_cut {ps:List (List Ent)} {k:Bs} {p i:Nat} {f:Bool} (h:Found ps k p i f):(∀x ∈ ps.flatten.take ((ps.take p).flatten.length+i),blt x.1 k=true)/\(∀x ∈ ps.flatten.drop ((ps.take p).flatten.length+i),blt x.1 k=false)/\(ps.take p).flatten.length+i<=ps.flatten.length:=by
 obtain⟨A,X,Y,C,rfl,rfl,rfl,hlow,hif⟩:=h
 have e:(A ++ (X ++ Y) :: C).flatten=(A.flatten ++ X) ++ (Y ++ C.flatten):=by simp
 have e2:(A ++ (X ++ Y) :: C).take A.length=A:=by simp
 have e3:(A.flatten.length+X.length)=(A.flatten ++ X).length:=by simp
 rw[e2,e,e3]
 refine⟨fun x hx=>?_,fun x hx=>?_,by simp⟩
 · rw[List.take_left]at hx
   exact hlow x hx
 · rw[List.drop_left]at hx
   cases f with
   | true=>
     rw[if_pos rfl]at hif
     obtain⟨u,Y',rfl,hh⟩:=hif
     rcases List.mem_append.1 hx with hx|hx
     · rcases List.mem_cons.1 hx with rfl|hx
       · exact zat _
       · exact zbi (hh x (List.mem_append_left _ hx))
     · exact zbi (hh x (List.mem_append_right _ hx))
   | false=>
     simp only[Bool.false_eq_true,ite_false]at hif
     exact zbi (hif x hx)
theorem drop_filter {α:Type} {f:α->Ent} {l:List α} {L:List Ent} {k:Bs} (h:l.map f=L) (o:Nat) (h1:∀x ∈ L.take o,blt x.1 k=true) (h2:∀x ∈ L.drop o,blt x.1 k=false):l.drop o=l.filter (fun x=>!blt (f x).1 k):=by
 subst h
 have e:l=l.take o ++ l.drop o:=(List.take_append_drop _ _).symm
 conv=>rhs;rw[e,List.filter_append]
 have f1:(l.take o).filter (fun x=>!blt (f x).1 k)=[]:=by
  rw[List.filter_eq_nil_iff]
  intro x hx
  have:=h1 (f x) (by rw[<-List.map_take];exact List.mem_map_of_mem hx)
  simp[this]
 have f2:(l.drop o).filter (fun x=>!blt (f x).1 k)=l.drop o:=by
  rw[List.filter_eq_self]
  intro x hx
  have:=h2 (f x) (by rw[<-List.map_drop];exact List.mem_map_of_mem hx)
  simp[this]
 rw[f1,f2,List.nil_append]
end Gl
namespace Gl
open Go Go.RowKit
section
variable {tE tP base bm n c:Nat} {w w':World} {D T:Nat->Prop} {A:Option Addr} {vs:List Value} {ps:List (List Ent)} {css:List (List Value)}
theorem MapC.all_maps (h:MapC tE tP base w bm D A n c vs ps css):(ceAll css ps).map (List.map (·.2.2))=ps:=by
 apply List.ext_getElem?
 intro i
 by_cases hi:i<ps.length
 · obtain⟨cs',h1,h2⟩:=h.all_at hi
   have hv:vs[i]?=some (vs[i]'(by have:=h.map.len;omega)):=List.getElem?_eq_getElem _
   obtain⟨_,h4⟩:=h.cells i _ _ cs' hv (List.getElem?_eq_getElem hi) h1
   rw[List.getElem?_map,h2,List.getElem?_eq_getElem hi]
   simp[(ce_get h4).2.1]
 · rw[List.getElem?_eq_none (by rw[List.length_map,h.all_len];omega),List.getElem?_eq_none (by omega)]
theorem MapC.take_len (h:MapC tE tP base w bm D A n c vs ps css) (p:Nat):((ceAll css ps).take p).flatten.length=(ps.take p).flatten.length:=by
 have h1:=h.all_maps
 have h2:((ceAll css ps).take p).map (List.map (·.2.2))=ps.take p:=by rw[List.map_take,h1]
 rw[<-h2,<-List.map_flatten,List.length_map]
theorem MapC.page_len (h:MapC tE tP base w bm D A n c vs ps css) {i:Nat} (hi:i<ps.length) {xs:List CE} (hx:(ceAll css ps)[i]?=some xs):xs.length=ps[i].length:=by
 have h1:=h.all_maps
 have h2:((ceAll css ps).map (List.map (·.2.2)))[i]?=ps[i]?:=by rw[h1]
 rw[List.getElem?_map,hx,List.getElem?_eq_getElem hi]at h2
 simp only[Option.map_some,Option.some.injEq]at h2
 rw[<-h2,List.length_map]
theorem MapC.drop_is (h:MapC tE tP base w bm D A n c vs ps css) {k:Bs} {p i:Nat} {f:Bool} (hf:Found ps k p i f):
 (ceAll css ps).flatten.drop (((ceAll css ps).take p).flatten.length+i)=(ceAll css ps).flatten.filter (fun x=>!blt x.2.2.1 k)/\((ceAll css ps).take p).flatten.length+i<=(ceAll css ps).flatten.length:=by
 obtain⟨h1,h2,h3⟩:=found_cut hf
 rw[h.take_len]
 refine⟨drop_filter h.all_ents _ h1 h2,?_⟩
 have:=congrArg List.length h.all_ents
 rw[List.length_map]at this
 omega
end
end Gl
namespace Go.Proofs.YtbhnjkegkadodaaGreatDoor
open Go Go.RowKit Go.Proofs Gl Go.Shelf
attribute [local go_sem] Oper.semAt_some
structure RisK (base bm n c b1 b2 nf cf:Nat) (D:Nat->Prop) (A Af:Option Addr) (vs:List Value) (ps:List (List Ent)) (css:List (List Value)) (fk:Bs) (W:World):Prop where
 map:MapC 182 251 base W bm D A n c vs ps css
 box1:W.cell? ⟨b1,0,none⟩=some (.pointer (some ⟨bm,0,none⟩))
 box2:W.cell? ⟨b2,0,none⟩=some (.slice Af nf cf)
 from_:By W Af nf cf fk
theorem RisK.upd {base bm n c b1 b2 nf cf:Nat} {D T:Nat->Prop} {A Af:Option Addr} {vs:List Value} {ps:List (List Ent)} {css:List (List Value)} {fk:Bs} {W W':World} (h:RisK base bm n c b1 b2 nf cf D A Af vs ps css fk W) (hu:Upd T W W') (hf:∀b,foot bm D A n c vs b->¬T b) (h1:¬T b1) (h2:¬T b2) (h3:∀a,Af=some a → 0<nf->¬T a.block):RisK base bm n c b1 b2 nf cf D A Af vs ps css fk W':=
 ⟨h.map.upd hu hf,(hu.cell (a:=⟨b1,0,none⟩) (zqB W _ h.box1) h1).trans h.box1,(hu.cell (a:=⟨b2,0,none⟩) (zqB W _ h.box2) h2).trans h.box2,h.from_.upd hu h3⟩
theorem RisK.new {base bm n c b1 b2 nf cf:Nat} {D:Nat->Prop} {A Af:Option Addr} {vs:List Value} {ps:List (List Ent)} {css:List (List Value)} {fk:Bs} {W W':World} (h:RisK base bm n c b1 b2 nf cf D A Af vs ps css fk W) (hu:New W W'):RisK base bm n c b1 b2 nf cf D A Af vs ps css fk W':=
 h.upd hu (fun _ _=>id) id id (fun _ _ _=>id)
def fromK (fk:Bs) (l:List CE):List CE:=l.filter (fun x=>!blt x.2.2.1 fk)
def conK (l:List (List CE)) (a j:Nat):List CE:=(l.take a).flatten ++ (l[a]?.getD []).take j
theorem risingK_gives {base bm n c b1 b2 nf cf:Nat} {D:Nat->Prop} {A Af:Option Addr} {vs:List Value} {ps:List (List Ent)} {css:List (List Value)} {fk:Bs} (hlen:ps.length<=1000000) (hN:0<ps.length):
 Gives Tryz.prog 167 #[.pointer (some ⟨b1,0,none⟩),.pointer (some ⟨b2,0,none⟩)] (fun x _ _ vals=>vals=encE x) (fun _=>False) (RisK base bm n c b1 b2 nf cf D A Af vs ps css fk) (fromK fk (ceAll css ps).flatten):=by
 intro l J' Jx' W hJ' hJx' hK h0' hY'
 obtain⟨J,hJJ⟩:∃J,J=J' W.heap.size:=⟨_,rfl⟩
 obtain⟨Jx,hJJx⟩:∃Jx,Jx=Jx' W.heap.size:=⟨_,rfl⟩
 have hJ:Abide (fun _=>False) J:=hJJ▸(hJ' W.heap.size).mono (fun _ h=>h.elim)
 have h0:J [] W:=hJJ▸h0' _
 have hY:∀pre x W0 W1 vals,(∃post,(fromK fk (ceAll css ps).flatten)=pre ++ x :: post)->W.heap.size<=W0.heap.size->J pre W0->Upd (Priv (fun _=>False) W.heap.size W.heap.size) W0 W1->vals=encE x->RisK base bm n c b1 b2 nf cf D A Af vs ps css fk W1->YieldAt FW 0 Tryz.prog l vals W1 fun e W'=>Kept W.heap.size W.heap.size W0.heap.size W1 W'/\RisK base bm n c b1 b2 nf cf D A Af vs ps css fk W'/\((e=.returned (.bool true)/\J (pre ++ [x]) W')\/(e=.returned (.bool false)/\Jx (pre ++ [x]) W')):=by
  rw[hJJ,hJJx];exact fun pre x W0 W1 vals hp hz hj hu he hk=>hY' _ pre x W0 W1 vals hp (Nat.le_refl _) hz hj hu he hk
 have hfin:∀W',W.heap.size<=W'.heap.size → (J (fromK fk (ceAll css ps).flatten) W'/\RisK base bm n c b1 b2 nf cf D A Af vs ps css fk W'\/∃pre x post,(fromK fk (ceAll css ps).flatten)=pre ++ x :: post/\Jx (pre ++ [x]) W')->∃Z,W.heap.size<=Z/\Z<=W'.heap.size/\(J' Z (fromK fk (ceAll css ps).flatten) W'/\RisK base bm n c b1 b2 nf cf D A Af vs ps css fk W'\/∃pre x post,(fromK fk (ceAll css ps).flatten)=pre ++ x :: post/\Jx' Z (pre ++ [x]) W'):=by
  rw[hJJ,hJJx];exact fun W' hz h=>⟨_,Nat.le_refl _,hz,h⟩
 clear hJ' hJx' h0' hY' hJJ hJJx
 have hK0:=hK
 have hn:n=ps.length:=hK.map.map.toMapRaw.n_eq
 obtain⟨g0,rfl⟩:∃g0,A=some ⟨g0,0,none⟩:=(by obtain⟨g,_,_,_,e,_⟩:=hK.map.at hN;exact⟨g,e⟩)
 have hc0:=hK.map.map.toMapRaw.cell0
 have d1:=hK.box1
 have d2:=hK.box2
 have hn0:((n:Int) == 0)=false:=by simp;omega
 have h71:=page_c hK.map.map hK.from_ hN (by omega)
 have HFIN:=zqH hfin;have HYY:=zqH hY;have HJ:=zqH hJ;have HK:=zqH hK0;have H0:=zqH h0;have HL:=zqH hlen;have HNN:=zqH hN;have HNE:=zqH hn;have H71:=zqH h71
 clear hfin hY hJ hK hK0 h0 hlen hN hn h71
 go_enter Tryz.func167,Tryz.ntmps167
 go_wp2_with (go_at_call 168;refine H71.out.mono ?_;rintro e w1 ⟨p,rfl,hp,q,rfl⟩;have HPO:=zqH hp;clear H71 hp)
 have hp:=HPO.out.1
 have h72:∀Wx,New W Wx->∃gp m cp,W.cell? ⟨g0,p,none⟩=some (.slice (some ⟨gp,0,none⟩) m cp)/\Calls Tryz.prog 169 #[.slice (some ⟨gp,0,none⟩) m cp,.slice Af nf cf] Wx (Searched (ps[p]'hp) fk Wx):=fun Wx hx=>by
  obtain⟨g,gp,cp,cs,e1,_,e2,e3,e4,e5⟩:=HK.out.map.map.at hp
  cases e1
  obtain⟨g',gp',cp',cs',e1',_,e2',e3',e4',_⟩:=(HK.out.new hx).map.map.at hp
  cases e1'
  have:Wx.cell? ⟨g0,p,none⟩=W.cell? ⟨g0,p,none⟩:=hx.cell (a:=⟨g0,p,none⟩) (zqB W _ e2) id
  rw[this,e2]at e2'
  cases e2'
  exact⟨gp,_,cp,e2,place_c e3' e4' (HK.out.from_.new hx) (HK.out.map.map.good.2.sublist (List.sublist_flatten_of_mem (List.getElem_mem hp))) rfl (Nat.le_trans (few_len HK.out.map.map hp) (by omega))⟩
 obtain⟨gp,m,cp,hcp,_⟩:=h72 W (Upd.refl _ _)
 have h72':∀Wx,New W Wx->Calls Tryz.prog 169 #[.slice (some ⟨gp,0,none⟩) m cp,.slice Af nf cf] Wx (Searched (ps[p]'hp) fk Wx):=fun Wx hx=>by
  obtain⟨gp',m',cp',e,h⟩:=h72 Wx hx
  rw[hcp]at e;cases e;exact h
 have H72:=zqH h72'
 clear h72 h72'
 have hnp:p<n:=by have:=HNE.out;omega
 have k0:(W.drewN q).cell? ⟨bm,0,none⟩=some (.slice (some ⟨g0,0,none⟩) n c):=hc0
 have k1:(W.drewN q).cell? ⟨b1,0,none⟩=some (.pointer (some ⟨bm,0,none⟩)):=d1
 have k2:(W.drewN q).cell? ⟨b2,0,none⟩=some (.slice Af nf cf):=d2
 have k3:(W.drewN q).cell? ⟨g0,p,none⟩=some (.slice (some ⟨gp,0,none⟩) m cp):=hcp
 have HKP:=zqH (fun(w':World) (hx:New W w')=>(⟨(HK.out.new hx).map.map.toMapRaw.cell0,(HK.out.new hx).box1,(HK.out.new hx).box2,(hx.cell (a:=⟨g0,p,none⟩) (zqB W _ hcp) id).trans hcp⟩:w'.cell? ⟨bm,0,none⟩=some (.slice (some ⟨g0,0,none⟩) n c)/\w'.cell? ⟨b1,0,none⟩=some (.pointer (some ⟨bm,0,none⟩))/\w'.cell? ⟨b2,0,none⟩=some (.slice Af nf cf)/\w'.cell? ⟨g0,p,none⟩=some (.slice (some ⟨gp,0,none⟩) m cp)))
 go_region_held (fun w'=>w'.cell? ⟨bm,0,none⟩=some (.slice (some ⟨g0,0,none⟩) n c)/\w'.cell? ⟨b1,0,none⟩=some (.pointer (some ⟨bm,0,none⟩))/\w'.cell? ⟨b2,0,none⟩=some (.slice Af nf cf)/\w'.cell? ⟨g0,p,none⟩=some (.slice (some ⟨gp,0,none⟩) m cp)) (go_keep) (first
  | (go_at_call 169;refine(H72.out (W.drewN (q+1)) ((Upd.refl _ W).drewN _)).mono ?_;rintro e w2 ⟨i,f,rfl,hkp,hn2⟩;have HKPL:=zqH hkp;have HN2:=zqH hn2;obtain⟨l0,l1,l2,l3⟩:=HKP.out _ (((Upd.refl _ W).drewN _).trans hn2);clear hn2 hkp))
 go_wp2
 clear k0 k1 k2 k3 hc0 d1 d2 hcp l0 l1 l2 l3
 have HW2:Hid (New W w2):=zqH (((Upd.refl _ W).drewN _).trans HN2.out)
 have hfd:=found_place HK.out.map.map.good HPO.out HKPL.out
 obtain⟨hdrop,hle⟩:=HK.out.map.drop_is hfd
 obtain⟨o,ho⟩:∃o,o=((ceAll css ps).take p).flatten.length+i:=⟨_,rfl⟩
 rw[<-ho]at hdrop hle
 have hil:i<=ps[p].length:=HKPL.out.2.1
 obtain⟨xp,hxp,hxpl⟩:∃xp:List CE,(ceAll css ps)[p]?=some xp/\xp.length=ps[p].length:=by
  obtain⟨_,_,_,xs,_,_,_,_,h1,_⟩:=HK.out.map.at hp
  exact⟨xs,h1,HK.out.map.page_len hp h1⟩
 have hstart:(conK (ceAll css ps) p i).length=o:=by
  unfold conK;rw[hxp,List.length_append,Option.getD_some,List.length_take,ho];omega
 have hrows:∀a,n<=a->conK (ceAll css ps) a 0=(ceAll css ps).flatten:=fun a ha=>by
  unfold conK;rw[List.take_zero,List.append_nil,List.take_of_length_le (by rw[HK.out.map.all_len];have:=HNE.out;omega)]
 have HDR:=zqH hdrop;have HST:=zqH hstart;have HRW:=zqH hrows
 have hi32:i<=32:=Nat.le_trans hil (few_len HK.out.map.map hp)
 clear hdrop hle hstart hrows hfd ho hil hxp hxpl
 go_loopw [4,5] (fun p i wr=>∃a j:Nat,a<=n/\j<=32/\p=.int .i64 (a:Int)/\i=.int .i64 (j:Int)/\Hid ((a<n\/j=0)/\o<=(conK (ceAll css ps) a j).length/\(∀xs,(ceAll css ps)[a]?=some xs->j<=xs.length)/\J ((conK (ceAll css ps) a j).drop o) wr/\RisK base bm n c b1 b2 nf cf D (some ⟨g0,0,none⟩) Af vs ps css fk wr/\W.heap.size<=wr.heap.size)) (fun p i _=>n-(intOf p).toNat)
 case atStart=>
  refine⟨p,i,by omega,hi32,rfl,rfl,zqH ⟨.inl hnp,by rw[HST.out];exact Nat.le_refl _,fun xs hx=>?_,?_,HK.out.new HW2.out,HW2.out.size⟩⟩
  · rw[HK.out.map.page_len hp hx];exact HKPL.out.2.1
  · rw[List.drop_of_length_le (by rw[HST.out];exact Nat.le_refl _)]
    exact HJ.out _ _ _ H0.out HW2.out
 case round=>
  obtain⟨a,j0,ha,hj32,rfl,rfl,hI⟩:=hrel
  have hc0:=hI.out.2.2.2.2.1.map.map.toMapRaw.cell0
  have d1:=hI.out.2.2.2.2.1.box1
  by_cases han:a<n
  · have hap:a<ps.length:=by have:=HNE.out;omega
    obtain⟨xs,hxs,hxl⟩:∃xs:List CE,(ceAll css ps)[a]?=some xs/\xs.length<=32:=by
     obtain⟨_,_,_,xs,_,_,_,_,h1,h2,_⟩:=hI.out.2.2.2.2.1.map.at hap
     exact⟨xs,h1,h2⟩
    have hpg:∀W',RisK base bm n c b1 b2 nf cf D (some ⟨g0,0,none⟩) Af vs ps css fk W'->W'.cell? ⟨bm,0,none⟩=some (.slice (some ⟨g0,0,none⟩) n c)/\W'.cell? ⟨b1,0,none⟩=some (.pointer (some ⟨bm,0,none⟩))/\∃gp cp,W'.cell? ⟨g0,a,none⟩=some (.slice (some ⟨gp,0,none⟩) xs.length cp)/\∀(j:Nat) (x:CE),xs[j]?=some x->W'.cell? ⟨gp,j*2,none⟩=some x.1/\W'.cell? ⟨gp,j*2+1,none⟩=some x.2.1:=fun W' hR=>by
     obtain⟨g,gp,cp,xs',e,h1,h2,h3,h4,_,h5⟩:=hR.map.at hap
     cases e
     rw[hxs]at h4
     cases h4
     exact⟨hR.map.map.toMapRaw.cell0,hR.box1,gp,cp,h1,h5⟩
    have hcon:∀j,conK (ceAll css ps) a j=((ceAll css ps).take a).flatten ++ xs.take j:=fun j=>by unfold conK;rw[hxs];rfl
    have hj0:=hI.out.2.2.1 xs hxs
    have HPG:=zqH hpg;have HXS:=zqH hxs;have HAP:=zqH hap;have HCN:=zqH hcon
    clear hpg hxs hap hcon
    obtain⟨N,hN⟩:∃N,N=xs.length:=⟨_,rfl⟩
    have HN:=zqH hN
    rw[<-hN]at hxl HPG hj0
    clear hN
    go_wp2
    clear hc0 d1
    go_loopw [5] (fun i wr=>∃j:Nat,j<=N/\i=.int .i64 (j:Int)/\Hid (o<=(conK (ceAll css ps) a j).length/\J ((conK (ceAll css ps) a j).drop o) wr/\RisK base bm n c b1 b2 nf cf D (some ⟨g0,0,none⟩) Af vs ps css fk wr/\W.heap.size<=wr.heap.size)) (fun i _=>N-(intOf i).toNat)
    case atStart=>exact⟨j0,hj0,rfl,zqH ⟨hI.out.2.1,hI.out.2.2.2⟩⟩
    case round=>
     clear hI
     obtain⟨j,hj,rfl,hI⟩:=hrel
     obtain⟨c0,c1,gp2,cp2,c2,hcc⟩:=HPG.out _ hI.out.2.2.1
     by_cases hjN:j<N
     · obtain⟨x,hx⟩:∃x,xs[j]?=some x:=⟨_,List.getElem?_eq_getElem (by have:=HN.out;omega)⟩
       obtain⟨c3,c4⟩:=hcc j x hx
       have hsnoc:(conK (ceAll css ps) a (j+1)).drop o=(conK (ceAll css ps) a j).drop o ++ [x]:=by
        rw[HCN.out,HCN.out,List.take_add_one,hx,<-List.append_assoc,List.drop_append_of_le_length (by rw[<-HCN.out];exact hI.out.1)];rfl
       have hpost:∃post,fromK fk (ceAll css ps).flatten=(conK (ceAll css ps) a j).drop o ++ x :: post:=by
        obtain⟨post,hpost⟩:=flat_split HXS.out hx
        refine⟨post,?_⟩
        unfold fromK
        rw[<-HDR.out,hpost,List.append_assoc,<-List.append_assoc,HCN.out,List.drop_append_of_le_length (by rw[<-HCN.out];exact hI.out.1)]
       obtain⟨post,hpost⟩:=hpost
       obtain⟨fn,tmps,assign,body,hy,hR⟩:=HYY.out _ x wr wr _ ⟨post,hpost⟩ hI.out.2.2.2 hI.out.2.1 (Upd.refl _ _) rfl hI.out.2.2.1
       unfold encE at hy
       have HR:=zqH hR;have HX:=zqH hx;have HPP:=zqH hpost;have HSN:=zqH hsnoc
       have hoj:o<=(conK (ceAll css ps) a (j+1)).length:=Nat.le_trans hI.out.1 (by rw[HCN.out,HCN.out,List.length_append,List.length_append,List.length_take,List.length_take];omega)
       clear hcc hR hx hpost hsnoc
       go_upto_region 7 with fail
       refine(wpIn_wide (n:=0)).1 ?_
       gi_wp2
       refine⟨rfl,HR.out.mono ?_⟩
       rintro e W3 ⟨hz3,hk3,(⟨rfl,hJ3⟩|⟨rfl,hJx3⟩)⟩
       · have HJ3:=zqH hJ3;have HK3:=zqH hk3;have HZ3:=zqH (Nat.le_trans hI.out.2.2.2 hz3.1)
         clear hJ3 hk3 HR hy hz3
         gi_wp2
         go_wp2
         refine⟨⟨j+1,by omega,by congr 1,zqH ⟨hoj,?_,HK3.out,HZ3.out⟩⟩,by simp[intOf];omega⟩
         rw[HSN.out];exact HJ3.out
       · have HJ3:=zqH hJx3;have HZ3:=zqH (Nat.le_trans hI.out.2.2.2 hz3.1)
         clear hJx3 HR hy hz3 hk3
         gi_wp2
         go_wp2
         refine bodyPost_ret (results_none rfl _ _ _) rfl ?_
         exact⟨⟨_,rfl⟩,HFIN.out _ HZ3.out (.inr ⟨_,x,post,HPP.out,HJ3.out⟩)⟩
     · obtain rfl:j=N:=by omega
       have hn1:n<=1000000:=by have:=HNE.out;have:=HL.out;omega
       have hnext:conK (ceAll css ps) (a+1) 0=conK (ceAll css ps) a j:=by
        rw[HCN.out,List.take_of_length_le (l:=xs) (by have:=HN.out;omega)]
        unfold conK
        rw[flat_take HXS.out,List.take_zero,List.append_nil]
       have HNX:=zqH hnext
       clear hnext
       go_wp2
       refine⟨⟨a+1,0,by omega,by omega,by congr 1,rfl,zqH ⟨.inr rfl,by rw[HNX.out];exact hI.out.1,fun _ _=>Nat.zero_le _,by rw[HNX.out];exact hI.out.2.1,hI.out.2.2⟩⟩,by simp[intOf];omega⟩
  · obtain rfl:a=n:=by omega
    obtain rfl:j0=0:=hI.out.1.elim (fun h=>absurd h han) id
    go_wp2
    go_end0
    have hall:J (fromK fk (ceAll css ps).flatten) wr:=by
     have:=hI.out.2.2.2.1
     rw[HRW.out _ (Nat.le_refl _),HDR.out]at this
     exact this
    obtain⟨Z,h1,h2,h3⟩:=HFIN.out _ hI.out.2.2.2.2.2 (.inl ⟨hall,hI.out.2.2.2.2.1⟩)
    exact⟨⟨_,rfl⟩,Z,h1,h2,h3.elim .inl (fun⟨pre,x,post,e,hx⟩=>.inr ⟨pre,x.1,x.2.1,x.2.2.1,x.2.2.2,⟨post,e⟩,hx⟩)⟩
end Go.Proofs.YtbhnjkegkadodaaGreatDoor

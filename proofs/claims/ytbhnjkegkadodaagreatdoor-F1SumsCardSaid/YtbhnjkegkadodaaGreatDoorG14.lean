/- Part of the proof. -/
import Derived.Test.YtbhnjkegkadodaaGreatDoorG13
import Derived.Deep.RegionHeld
import Derived.Deep.DeepCutAuto
import Derived.Shelf.RegionOpen
import Derived.OwnWalkIn
import Derived.LoopNIn
import Derived.LoopIn
set_option linter.all false
set_option maxRecDepth 100000
set_option maxHeartbeats 8000000
namespace Gz
open Go Go.RowKit Go.Proofs Gl Go.Shelf
attribute [local go_sem] Oper.semAt_some
def encE (x:CE):Array Value:=#[.agg #[x.1,x.2.1]]
structure Ris (base bm n c b1 b2 nf cf:Nat) (D:Nat->Prop) (A Af:Option Addr) (vs:List Value) (ps:List (List Ent)) (css:List (List Value)) (W:World):Prop where
 map:MapC 182 251 base W bm D A n c vs ps css
 box1:W.cell? ⟨b1,0,none⟩=some (.pointer (some ⟨bm,0,none⟩))
 box2:W.cell? ⟨b2,0,none⟩=some (.slice Af nf cf)
 from_:By W Af nf cf []
theorem Ris.upd {base bm n c b1 b2 nf cf:Nat} {D T:Nat->Prop} {A Af:Option Addr} {vs:List Value} {ps:List (List Ent)} {css:List (List Value)} {W W':World} (h:Ris base bm n c b1 b2 nf cf D A Af vs ps css W) (hu:Upd T W W') (hf:∀b,foot bm D A n c vs b->¬T b) (h1:¬T b1) (h2:¬T b2) (h3:∀a,Af=some a → 0<nf->¬T a.block):Ris base bm n c b1 b2 nf cf D A Af vs ps css W':=
 ⟨h.map.upd hu hf,(hu.cell (a:=⟨b1,0,none⟩) (zqB W _ h.box1) h1).trans h.box1,(hu.cell (a:=⟨b2,0,none⟩) (zqB W _ h.box2) h2).trans h.box2,h.from_.upd hu h3⟩
theorem Ris.new {base bm n c b1 b2 nf cf:Nat} {D:Nat->Prop} {A Af:Option Addr} {vs:List Value} {ps:List (List Ent)} {css:List (List Value)} {W W':World} (h:Ris base bm n c b1 b2 nf cf D A Af vs ps css W) (hu:New W W'):Ris base bm n c b1 b2 nf cf D A Af vs ps css W':=
 h.upd hu (fun _ _=>id) id id (fun _ _ _=>id)
theorem flat_take {α:Type} {L:List (List α)} {a:Nat} {xs:List α} (h:L[a]?=some xs):(L.take (a+1)).flatten=(L.take a).flatten ++ xs:=by
 rw[List.take_add_one,h];simp
theorem flat_split {α:Type} {L:List (List α)} {a j:Nat} {xs:List α} {x:α} (h:L[a]?=some xs) (hx:xs[j]?=some x):∃post,L.flatten=(L.take a).flatten ++ xs.take j ++ x :: post:=by
 have ha:a<L.length:=(List.getElem?_eq_some_iff.1 h).1;have hj:j<xs.length:=(List.getElem?_eq_some_iff.1 hx).1;have e1:L=L.take a ++ xs :: L.drop (a+1):=by
  conv=>lhs;rw[<-List.take_append_drop a L,List.drop_eq_getElem_cons ha]
  rw[(List.getElem?_eq_some_iff.1 h).2]
 have e2:xs=xs.take j ++ x :: xs.drop (j+1):=by
  conv=>lhs;rw[<-List.take_append_drop j xs,List.drop_eq_getElem_cons hj]
  rw[(List.getElem?_eq_some_iff.1 hx).2]
 refine⟨xs.drop (j+1) ++ (L.drop (a+1)).flatten,?_⟩
 calc L.flatten=(L.take a ++ xs :: L.drop (a+1)).flatten:=by rw[<-e1]
  _=(L.take a).flatten ++ xs ++ (L.drop (a+1)).flatten:=by simp only[List.flatten_append,List.flatten_cons,List.append_assoc]
  _=(L.take a).flatten ++ (xs.take j ++ x :: xs.drop (j+1)) ++ (L.drop (a+1)).flatten:=by rw[<-e2]
  _=_:=by simp only[List.append_assoc,List.cons_append]
theorem rising1_gives {base bm n c b1 b2 nf cf:Nat} {D:Nat->Prop} {A Af:Option Addr} {vs:List Value} {ps:List (List Ent)} {css:List (List Value)} (hlen:ps.length<=1000000) (hN:0<ps.length):
 Gives Tryz.prog 167 #[.pointer (some ⟨b1,0,none⟩),.pointer (some ⟨b2,0,none⟩)] (fun x _ _ vals=>vals=encE x) (fun _=>False) (Ris base bm n c b1 b2 nf cf D A Af vs ps css) (ceAll css ps).flatten:=by
 intro l J' Jx' W hJ' hJx' hK h0' hY';obtain⟨J,a7⟩:=zE (J' W.heap.size);obtain⟨Jx,a8⟩:=zE (Jx' W.heap.size);have hJ:Abide (fun _=>False) J:=a7▸(hJ' W.heap.size).mono (fun _ h=>h.elim);have h0:J [] W:=a7▸h0' _;have hY:∀pre x W0 W1 vals,(∃post,(ceAll css ps).flatten=pre ++ x :: post)->W.heap.size<=W0.heap.size->J pre W0->Upd (Priv (fun _=>False) W.heap.size W.heap.size) W0 W1->vals=encE x->Ris base bm n c b1 b2 nf cf D A Af vs ps css W1->YieldAt FW 0 Tryz.prog l vals W1 fun e W'=>Kept W.heap.size W.heap.size W0.heap.size W1 W'/\Ris base bm n c b1 b2 nf cf D A Af vs ps css W'/\((e=.returned (.bool true)/\J (pre ++ [x]) W')\/(e=.returned (.bool false)/\Jx (pre ++ [x]) W')):=by
  rw[a7,a8];exact fun pre x W0 W1 vals hp hz hj hu he hk=>hY' _ pre x W0 W1 vals hp (zR _) hz hj hu he hk
 have c5:∀W',W.heap.size<=W'.heap.size → (J (ceAll css ps).flatten W'/\Ris base bm n c b1 b2 nf cf D A Af vs ps css W'\/∃pre x post,(ceAll css ps).flatten=pre ++ x :: post/\Jx (pre ++ [x]) W')->∃Z,W.heap.size<=Z/\Z<=W'.heap.size/\(J' Z (ceAll css ps).flatten W'/\Ris base bm n c b1 b2 nf cf D A Af vs ps css W'\/∃pre x post,(ceAll css ps).flatten=pre ++ x :: post/\Jx' Z (pre ++ [x]) W'):=by
  rw[a7,a8];exact fun W' hz h=>⟨_,zR _,hz,h⟩
 clear hJ' hJx' h0' hY' a7 a8;have e9:=hK;have hn:n=ps.length:=hK.map.map.toMapRaw.n_eq;obtain⟨g0,rfl⟩:∃g0,A=some ⟨g0,0,none⟩:=(by obtain⟨g,_,_,_,e,_⟩:=hK.map.at hN;exact⟨g,e⟩)
 have b6:=hK.map.map.toMapRaw.cell0;have d1:=hK.box1;have d2:=hK.box2;have j5:((n:Int) == 0)=false:=by simp;omega
 have f0:=page_c hK.map.map hK.from_ hN (by omega);have c6:=zqH c5;have f9:=zqH hY;have HJ:=zqH hJ;have HK:=zqH e9;have H0:=zqH h0;have HL:=zqH hlen;have HNN:=zqH hN;have b7:=zqH hn;have f2:=zqH f0;clear c5 hY hJ hK e9 h0 hlen hN hn f0;go_enter Tryz.func167,Tryz.ntmps167
 go_wp2_with (go_at_call 168;refine f2.out.mono ?_;rintro e w1 ⟨p,rfl,hp,q,rfl⟩;obtain rfl:=pageOf_nil HK.out.map.map.good hp;clear f2)
 have d6:∀Wx,New W Wx->∃gp m cp,W.cell? ⟨g0,0,none⟩=some (.slice (some ⟨gp,0,none⟩) m cp)/\Calls Tryz.prog 169 #[.slice (some ⟨gp,0,none⟩) m cp,.slice Af nf cf] Wx (Searched (ps[0]'HNN.out) [] Wx):=fun Wx hx=>by
  obtain⟨g,gp,cp,cs,e1,_,e2,e3,e4,e5⟩:=HK.out.map.map.at HNN.out;cases e1;obtain⟨g',g8,g9,l5,h6,_,f6,h7,h8,_⟩:=(HK.out.new hx).map.map.at HNN.out;cases h6;have:Wx.cell? ⟨g0,0,none⟩=W.cell? ⟨g0,0,none⟩:=hx.cell (a:=⟨g0,0,none⟩) (zqB W _ e2) id;rw[this,e2]at f6;cases f6;exact⟨gp,_,cp,e2,place_c h7 h8 (HK.out.from_.new hx) (HK.out.map.map.good.2.sublist (List.sublist_flatten_of_mem (List.getElem_mem HNN.out))) rfl (zT (few_len HK.out.map.map HNN.out) (by omega))⟩
 obtain⟨gp,m,cp,a9,_⟩:=d6 W (Upd.refl _ _);have d0:∀Wx,New W Wx->Calls Tryz.prog 169 #[.slice (some ⟨gp,0,none⟩) m cp,.slice Af nf cf] Wx (Searched (ps[0]'HNN.out) [] Wx):=fun Wx hx=>by
  obtain⟨g8,m',g9,e,h⟩:=d6 Wx hx;rw[a9]at e;cases e;exact h
 have g1:=zqH d0;clear d6 d0;have j9:0<n:=by have:=HNN.out;have:=b7.out;omega
 have k0:(W.drewN q).cell? ⟨bm,0,none⟩=some (.slice (some ⟨g0,0,none⟩) n c):=b6;have k1:(W.drewN q).cell? ⟨b1,0,none⟩=some (.pointer (some ⟨bm,0,none⟩)):=d1;have k2:(W.drewN q).cell? ⟨b2,0,none⟩=some (.slice Af nf cf):=d2;have k3:(W.drewN q).cell? ⟨g0,0,none⟩=some (.slice (some ⟨gp,0,none⟩) m cp):=a9;have g2:=zqH (fun(w':World) (hx:New W w')=>(⟨(HK.out.new hx).map.map.toMapRaw.cell0,(HK.out.new hx).box1,(HK.out.new hx).box2,(hx.cell (a:=⟨g0,0,none⟩) (zqB W _ a9) id).trans a9⟩:w'.cell? ⟨bm,0,none⟩=some (.slice (some ⟨g0,0,none⟩) n c)/\w'.cell? ⟨b1,0,none⟩=some (.pointer (some ⟨bm,0,none⟩))/\w'.cell? ⟨b2,0,none⟩=some (.slice Af nf cf)/\w'.cell? ⟨g0,0,none⟩=some (.slice (some ⟨gp,0,none⟩) m cp)))
 go_region_held (fun w'=>w'.cell? ⟨bm,0,none⟩=some (.slice (some ⟨g0,0,none⟩) n c)/\w'.cell? ⟨b1,0,none⟩=some (.pointer (some ⟨bm,0,none⟩))/\w'.cell? ⟨b2,0,none⟩=some (.slice Af nf cf)/\w'.cell? ⟨g0,0,none⟩=some (.slice (some ⟨gp,0,none⟩) m cp)) (go_keep) (first
  | (go_at_call 169;refine(g1.out (W.drewN (q+1)) ((Upd.refl _ W).drewN _)).mono ?_;rintro e w2 ⟨i,f,rfl,hp,e6⟩;obtain rfl:=place_nil hp;have g3:=zqH e6;obtain⟨l0,l1,l2,l3⟩:=g2.out _ (((Upd.refl _ W).drewN _).trans e6);clear e6 hp))
 go_wp2
 clear k0 k1 k2 k3 b6 d1 d2 a9 l0 l1 l2 l3;have d7:Hid (New W w2):=zqH (((Upd.refl _ W).drewN _).trans g3.out)
 go_loopw [4,5] (fun p i wr=>∃a:Nat,a<=n/\p=.int .i64 (a:Int)/\i=.int .i64 0/\Hid (J ((ceAll css ps).take a).flatten wr/\Ris base bm n c b1 b2 nf cf D (some ⟨g0,0,none⟩) Af vs ps css wr/\W.heap.size<=wr.heap.size)) (fun p i _=>n-(intOf p).toNat)
 case atStart=>exact⟨0,Nat.zero_le _,rfl,rfl,zqH ⟨by simpa using HJ.out _ _ _ H0.out d7.out,HK.out.new d7.out,d7.out.size⟩⟩
 case round=>
  obtain⟨a,ha,rfl,rfl,hI⟩:=hrel;have b6:=hI.out.2.1.map.map.toMapRaw.cell0;have d1:=hI.out.2.1.box1;by_cases han:a<n
  · have b8:a<ps.length:=(by have:=b7.out;omega);obtain⟨xs,e0,h9⟩:∃xs:List CE,(ceAll css ps)[a]?=some xs/\xs.length<=32:=by
     obtain⟨_,_,_,xs,_,_,_,_,h1,h2,_⟩:=hI.out.2.1.map.at b8;exact⟨xs,h1,h2⟩
    have f3:∀W',Ris base bm n c b1 b2 nf cf D (some ⟨g0,0,none⟩) Af vs ps css W'->W'.cell? ⟨bm,0,none⟩=some (.slice (some ⟨g0,0,none⟩) n c)/\W'.cell? ⟨b1,0,none⟩=some (.pointer (some ⟨bm,0,none⟩))/\∃gp cp,W'.cell? ⟨g0,a,none⟩=some (.slice (some ⟨gp,0,none⟩) xs.length cp)/\∀(j:Nat) (x:CE),xs[j]?=some x->W'.cell? ⟨gp,j*2,none⟩=some x.1/\W'.cell? ⟨gp,j*2+1,none⟩=some x.2.1:=fun W' hR=>by
     obtain⟨g,gp,cp,l6,e,h1,h2,h3,h4,_,h5⟩:=hR.map.at b8;cases e;rw[e0]at h4;cases h4;exact⟨hR.map.map.toMapRaw.cell0,hR.box1,gp,cp,h1,h5⟩
    have f4:=zqH f3;have f5:=zqH e0;have k7:=zqH b8;clear f3 e0 b8;obtain⟨N,hN⟩:=zE xs.length;have HN:=zqH hN;rw[<-hN]at h9 f4;clear hN;go_wp2;clear b6 d1
    go_loopw [5] (fun i wr=>∃j:Nat,j<=N/\i=.int .i64 (j:Int)/\Hid (J (((ceAll css ps).take a).flatten ++ xs.take j) wr/\Ris base bm n c b1 b2 nf cf D (some ⟨g0,0,none⟩) Af vs ps css wr/\W.heap.size<=wr.heap.size)) (fun i _=>N-(intOf i).toNat)
    case atStart=>exact⟨0,Nat.zero_le _,rfl,zqH ⟨by simpa using hI.out.1,hI.out.2⟩⟩
    case round=>
     clear hI;obtain⟨j,hj,rfl,hI⟩:=hrel;obtain⟨c0,c1,l8,l9,c2,f7⟩:=f4.out _ hI.out.2.1;by_cases hjN:j<N
     · obtain⟨x,hx⟩:∃x,xs[j]?=some x:=⟨_,zG (by have:=HN.out;omega)⟩
       obtain⟨c3,c4⟩:=f7 j x hx;obtain⟨post,a5⟩:=flat_split f5.out hx;obtain⟨fn,j4,assign,body,hy,hR⟩:=f9.out _ x wr wr _ ⟨post,a5⟩ hI.out.2.2 hI.out.1 (Upd.refl _ _) rfl hI.out.2.1;unfold encE at hy;have HR:=zqH hR;have HX:=zqH hx;have g5:=zqH a5;clear f7 hR hx a5
       go_upto_region 7 with fail
       refine(wpIn_wide (n:=0)).1 ?_
       gi_wp2
       refine⟨rfl,HR.out.mono ?_⟩;rintro e W3 ⟨b9,e7,(⟨rfl,f8⟩|⟨rfl,d5⟩)⟩
       · have d8:=zqH f8;have g6:=zqH e7;have d9:=zqH (zT hI.out.2.2 b9.1);clear f8 e7 HR hy b9
         gi_wp2
         go_wp2
         refine⟨⟨j+1,by omega,by congr 1,zqH ⟨?_,g6.out,d9.out⟩⟩,by simp[intOf];omega⟩;have:=d8.out;rw[List.append_assoc]at this;rw[List.take_add_one,HX.out];exact this
       · have d8:=zqH d5;have d9:=zqH (zT hI.out.2.2 b9.1);clear d5 HR hy b9 e7
         gi_wp2
         go_wp2
         refine bodyPost_ret (results_none rfl _ _ _) rfl ?_
         exact⟨⟨_,rfl⟩,c6.out _ d9.out (.inr ⟨_,x,post,g5.out,d8.out⟩)⟩
     · obtain rfl:j=N:=(by omega);have k9:n<=1000000:=(by have:=b7.out;have:=HL.out;omega);go_wp2;refine⟨⟨a+1,by omega,by congr 1,rfl,zqH ⟨?_,hI.out.2⟩⟩,by simp[intOf];omega⟩;have:=hI.out.1;rw[List.take_of_length_le (l:=xs) (by have:=HN.out;omega)]at this;rw[flat_take f5.out];exact this
  · obtain rfl:a=n:=(by omega);go_wp2
    go_end0
    refine⟨⟨_,rfl⟩,c6.out _ hI.out.2.2 (.inl ⟨?_,hI.out.2.1⟩)⟩;have:=hI.out.1;rw[List.take_of_length_le (by rw[hI.out.2.1.map.all_len];have:=b7.out;omega)]at this;exact this
end Gz
namespace Gz
open Go Go.RowKit Go.Proofs Gl Go.Shelf
theorem rising1_nil {base bm n c b1 b2 nf cf:Nat} {D:Nat->Prop} {A Af:Option Addr} {vs:List Value} {css:List (List Value)}:
 Gives Tryz.prog 167 #[.pointer (some ⟨b1,0,none⟩),.pointer (some ⟨b2,0,none⟩)] (fun x _ _ vals=>vals=encE x) (fun _=>False) (Ris base bm n c b1 b2 nf cf D A Af vs [] css) (ceAll css []).flatten:=by
 intro l J Jx W hJ hJx hK h0 hY;have hn:n=0:=hK.map.map.toMapRaw.n_eq;subst hn;have a4:=hK.map.map.toMapRaw.cell0;have d1:=hK.box1;have e0:(ceAll css []).flatten=[]:=by simp[ceAll]
 have H0:=zqH h0;have HE:=zqH e0;have a1:=zqH hK;clear hJ hJx hY h0 hK e0;go_enter Tryz.func167,Tryz.ntmps167;go_wp2;refine bodyPost_ret (results_none rfl _ _ _) rfl ?_
 exact⟨⟨_,rfl⟩,W.heap.size,zR _,zR _,.inl ⟨by rw[HE.out];exact H0.out _,a1.out⟩⟩
theorem rising1_all {base bm n c b1 b2 nf cf:Nat} {D:Nat->Prop} {A Af:Option Addr} {vs:List Value} {ps:List (List Ent)} {css:List (List Value)} (hlen:ps.length<=1000000):
 Gives Tryz.prog 167 #[.pointer (some ⟨b1,0,none⟩),.pointer (some ⟨b2,0,none⟩)] (fun x _ _ vals=>vals=encE x) (fun _=>False) (Ris base bm n c b1 b2 nf cf D A Af vs ps css) (ceAll css ps).flatten:=by
 by_cases h:ps=[]
 · subst h;exact rising1_nil
 · exact rising1_gives hlen (List.length_pos_iff.2 h)
theorem owned_nil {w:World}:Calls Tryz.prog 107 #[.slice none 0 0] w fun e w'=>e=.returned (.slice none 0 0)/\w'=w:=by
 obtain⟨i0,a1,a3,a4,a5⟩:=info_parts info5;have hr:∀ty,(Builtin.append_ #[113,113] ty #[.slice none 0 0,.slice none 0 0]).run Tryz.prog w=.ok (.slice none 0 0) w:=fun ty=>by
  simp[Builtin.append_,run_underlying Tryz.underlying113,Go.sizeOf,typeInfo,a1,Builtin.lenOf,Builtin.firstCells]
 go_enter Tryz.func107,Tryz.ntmps107
 go_wp2_with (at_builtin;refine Lib.wpList_append_run _ rfl _ _ _ _ rfl _ _ rfl rfl _ _ (hr _) ?_)
 go_ret
 exact⟨rfl,rfl⟩
theorem rising_c {w:World} {bm nf cf:Nat} {Af:Option Addr}:
 Calls Tryz.prog 109 #[.pointer (some ⟨bm,0,none⟩),.slice Af nf cf] w fun e w'=>∃b1 b2,e=.returned (.func (.func 167) #[] #[.pointer (some ⟨b1,0,none⟩),.pointer (some ⟨b2,0,none⟩)])/\New w w'/\w.heap.size<=b1/\w.heap.size<=b2/\b1<w'.heap.size/\b2<w'.heap.size/\w'.cell? ⟨b1,0,none⟩=some (.pointer (some ⟨bm,0,none⟩))/\w'.cell? ⟨b2,0,none⟩=some (.slice Af nf cf):=by
 go_enter Tryz.func109,Tryz.ntmps109
 go_wp2
 go_ret
 refine⟨w.heap.size,w.heap.size+1,rfl,(zU _ _ _).trans (zU _ _ _),zR _,by omega,?_,?_,?_,?_⟩
 · show _<((w.heap.push _).push _).size;simp;omega
 · show _<((w.heap.push _).push _).size;simp
 · exact zaa (t:=93) (fr:=(0,0)) (cs:=#[.pointer (some ⟨bm,0,none⟩)]) (by rw[zaj _ (by show _<(w.heap.push _).size;simp)];exact zX w _) 0 _ rfl
 · have e:=zX (w.alloc (.cells #[.pointer (some ⟨bm,0,none⟩)] 93)) (.cells #[.slice Af nf cf] 113);rw[show(w.alloc (.cells #[.pointer (some ⟨bm,0,none⟩)] 93)).heap.size=w.heap.size+1 by show(w.heap.push _).size=_;simp]at e;exact zaa e 0 _ rfl
theorem walk_c {w:World} {bm:Nat}:
 Calls Tryz.prog 57 #[.pointer (some ⟨bm,0,none⟩),.slice none 0 0,.slice none 0 0] w fun e w'=>∃b1 b2 b3,e=.returned (.func (.func 108) #[] #[.pointer (some ⟨b1,0,none⟩),.pointer (some ⟨b2,0,none⟩),.pointer (some ⟨b3,0,none⟩)])/\New w w'/\(w.heap.size<=b1/\w.heap.size<=b2/\w.heap.size<=b3)/\w'.cell? ⟨b1,0,none⟩=some (.pointer (some ⟨bm,0,none⟩))/\w'.cell? ⟨b2,0,none⟩=some (.slice none 0 0)/\w'.cell? ⟨b3,0,none⟩=some (.slice none 0 0):=by
 obtain⟨W,hW⟩:=zE (((w.alloc (.cells #[.pointer (some ⟨bm,0,none⟩)] 93)).alloc (.cells #[.slice none 0 0] 113)).alloc (.cells #[.slice none 0 0] 113));have hu:New w W:=by rw[hW];exact((zU _ _ _).trans (zU _ _ _)).trans (zU _ _ _)
 have e0:W.heap[w.heap.size]?=some (.cells #[.pointer (some ⟨bm,0,none⟩)] 93 (0,0)):=by
  rw[hW];show(((w.heap.push _).push _).push _)[w.heap.size]?=_;rw[Array.getElem?_push_lt (by simp;omega),Array.getElem_push_lt (by simp),Array.getElem_push_eq]
 have e1:W.heap[w.heap.size+1]?=some (.cells #[.slice none 0 0] 113 (0,0)):=by
  rw[hW];show(((w.heap.push _).push _).push _)[w.heap.size+1]?=_;rw[Array.getElem?_push_lt (by simp)]
  congr 1
  have:w.heap.size+1=(w.heap.push (Obj.cells #[.pointer (some ⟨bm,0,none⟩)] 93)).size:=by simp
  simp only[this,Array.getElem_push_eq]
 have e2:W.heap[w.heap.size+1+1]?=some (.cells #[.slice none 0 0] 113 (0,0)):=by
  have e:=zX ((w.alloc (.cells #[.pointer (some ⟨bm,0,none⟩)] 93)).alloc (.cells #[.slice none 0 0] 113)) (.cells #[.slice none 0 0] 113);rw[show((w.alloc (.cells #[.pointer (some ⟨bm,0,none⟩)] 93)).alloc (.cells #[.slice none 0 0] 113)).heap.size=w.heap.size+1+1 by show((w.heap.push _).push _).size=_;simp]at e;rw[hW];exact e
 have c1:=zaa e1 0 (.slice none 0 0) rfl;have c2:=zaa e2 0 (.slice none 0 0) rfl;have f1:=zad e1 0;have f2:=zad e2 0;have s1:=zac e1 (.slice none 0 0) (i:=0);have s2:=zac (i:=0) (b:=w.heap.size+1+1) ((zam (i:=0) (b:=w.heap.size+1) (.slice none 0 0) (by omega)).trans e2) (.slice none 0 0);have a7:¬(w.heap.size+1=w.heap.size+1+1):=by omega
 have e3:(W.setCell ⟨w.heap.size+1,0,none⟩ (.slice none 0 0)).cell? ⟨w.heap.size+1+1,0,none⟩=some (.slice none 0 0):=zaa ((zam (i:=0) _ (by omega)).trans e2) 0 _ rfl;have f3:(W.setCell ⟨w.heap.size+1,0,none⟩ (.slice none 0 0)).frozen? ⟨w.heap.size+1+1,0,none⟩=false:=zad ((zam (i:=0) _ (by omega)).trans e2) 0;have HF:Hid (∀Wx:World,Wx.heap=W.heap->Wx.tape=W.tape->Wx.os=W.os->Wx.output=W.output->New w Wx/\Wx.cell? ⟨w.heap.size,0,none⟩=some (.pointer (some ⟨bm,0,none⟩))/\Wx.cell? ⟨w.heap.size+1,0,none⟩=some (.slice none 0 0)/\Wx.cell? ⟨w.heap.size+1+1,0,none⟩=some (.slice none 0 0)):=zqH (fun Wx h1 h2 h3 h4=>
  ⟨hu.trans ⟨h3,h4,h2,by rw[h1];exact zR _,fun b _ _=>by rw[h1]⟩,zaa (by rw[h1];exact e0) 0 _ rfl,zaa (by rw[h1];exact e1) 0 _ rfl,zaa (by rw[h1];exact e2) 0 _ rfl⟩)
 clear hu e0 e1 e2 s1 s2;go_enter Tryz.func57,Tryz.ntmps57
 go_upto_region 1 with fail
 rw[<-hW];have a4:∀Wx,Calls Tryz.prog 107 #[.slice none 0 0] Wx fun e w'=>e=.returned (.slice none 0 0)/\w'=Wx:=fun Wx=>owned_nil
 go_region_with (first
  | (go_at_call 107;refine(a4 _).mono ?_;rintro e w2 ⟨rfl,rfl⟩))
 all_goals go_wp2
 all_goals go_ret
 all_goals
  obtain⟨q1,q2,q3,q4⟩:=HF.out _ (by rw[hW]) (by rw[hW]) (by rw[hW]) (by rw[hW]);exact⟨w.heap.size,w.heap.size+1,w.heap.size+1+1,rfl,q1.drew,⟨zR _,by omega,by omega⟩,q2,q3,q4⟩
end Gz
namespace Gl
open Go Go.RowKit
theorem found_cut {ps:List (List Ent)} {k:Bs} {p i:Nat} {f:Bool} (h:Found ps k p i f):(∀x ∈ ps.flatten.take ((ps.take p).flatten.length+i),blt x.1 k=true)/\(∀x ∈ ps.flatten.drop ((ps.take p).flatten.length+i),blt x.1 k=false)/\(ps.take p).flatten.length+i<=ps.flatten.length:=by
 obtain⟨A,X,Y,C,rfl,rfl,rfl,a2,a1⟩:=h;have e:(A ++ (X ++ Y) :: C).flatten=(A.flatten ++ X) ++ (Y ++ C.flatten):=by simp
 have e2:(A ++ (X ++ Y) :: C).take A.length=A:=by simp
 have e3:(A.flatten.length+X.length)=(A.flatten ++ X).length:=by simp
 rw[e2,e,e3];refine⟨fun x hx=>?_,fun x hx=>?_,by simp⟩
 · rw[List.take_left]at hx;exact a2 x hx
 · rw[List.drop_left]at hx;cases f with
   | true=>
     rw[if_pos rfl]at a1;obtain⟨u,Y',rfl,hh⟩:=a1;rcases List.mem_append.1 hx with hx|hx
     · rcases List.mem_cons.1 hx with rfl|hx
       · exact zax _
       · exact zbn (hh x (List.mem_append_left _ hx))
     · exact zbn (hh x (List.mem_append_right _ hx))
   | false=>
     simp only[Bool.false_eq_true,ite_false]at a1;exact zbn (a1 x hx)
theorem drop_filter {α:Type} {f:α->Ent} {l:List α} {L:List Ent} {k:Bs} (h:l.map f=L) (o:Nat) (h1:∀x ∈ L.take o,blt x.1 k=true) (h2:∀x ∈ L.drop o,blt x.1 k=false):l.drop o=l.filter (fun x=>!blt (f x).1 k):=by
 subst h;have e:l=l.take o ++ l.drop o:=(List.take_append_drop _ _).symm
 conv=>rhs;rw[e,List.filter_append]
 have f1:(l.take o).filter (fun x=>!blt (f x).1 k)=[]:=by
  rw[List.filter_eq_nil_iff];intro x hx;have:=h1 (f x) (by rw[<-List.map_take];exact List.mem_map_of_mem hx);simp[this]
 have f2:(l.drop o).filter (fun x=>!blt (f x).1 k)=l.drop o:=by
  rw[List.filter_eq_self];intro x hx;have:=h2 (f x) (by rw[<-List.map_drop];exact List.mem_map_of_mem hx);simp[this]
 rw[f1,f2,List.nil_append]
end Gl
namespace Gl
open Go Go.RowKit
section
variable {tE tP base bm n c:Nat} {w w':World} {D T:Nat->Prop} {A:Option Addr} {vs:List Value} {ps:List (List Ent)} {css:List (List Value)}
theorem MapC.all_maps (h:MapC tE tP base w bm D A n c vs ps css):(ceAll css ps).map (List.map (·.2.2))=ps:=by
 apply List.ext_getElem?;intro i;by_cases hi:i<ps.length
 · obtain⟨a1,h1,h2⟩:=h.all_at hi;have hv:vs[i]?=some (vs[i]'(by have:=h.map.len;omega)):=zG _;obtain⟨_,h4⟩:=h.cells i _ _ a1 hv (zG hi) h1;rw[List.getElem?_map,h2,zG hi];simp[(ce_get h4).2.1]
 · rw[List.getElem?_eq_none (by rw[List.length_map,h.all_len];omega),List.getElem?_eq_none (by omega)]
theorem MapC.take_len (h:MapC tE tP base w bm D A n c vs ps css) (p:Nat):((ceAll css ps).take p).flatten.length=(ps.take p).flatten.length:=by
 have h1:=h.all_maps;have h2:((ceAll css ps).take p).map (List.map (·.2.2))=ps.take p:=by rw[List.map_take,h1]
 rw[<-h2,<-List.map_flatten,List.length_map]
theorem MapC.page_len (h:MapC tE tP base w bm D A n c vs ps css) {i:Nat} (hi:i<ps.length) {xs:List CE} (hx:(ceAll css ps)[i]?=some xs):xs.length=ps[i].length:=by
 have h1:=h.all_maps;have h2:((ceAll css ps).map (List.map (·.2.2)))[i]?=ps[i]?:=by rw[h1]
 rw[List.getElem?_map,hx,zG hi]at h2;simp only[Option.map_some,Option.some.injEq]at h2;rw[<-h2,List.length_map]
theorem MapC.drop_is (h:MapC tE tP base w bm D A n c vs ps css) {k:Bs} {p i:Nat} {f:Bool} (hf:Found ps k p i f):
 (ceAll css ps).flatten.drop (((ceAll css ps).take p).flatten.length+i)=(ceAll css ps).flatten.filter (fun x=>!blt x.2.2.1 k)/\((ceAll css ps).take p).flatten.length+i<=(ceAll css ps).flatten.length:=by
 obtain⟨h1,h2,h3⟩:=found_cut hf;rw[h.take_len];refine⟨drop_filter h.all_ents _ h1 h2,?_⟩;have:=congrArg List.length h.all_ents;rw[List.length_map]at this;omega
end
end Gl
namespace Gz
open Go Go.RowKit Go.Proofs Gl Go.Shelf
attribute [local go_sem] Oper.semAt_some
structure RisK (base bm n c b1 b2 nf cf:Nat) (D:Nat->Prop) (A Af:Option Addr) (vs:List Value) (ps:List (List Ent)) (css:List (List Value)) (fk:Bs) (W:World):Prop where
 map:MapC 182 251 base W bm D A n c vs ps css
 box1:W.cell? ⟨b1,0,none⟩=some (.pointer (some ⟨bm,0,none⟩))
 box2:W.cell? ⟨b2,0,none⟩=some (.slice Af nf cf)
 from_:By W Af nf cf fk
theorem RisK.upd {base bm n c b1 b2 nf cf:Nat} {D T:Nat->Prop} {A Af:Option Addr} {vs:List Value} {ps:List (List Ent)} {css:List (List Value)} {fk:Bs} {W W':World} (h:RisK base bm n c b1 b2 nf cf D A Af vs ps css fk W) (hu:Upd T W W') (hf:∀b,foot bm D A n c vs b->¬T b) (h1:¬T b1) (h2:¬T b2) (h3:∀a,Af=some a → 0<nf->¬T a.block):RisK base bm n c b1 b2 nf cf D A Af vs ps css fk W':=
 ⟨h.map.upd hu hf,(hu.cell (a:=⟨b1,0,none⟩) (zqB W _ h.box1) h1).trans h.box1,(hu.cell (a:=⟨b2,0,none⟩) (zqB W _ h.box2) h2).trans h.box2,h.from_.upd hu h3⟩
theorem RisK.new {base bm n c b1 b2 nf cf:Nat} {D:Nat->Prop} {A Af:Option Addr} {vs:List Value} {ps:List (List Ent)} {css:List (List Value)} {fk:Bs} {W W':World} (h:RisK base bm n c b1 b2 nf cf D A Af vs ps css fk W) (hu:New W W'):RisK base bm n c b1 b2 nf cf D A Af vs ps css fk W':=
 h.upd hu (fun _ _=>id) id id (fun _ _ _=>id)
def fromK (fk:Bs) (l:List CE):List CE:=l.filter (fun x=>!blt x.2.2.1 fk)
def conK (l:List (List CE)) (a j:Nat):List CE:=(l.take a).flatten ++ (l[a]?.getD []).take j
theorem risingK_gives {base bm n c b1 b2 nf cf:Nat} {D:Nat->Prop} {A Af:Option Addr} {vs:List Value} {ps:List (List Ent)} {css:List (List Value)} {fk:Bs} (hlen:ps.length<=1000000) (hN:0<ps.length):
 Gives Tryz.prog 167 #[.pointer (some ⟨b1,0,none⟩),.pointer (some ⟨b2,0,none⟩)] (fun x _ _ vals=>vals=encE x) (fun _=>False) (RisK base bm n c b1 b2 nf cf D A Af vs ps css fk) (fromK fk (ceAll css ps).flatten):=by
 intro l J' Jx' W hJ' hJx' hK h0' hY';obtain⟨J,c5⟩:=zE (J' W.heap.size);obtain⟨Jx,c6⟩:=zE (Jx' W.heap.size);have hJ:Abide (fun _=>False) J:=c5▸(hJ' W.heap.size).mono (fun _ h=>h.elim);have h0:J [] W:=c5▸h0' _;have hY:∀pre x W0 W1 vals,(∃post,(fromK fk (ceAll css ps).flatten)=pre ++ x :: post)->W.heap.size<=W0.heap.size->J pre W0->Upd (Priv (fun _=>False) W.heap.size W.heap.size) W0 W1->vals=encE x->RisK base bm n c b1 b2 nf cf D A Af vs ps css fk W1->YieldAt FW 0 Tryz.prog l vals W1 fun e W'=>Kept W.heap.size W.heap.size W0.heap.size W1 W'/\RisK base bm n c b1 b2 nf cf D A Af vs ps css fk W'/\((e=.returned (.bool true)/\J (pre ++ [x]) W')\/(e=.returned (.bool false)/\Jx (pre ++ [x]) W')):=by
  rw[c5,c6];exact fun pre x W0 W1 vals hp hz hj hu he hk=>hY' _ pre x W0 W1 vals hp (zR _) hz hj hu he hk
 have e0:∀W',W.heap.size<=W'.heap.size → (J (fromK fk (ceAll css ps).flatten) W'/\RisK base bm n c b1 b2 nf cf D A Af vs ps css fk W'\/∃pre x post,(fromK fk (ceAll css ps).flatten)=pre ++ x :: post/\Jx (pre ++ [x]) W')->∃Z,W.heap.size<=Z/\Z<=W'.heap.size/\(J' Z (fromK fk (ceAll css ps).flatten) W'/\RisK base bm n c b1 b2 nf cf D A Af vs ps css fk W'\/∃pre x post,(fromK fk (ceAll css ps).flatten)=pre ++ x :: post/\Jx' Z (pre ++ [x]) W'):=by
  rw[c5,c6];exact fun W' hz h=>⟨_,zR _,hz,h⟩
 clear hJ' hJx' h0' hY' c5 c6;have f9:=hK;have hn:n=ps.length:=hK.map.map.toMapRaw.n_eq;obtain⟨g0,rfl⟩:∃g0,A=some ⟨g0,0,none⟩:=(by obtain⟨g,_,_,_,e,_⟩:=hK.map.at hN;exact⟨g,e⟩)
 have d6:=hK.map.map.toMapRaw.cell0;have d1:=hK.box1;have d2:=hK.box2;have o4:((n:Int) == 0)=false:=by simp;omega
 have g1:=page_c hK.map.map hK.from_ hN (by omega);have e6:=zqH e0;have j3:=zqH hY;have HJ:=zqH hJ;have HK:=zqH f9;have H0:=zqH h0;have HL:=zqH hlen;have o8:=zqH hN;have d7:=zqH hn;have g2:=zqH g1;clear e0 hY hJ hK f9 h0 hlen hN hn g1;go_enter Tryz.func167,Tryz.ntmps167
 go_wp2_with (go_at_call 168;refine g2.out.mono ?_;rintro e w1 ⟨p,rfl,hp,q,rfl⟩;have g3:=zqH hp;clear g2 hp)
 have hp:=g3.out.1;have f2:∀Wx,New W Wx->∃gp m cp,W.cell? ⟨g0,p,none⟩=some (.slice (some ⟨gp,0,none⟩) m cp)/\Calls Tryz.prog 169 #[.slice (some ⟨gp,0,none⟩) m cp,.slice Af nf cf] Wx (Searched (ps[p]'hp) fk Wx):=fun Wx hx=>by
  obtain⟨g,gp,cp,cs,e1,_,e2,e3,e4,e5⟩:=HK.out.map.map.at hp;cases e1;obtain⟨g',k9,l4,p8,l5,_,i1,l6,l7,_⟩:=(HK.out.new hx).map.map.at hp;cases l5;have:Wx.cell? ⟨g0,p,none⟩=W.cell? ⟨g0,p,none⟩:=hx.cell (a:=⟨g0,p,none⟩) (zqB W _ e2) id;rw[this,e2]at i1;cases i1;exact⟨gp,_,cp,e2,place_c l6 l7 (HK.out.from_.new hx) (HK.out.map.map.good.2.sublist (List.sublist_flatten_of_mem (List.getElem_mem hp))) rfl (zT (few_len HK.out.map.map hp) (by omega))⟩
 obtain⟨gp,m,cp,d0,_⟩:=f2 W (Upd.refl _ _);have e7:∀Wx,New W Wx->Calls Tryz.prog 169 #[.slice (some ⟨gp,0,none⟩) m cp,.slice Af nf cf] Wx (Searched (ps[p]'hp) fk Wx):=fun Wx hx=>by
  obtain⟨k9,m',l4,e,h⟩:=f2 Wx hx;rw[d0]at e;cases e;exact h
 have j4:=zqH e7;clear f2 e7;have j5:p<n:=by have:=d7.out;omega
 have k0:(W.drewN q).cell? ⟨bm,0,none⟩=some (.slice (some ⟨g0,0,none⟩) n c):=d6;have k1:(W.drewN q).cell? ⟨b1,0,none⟩=some (.pointer (some ⟨bm,0,none⟩)):=d1;have k2:(W.drewN q).cell? ⟨b2,0,none⟩=some (.slice Af nf cf):=d2;have k3:(W.drewN q).cell? ⟨g0,p,none⟩=some (.slice (some ⟨gp,0,none⟩) m cp):=d0;have j6:=zqH (fun(w':World) (hx:New W w')=>(⟨(HK.out.new hx).map.map.toMapRaw.cell0,(HK.out.new hx).box1,(HK.out.new hx).box2,(hx.cell (a:=⟨g0,p,none⟩) (zqB W _ d0) id).trans d0⟩:w'.cell? ⟨bm,0,none⟩=some (.slice (some ⟨g0,0,none⟩) n c)/\w'.cell? ⟨b1,0,none⟩=some (.pointer (some ⟨bm,0,none⟩))/\w'.cell? ⟨b2,0,none⟩=some (.slice Af nf cf)/\w'.cell? ⟨g0,p,none⟩=some (.slice (some ⟨gp,0,none⟩) m cp)))
 go_region_held (fun w'=>w'.cell? ⟨bm,0,none⟩=some (.slice (some ⟨g0,0,none⟩) n c)/\w'.cell? ⟨b1,0,none⟩=some (.pointer (some ⟨bm,0,none⟩))/\w'.cell? ⟨b2,0,none⟩=some (.slice Af nf cf)/\w'.cell? ⟨g0,p,none⟩=some (.slice (some ⟨gp,0,none⟩) m cp)) (go_keep) (first
  | (go_at_call 169;refine(j4.out (W.drewN (q+1)) ((Upd.refl _ W).drewN _)).mono ?_;rintro e w2 ⟨i,f,rfl,i7,f6⟩;have b6:=zqH i7;have j7:=zqH f6;obtain⟨l0,l1,l2,l3⟩:=j6.out _ (((Upd.refl _ W).drewN _).trans f6);clear f6 i7))
 go_wp2
 clear k0 k1 k2 k3 d6 d1 d2 d0 l0 l1 l2 l3;have f3:Hid (New W w2):=zqH (((Upd.refl _ W).drewN _).trans j7.out);have g4:=found_place HK.out.map.map.good g3.out b6.out;obtain⟨a9,i3⟩:=HK.out.map.drop_is g4;obtain⟨o,ho⟩:=zE (((ceAll css ps).take p).flatten.length+i);rw[<-ho]at a9 i3;have g5:i<=ps[p].length:=b6.out.2.1;obtain⟨xp,i4,i5⟩:∃xp:List CE,(ceAll css ps)[p]?=some xp/\xp.length=ps[p].length:=by
  obtain⟨_,_,_,xs,_,_,_,_,h1,_⟩:=HK.out.map.at hp;exact⟨xs,h1,HK.out.map.page_len hp h1⟩
 have b0:(conK (ceAll css ps) p i).length=o:=by
  unfold conK;rw[i4,List.length_append,Option.getD_some,List.length_take,ho];omega
 have b7:∀a,n<=a->conK (ceAll css ps) a 0=(ceAll css ps).flatten:=fun a ha=>by
  unfold conK;rw[List.take_zero,List.append_nil,List.take_of_length_le (by rw[HK.out.map.all_len];have:=d7.out;omega)]
 have g6:=zqH a9;have g7:=zqH b0;have j8:=zqH b7;have g8:i<=32:=zT g5 (few_len HK.out.map.map hp);clear a9 i3 b0 b7 g4 ho g5 i4 i5
 go_loopw [4,5] (fun p i wr=>∃a j:Nat,a<=n/\j<=32/\p=.int .i64 (a:Int)/\i=.int .i64 (j:Int)/\Hid ((a<n\/j=0)/\o<=(conK (ceAll css ps) a j).length/\(∀xs,(ceAll css ps)[a]?=some xs->j<=xs.length)/\J ((conK (ceAll css ps) a j).drop o) wr/\RisK base bm n c b1 b2 nf cf D (some ⟨g0,0,none⟩) Af vs ps css fk wr/\W.heap.size<=wr.heap.size)) (fun p i _=>n-(intOf p).toNat)
 case atStart=>
  refine⟨p,i,by omega,g8,rfl,rfl,zqH ⟨.inl j5,by rw[g7.out];exact zR _,fun xs hx=>?_,?_,HK.out.new f3.out,f3.out.size⟩⟩
  · rw[HK.out.map.page_len hp hx];exact b6.out.2.1
  · rw[List.drop_of_length_le (by rw[g7.out];exact zR _)];exact HJ.out _ _ _ H0.out f3.out
 case round=>
  obtain⟨a,j0,ha,m9,rfl,rfl,hI⟩:=hrel;have d6:=hI.out.2.2.2.2.1.map.map.toMapRaw.cell0;have d1:=hI.out.2.2.2.2.1.box1;by_cases han:a<n
  · have d8:a<ps.length:=(by have:=d7.out;omega);obtain⟨xs,d5,m0⟩:∃xs:List CE,(ceAll css ps)[a]?=some xs/\xs.length<=32:=by
     obtain⟨_,_,_,xs,_,_,_,_,h1,h2,_⟩:=hI.out.2.2.2.2.1.map.at d8;exact⟨xs,h1,h2⟩
    have g9:∀W',RisK base bm n c b1 b2 nf cf D (some ⟨g0,0,none⟩) Af vs ps css fk W'->W'.cell? ⟨bm,0,none⟩=some (.slice (some ⟨g0,0,none⟩) n c)/\W'.cell? ⟨b1,0,none⟩=some (.pointer (some ⟨bm,0,none⟩))/\∃gp cp,W'.cell? ⟨g0,a,none⟩=some (.slice (some ⟨gp,0,none⟩) xs.length cp)/\∀(j:Nat) (x:CE),xs[j]?=some x->W'.cell? ⟨gp,j*2,none⟩=some x.1/\W'.cell? ⟨gp,j*2+1,none⟩=some x.2.1:=fun W' hR=>by
     obtain⟨g,gp,cp,q4,e,h1,h2,h3,h4,_,h5⟩:=hR.map.at d8;cases e;rw[d5]at h4;cases h4;exact⟨hR.map.map.toMapRaw.cell0,hR.box1,gp,cp,h1,h5⟩
    have e8:∀j,conK (ceAll css ps) a j=((ceAll css ps).take a).flatten ++ xs.take j:=fun j=>(by unfold conK;rw[d5];rfl);have h6:=hI.out.2.2.1 xs d5;have h7:=zqH g9;have h8:=zqH d5;have p5:=zqH d8;have a6:=zqH e8;clear g9 d5 d8 e8;obtain⟨N,hN⟩:=zE xs.length;have HN:=zqH hN;rw[<-hN]at m0 h7 h6;clear hN;go_wp2;clear d6 d1
    go_loopw [5] (fun i wr=>∃j:Nat,j<=N/\i=.int .i64 (j:Int)/\Hid (o<=(conK (ceAll css ps) a j).length/\J ((conK (ceAll css ps) a j).drop o) wr/\RisK base bm n c b1 b2 nf cf D (some ⟨g0,0,none⟩) Af vs ps css fk wr/\W.heap.size<=wr.heap.size)) (fun i _=>N-(intOf i).toNat)
    case atStart=>exact⟨j0,h6,rfl,zqH ⟨hI.out.2.1,hI.out.2.2.2⟩⟩
    case round=>
     clear hI;obtain⟨j,hj,rfl,hI⟩:=hrel;obtain⟨c0,c1,q6,q7,c2,i6⟩:=h7.out _ hI.out.2.2.1;by_cases hjN:j<N
     · obtain⟨x,hx⟩:∃x,xs[j]?=some x:=⟨_,zG (by have:=HN.out;omega)⟩
       obtain⟨c3,c4⟩:=i6 j x hx;have b8:(conK (ceAll css ps) a (j+1)).drop o=(conK (ceAll css ps) a j).drop o ++ [x]:=by
        rw[a6.out,a6.out,List.take_add_one,hx,<-List.append_assoc,List.drop_append_of_le_length (by rw[<-a6.out];exact hI.out.1)];rfl
       have a1:∃post,fromK fk (ceAll css ps).flatten=(conK (ceAll css ps) a j).drop o ++ x :: post:=by
        obtain⟨post,a1⟩:=flat_split h8.out hx;refine⟨post,?_⟩;unfold fromK;rw[<-g6.out,a1,List.append_assoc,<-List.append_assoc,a6.out,List.drop_append_of_le_length (by rw[<-a6.out];exact hI.out.1)]
       obtain⟨post,a1⟩:=a1;obtain⟨fn,o3,assign,body,hy,hR⟩:=j3.out _ x wr wr _ ⟨post,a1⟩ hI.out.2.2.2 hI.out.2.1 (Upd.refl _ _) rfl hI.out.2.2.1;unfold encE at hy;have HR:=zqH hR;have HX:=zqH hx;have k4:=zqH a1;have k5:=zqH b8;have k6:o<=(conK (ceAll css ps) a (j+1)).length:=zT hI.out.1 (by rw[a6.out,a6.out,List.length_append,List.length_append,List.length_take,List.length_take];omega);clear i6 hR hx a1 b8
       go_upto_region 7 with fail
       refine(wpIn_wide (n:=0)).1 ?_
       gi_wp2
       refine⟨rfl,HR.out.mono ?_⟩;rintro e W3 ⟨d9,f7,(⟨rfl,i9⟩|⟨rfl,f0⟩)⟩
       · have f4:=zqH i9;have k7:=zqH f7;have f5:=zqH (zT hI.out.2.2.2 d9.1);clear i9 f7 HR hy d9
         gi_wp2
         go_wp2
         refine⟨⟨j+1,by omega,by congr 1,zqH ⟨k6,?_,k7.out,f5.out⟩⟩,by simp[intOf];omega⟩;rw[k5.out];exact f4.out
       · have f4:=zqH f0;have f5:=zqH (zT hI.out.2.2.2 d9.1);clear f0 HR hy d9 f7
         gi_wp2
         go_wp2
         refine bodyPost_ret (results_none rfl _ _ _) rfl ?_
         exact⟨⟨_,rfl⟩,e6.out _ f5.out (.inr ⟨_,x,post,k4.out,f4.out⟩)⟩
     · obtain rfl:j=N:=(by omega);have p6:n<=1000000:=(by have:=d7.out;have:=HL.out;omega);have b9:conK (ceAll css ps) (a+1) 0=conK (ceAll css ps) a j:=by
        rw[a6.out,List.take_of_length_le (l:=xs) (by have:=HN.out;omega)];unfold conK;rw[flat_take h8.out,List.take_zero,List.append_nil]
       have h9:=zqH b9;clear b9;go_wp2;refine⟨⟨a+1,0,by omega,by omega,by congr 1,rfl,zqH ⟨.inr rfl,by rw[h9.out];exact hI.out.1,fun _ _=>Nat.zero_le _,by rw[h9.out];exact hI.out.2.1,hI.out.2.2⟩⟩,by simp[intOf];omega⟩
  · obtain rfl:a=n:=(by omega);obtain rfl:j0=0:=hI.out.1.elim (fun h=>absurd h han) id;go_wp2
    go_end0
    have i0:J (fromK fk (ceAll css ps).flatten) wr:=by
     have:=hI.out.2.2.2.1;rw[j8.out _ (zR _),g6.out]at this;exact this
    obtain⟨Z,h1,h2,h3⟩:=e6.out _ hI.out.2.2.2.2.2 (.inl ⟨i0,hI.out.2.2.2.2.1⟩);exact⟨⟨_,rfl⟩,Z,h1,h2,h3.elim .inl (fun⟨pre,x,post,e,hx⟩=>.inr ⟨pre,x.1,x.2.1,x.2.2.1,x.2.2.2,⟨post,e⟩,hx⟩)⟩
end Gz

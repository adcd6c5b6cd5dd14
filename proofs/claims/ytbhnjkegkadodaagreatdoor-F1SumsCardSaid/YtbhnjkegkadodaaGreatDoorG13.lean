/- Part of the proof. -/
import Derived.Test.YtbhnjkegkadodaaGreatDoorG12
import Derived.BigQuiet
import Derived.Lib.SliceRun
set_option linter.all false
set_option maxRecDepth 100000
set_option maxHeartbeats 8000000
namespace Gz
open Go Go.RowKit Go.Proofs Gl
theorem info5:(Tryz.prog.info? 5).map (fun i=>(i.zero,i.size,i.bytes))=some (some (.int .u8 0),1,1):=by kernel_rfl
theorem info182:(Tryz.prog.info? 182).map (fun i=>(i.zero,i.size,i.bytes))=some (some (.agg #[.slice none 0 0,.slice none 0 0]),2,48):=by kernel_rfl
theorem info251:(Tryz.prog.info? 251).map (fun i=>(i.zero,i.size,i.bytes))=some (some (.slice none 0 0),1,24):=by kernel_rfl
theorem zav (l:List Nat):∀u ∈ l.map u8,u.oneCell'=true:=fun u hu=>by
 obtain⟨x,_,rfl⟩:=List.mem_map.1 hu;rfl
theorem info_parts {P:Program} {t:TypeId} {z:Value} {s b:Nat} (h:(P.info? t).map (fun i=>(i.zero,i.size,i.bytes))=some (some z,s,b)):∃i,P.info? t=some i/\i.zero=some z/\i.size=s/\i.bytes=b:=by
 cases hq:P.info? t with
 | none=>rw[hq]at h;cases h
 | some i=>
   rw[hq]at h;simp only[Option.map_some,Option.some.injEq,Prod.mk.injEq]at h;exact⟨i,rfl,h.1,h.2.1,h.2.2⟩
theorem owned_c {w:World} {A:Option Addr} {n c:Nat} {bs:Bs} (h:By w A n c bs) (hn:n<=1073741824):
 Calls Tryz.prog 107 #[.slice A n c] w fun e w'=>∃A' c',e=.returned (.slice A' n c')/\BV (fun b=>w.heap.size<=b) w' (.slice A' n c') bs/\New w w':=by
 obtain⟨i0,a2,a3,a4,a5⟩:=info_parts info5;have hs:Src w A n (bs.map u8):=Src.of_sl h.sl;have a1:=h.len;have HN:=zqH hn;have H:=zqH h;clear hn h;go_enter Tryz.func107,Tryz.ntmps107
 go_wp2_with (at_builtin
              refine wpList_append_src _ rfl _ _ _ rfl w.heap.size 5 i0 _ 1 1 Tryz.underlying113 a2 a3 a4 a5 rfl (by omega) (.slice none 0 0) 0 [] rfl (World.ownsRow_nil _ _ _ _) _ _ _ (bs.map u8) rfl (by simp[a1]) hs (zav _) (by have:=HN.out;simp only[maxLen];omega) (by have:=HN.out;omega) (zR _) ?_
              intro A' c' w1 hown1 hg1 hat1)
 go_ret
 simp only[Nat.zero_add,List.nil_append]at hown1 hat1;refine⟨A',c',by simp,⟨A',n,c',rfl,By.of_own hown1 H.out.small,fun a ha _=>?_⟩,Upd.of_grown hg1 (fun c hc=>by cases hc)⟩;subst ha;rcases hat1 with e|e<;>simp[Value.ownBlock]at e
 omega
theorem compare_c {w:World} {A A':Option Addr} {n c n' c':Nat} {xs ys:Bs} (ha:By w A n c xs) (hb:By w A' n' c' ys):
 Calls Tryz.prog 110 #[.slice A n c,.slice A' n' c'] w fun e w'=>e=.returned (.int .i64 (cmpN xs ys))/\w'=w:=by
 have hx:(callFunc 170 #[.slice A n c,.slice A' n' c']).run Tryz.prog w=.ok (.value (.int .i64 (cmpN xs ys))) w:=by
  rw[run_callFunc_extern (e:=Extern.BytealgCompare.compare) Tryz.func170 (by kernel_rfl) (by kernel_rfl) (by kernel_rfl) (by kernel_rfl),cmp_by ha hb];rfl
 clear ha hb;obtain⟨r,hr⟩:=zE (cmpN xs ys);rw[<-hr]at hx ⊢;clear hr;go_enter Tryz.func110,Tryz.ntmps110
 go_wp2_with (simp only[hx])
 go_ret
 exact⟨rfl,rfl⟩
theorem clone_c {w:World} {g o m c:Nat} {cs:List Value} (hs:Sl 2 w (some ⟨g,o,none⟩) m c cs) (h1:∀u ∈ cs,u.oneCell'=true) (hm:0<m) (hn:m<=1048576):
 Calls Tryz.prog 198 #[.slice (some ⟨g,o,none⟩) m c] w fun e w'=>∃g' c',e=.returned (.slice (some ⟨g',0,none⟩) m c')/\w.heap.size<=g'/\w'.ownsRow w.heap.size 182 2 (.slice (some ⟨g',0,none⟩) m c') m cs/\New w w':=by
 obtain⟨i0,a5,a6,a7,a8⟩:=info_parts info182;have hu:New w (w.alloc (.cells #[] 182)):=zU _ _ _;have a1:Src (w.alloc (.cells #[] 182)) (some ⟨g,o,none⟩) m cs:=Src.of_sl (hs.new hu);have a2:(w.alloc (.cells #[] 182)).ownsRow w.heap.size 182 2 (.slice (some ⟨w.heap.size,0,none⟩) 0 0) 0 []:=World.ownsRow_made w #[] 0 (zR _) (by simp[maxLen]) (by simp);have a3:=hs.len;have b0:=Lib.run_eql_slice_nil (P:=Tryz.prog) w 251 182 (some ⟨g,o,none⟩) m c 0 0 Tryz.underlying251;have HN:=zqH hn;have HS:=zqH a1;have HO:=zqH a2;have HL:=zqH a3;have HM:=zqH hm;have HU:=zqH hu;clear hs hn a1 a2 a3 hm hu;go_enter Tryz.func198,Tryz.ntmps198
 go_wp2_with (at_builtin
              refine wpList_append_src _ rfl _ _ _ rfl w.heap.size 182 i0 _ 2 48 Tryz.underlying251 a5 a6 a7 a8 rfl (by omega) (.slice (some ⟨w.heap.size,0,none⟩) 0 0) 0 [] rfl HO.out _ _ _ cs rfl HL.out HS.out h1 (by have:=HN.out;simp only[maxLen];omega) (by have:=HN.out;omega) (by show _<=(w.heap.push _).size;simp) ?_
              intro A' c' w1 hown1 hg1 hat1)
 go_ret
 simp only[Nat.zero_add,List.nil_append]at hown1 hat1;have hM:=HM.out;obtain⟨g',cap,cur,e,h2,_⟩:∃g cap cur,Value.slice A' m c'=.slice (some ⟨g,0,none⟩) m cap/\w.heap.size<=g/\w1.heap[g]?=some (.cells cur 182 (0,0)):=by
  rcases hown1.2 with⟨_,h0⟩|⟨g,cap,cur,e,h2,h3,_⟩
  · omega
  · exact⟨g,cap,cur,e,h2,h3⟩
 injection e with e1 e2 e3
 subst e1 e3;refine⟨g',c',by simp,h2,hown1,HU.out.then (Upd.of_grown (S:=fun b=>b=w.heap.size) hg1 (fun c hc=>by simpa[Value.ownBlock] using hc.symm)) (fun c hc e=>by omega)⟩
theorem place1_c {w:World} {kA A:Option Addr} {kn kc n c:Nat} {xs ys:Bs} {vA:Option Addr} {vn vc:Nat} (ha:By w kA kn kc xs) (hb:By w A n c ys):
 Calls Tryz.prog 229 #[.agg #[.slice kA kn kc,.slice vA vn vc],.slice A n c] w fun e w'=>e=.returned (.int .i64 (cmpN xs ys))/\New w w':=by
 have hu:New w (w.alloc (.cells #[.slice kA kn kc,.slice vA vn vc] 182)):=zU _ _ _;have a1:=compare_c (ha.new hu) (hb.new hu);obtain⟨r,hr⟩:=zE (cmpN xs ys);rw[<-hr]at a1 ⊢;have HU:=zqH hu;have H:=zqH a1;clear hr ha hb hu a1;go_enter Tryz.func229,Tryz.ntmps229
 go_wp2_with (go_at_call 110;refine H.out.mono ?_;rintro e w' ⟨rfl,rfl⟩;clear H)
 go_ret
 exact⟨rfl,HU.out⟩
def Searched (l:List Ent) (ys:Bs) (w:World) (e:Ending) (w':World):Prop:=∃(i:Nat) (f:Bool),e=.returned (.tuple #[.int .i64 (i:Int),.bool f])/\KeyPlace l ys i f/\New w w'
theorem search_c {base g cp n c m:Nat} {w:World} {l:List Ent} {cs:List Value} {D:Nat->Prop} {A:Option Addr} {ys:Bs} (h:w.ownsRow base 182 2 (.slice (some ⟨g,0,none⟩) m cp) m cs) (he:EntsAt D w cs l) (hb:By w A n c ys) (hs:Sorted l) (hm:m=l.length) (hm1:m<=1048576):
 Calls Tryz.prog 228 #[.slice (some ⟨g,0,none⟩) m cp,.slice A n c,.func (.func 229) #[] #[]] w (Searched l ys w):=by
 have a5:∀q,∀hq:q<l.length,∃kA kn kc vA vn vc,w.cell? ⟨g,q*2,none⟩=some (.slice kA kn kc)/\w.cell? ⟨g,q*2+1,none⟩=some (.slice vA vn vc)/\By w kA kn kc (key l q):=fun q hq=>by
  obtain⟨k,v,h1,h2,⟨kA,kn,kc,rfl,h3,_⟩,⟨vA,vn,vc,rfl,h4,_⟩⟩:=page_cells h he (zG hq);exact⟨kA,kn,kc,vA,vn,vc,h1,h2,by rw[key_get hq];exact h3⟩
 have b5:0<m->g<w.heap.size:=fun h0=>by
  obtain⟨b,off,e,hr⟩:=(Sl.of_own h).row h0;cases e;exact hr.1
 have b6:m<=cp/\cp<=maxLen:=⟨(Sl.of_own h).le,(Sl.of_own h).max⟩
 have HC:=zqH a5;have HG:=zqH b5;have HS:=zqH hs;have HB:=zqH hb;have HM:=zqH hm;have HX:=zqH b6;clear h he hb hs a5 b5 hm b6;go_enter Tryz.func228,Tryz.ntmps228;go_wp2
 go_loopw [9,10] (fun i j wr=>∃a b:Nat,a<=b/\b<=m/\i=.int .i64 (a:Int)/\j=.int .i64 (b:Int)/\Hid ((∀q,q<a->blt (key l q) ys=true)/\(∀q,b<=q->q<l.length->blt (key l q) ys=false)/\New w wr)) (fun i j _=>(intOf j-intOf i).toNat)
 case atStart=>exact⟨0,m,Nat.zero_le _,zR _,rfl,rfl,zqH ⟨fun q hq=>by omega,fun q hq hq2=>by have:=HM.out;omega,Upd.refl _ _⟩⟩
 case round=>
  obtain⟨a,b,e4,d9,rfl,rfl,hI⟩:=hrel;by_cases hlt:a<b
  · have a3:(a+b) / 2<l.length:=(by have:=HM.out;omega);obtain⟨kA,kn,kc,vA,vn,vc,h1,h2,h3⟩:=HC.out ((a+b) / 2) a3;have hU:=hI.out.2.2;have hg:=HG.out (by omega);have c1:wr.cell? ⟨g,(a+b) / 2*2,none⟩=some (.slice kA kn kc):=(hU.cell (a:=⟨g,(a+b) / 2*2,none⟩) hg id).trans h1;have c2:wr.cell? ⟨g,(a+b) / 2*2+1,none⟩=some (.slice vA vn vc):=(hU.cell (a:=⟨g,(a+b) / 2*2+1,none⟩) hg id).trans h2;have a1:=place1_c (vA:=vA) (vn:=vn) (vc:=vc) (h3.new hU) (HB.out.new hU);obtain⟨r,hr⟩:=zE (cmpN (key l ((a+b) / 2)) ys);rw[<-hr]at a1;have a2:=zqH a1;have a8:=zqH a3;have a9:=zqH hr;clear h1 h2 h3 hU hg a1 a3 hr;by_cases hrn:r<0
    · go_wp2_with (go_at_call 229;refine a2.out.mono ?_;rintro e w2 ⟨rfl,a7⟩;clear a2)
      refine⟨⟨(a+b) / 2+1,b,by omega,d9,by congr 1,rfl,zqH ⟨fun q hq=>?_,hI.out.2.1,hI.out.2.2.trans a7⟩⟩,by simp[intOf];omega⟩;have b7:blt (key l ((a+b) / 2)) ys=true:=cmpN_lt.1 (by have:=cmpN_three (key l ((a+b) / 2)) ys;have:=a9.out;omega);by_cases e:q=(a+b) / 2
      · rw[e];exact b7
      · exact zbi (key_rise HS.out (by omega) a8.out) b7
    · go_wp2_with (go_at_call 229;refine a2.out.mono ?_;rintro e w2 ⟨rfl,a7⟩;clear a2)
      refine⟨⟨a,(a+b) / 2,by omega,by omega,rfl,by congr 1,zqH ⟨hI.out.1,fun q hq hq2=>?_,hI.out.2.2.trans a7⟩⟩,by simp[intOf];omega⟩;have d0:blt (key l ((a+b) / 2)) ys=false:=by
       cases hb:blt (key l ((a+b) / 2)) ys with
       | false=>rfl
       | true=>have:=cmpN_lt.2 hb;have:=a9.out;omega
      by_cases e:q=(a+b) / 2
      · rw[e];exact d0
      · cases hb:blt (key l q) ys with
        | false=>rfl
        | true=>rw[zbi (key_rise HS.out (by omega) hq2) hb]at d0;cases d0
  · obtain rfl:a=b:=(by omega);by_cases ham:a<m
    · have a3:a<l.length:=(by have:=HM.out;omega);obtain⟨kA,kn,kc,vA,vn,vc,h1,h2,h3⟩:=HC.out a a3;have hU:=hI.out.2.2;have hg:=HG.out (by omega);have c1:wr.cell? ⟨g,a*2,none⟩=some (.slice kA kn kc):=(hU.cell (a:=⟨g,a*2,none⟩) hg id).trans h1;have c2:wr.cell? ⟨g,a*2+1,none⟩=some (.slice vA vn vc):=(hU.cell (a:=⟨g,a*2+1,none⟩) hg id).trans h2;have a1:=place1_c (vA:=vA) (vn:=vn) (vc:=vc) (h3.new hU) (HB.out.new hU);obtain⟨r,hr⟩:=zE (cmpN (key l a) ys);rw[<-hr]at a1;have a2:=zqH a1;have a8:=zqH a3;have a9:=zqH hr;clear h1 h2 h3 hU hg a1 a3 hr
      go_wp2_with (go_at_call 229;refine a2.out.mono ?_;rintro e w2 ⟨rfl,a7⟩;clear a2)
      go_ret2
      refine⟨a,r == 0,by simp[Act.eval],⟨?_,Nat.le_of_lt a8.out,hI.out.1,hI.out.2.1⟩,hI.out.2.2.trans a7⟩;rw[beq_iff_eq,a9.out,cmpN_eq];exact⟨fun e=>⟨a8.out,e⟩,fun e=>e.2⟩
    · obtain rfl:a=m:=(by omega);go_wp2
      go_ret2
      refine⟨a,false,by simp[Act.eval],⟨?_,by have:=HM.out;omega,hI.out.1,hI.out.2.1⟩,hI.out.2.2⟩;have:=HM.out;exact⟨fun e=>(by cases e),fun e=>(by omega)⟩
theorem place_c {base g cp n c m:Nat} {w:World} {l:List Ent} {cs:List Value} {D:Nat->Prop} {A:Option Addr} {ys:Bs} (h:w.ownsRow base 182 2 (.slice (some ⟨g,0,none⟩) m cp) m cs) (he:EntsAt D w cs l) (hb:By w A n c ys) (hs:Sorted l) (hm:m=l.length) (hm1:m<=1048576):
 Calls Tryz.prog 169 #[.slice (some ⟨g,0,none⟩) m cp,.slice A n c] w (Searched l ys w):=by
 have H:=zqH (search_c h he hb hs hm hm1);clear h he hb hs hm hm1;go_enter Tryz.func169,Tryz.ntmps169
 go_wp2_with (go_at_call 228;refine H.out.mono ?_;rintro e w2 ⟨i,f,rfl,hp,a1⟩;have HP:=zqH hp;clear hp H)
 go_ret2
 exact⟨i,f,by simp[Act.eval],HP.out,a1⟩
theorem page_c {base bm n c na ca:Nat} {w:World} {D:Nat->Prop} {A Ak:Option Addr} {vs:List Value} {ps:List (List Ent)} {k:Bs} (h:MapIn 182 251 base w bm D A n c vs ps) (hk:By w Ak na ca k) (hps:0<ps.length) (hlen:ps.length<=1048576):
 Calls Tryz.prog 168 #[.pointer (some ⟨bm,0,none⟩),.slice Ak na ca] w fun e w'=>∃p:Nat,e=.returned (.int .i64 (p:Int))/\PageOf ps k p/\∃q,w'=w.drewN q:=by
 have hn:=h.n_eq;obtain⟨g0,rfl⟩:∃g0,A=some ⟨g0,0,none⟩:=(by obtain⟨g0,gp0,cp0,cs0,hA0,_⟩:=h.at hps;exact⟨g0,hA0⟩)
 have a3:n<=c/\c<=maxLen:=⟨(Sl.of_own h.row).le,(Sl.of_own h.row).max⟩
 have c6:=h.cell0;have hg:=h.good;have a2:∀q,∀hq:q<ps.length,∃gp m cp kA kn kc,w.cell? ⟨g0,q,none⟩=some (.slice (some ⟨gp,0,none⟩) m cp)/\0<m/\w.cell? ⟨gp,0,none⟩=some (.slice kA kn kc)/\By w kA kn kc (head1 ps[q]):=fun q hq=>by
  obtain⟨g,gp,cp,cs,e1,_,e2,e3,e4,e5⟩:=h.at hq;cases e1;obtain⟨k,v,h1,h2,⟨kA,kn,kc,rfl,h3,_⟩,_⟩:=page_cells e3 e4 (zG e5);exact⟨gp,_,cp,kA,kn,kc,e2,e5,by simpa using h1,by rw[head1_get hg hq];exact h3⟩
 have HC:=zqH a2;have HK:=zqH hk;have HN:=zqH hn;have HL:=zqH hlen;have HX:=zqH a3;have HG:=zqH hg;have HP:=zqH hps;have f3:n<=1048576:=by omega
 clear a2 hk hn hlen a3 hg h hps;go_enter Tryz.func168,Tryz.ntmps168;go_wp2;refine wp_scope_straight ?_
 go_wp2
 go_region
 all_goals go_wp2
 refine wp_label ?_
 go_wp2
 go_loopw [5,6] (fun i j wr=>∃a b:Nat,a<=b/\b<=n/\i=.int .i64 (a:Int)/\j=.int .i64 (b:Int)/\Hid ((∀q,q<a->∃hq:q<ps.length,blt k (head1 ps[q])=false)/\(∀q,b<=q->∀hq:q<ps.length,blt k (head1 ps[q])=true)/\∃z,wr=w.drewN z)) (fun i j _=>(intOf j-intOf i).toNat)
 case atStart=>exact⟨0,n,Nat.zero_le _,zR _,rfl,rfl,zqH ⟨fun q hq=>by omega,fun q hq hq2=>by have:=HN.out;omega,_,rfl⟩⟩
 case round=>
  obtain⟨a,b,f9,d7,rfl,rfl,hI⟩:=hrel;by_cases hlt:a<b
  · have hpm:(a+b) / 2<ps.length:=(by have:=HN.out;omega);obtain⟨gp,m,cp,kA,kn,kc,h1,h2,h3,h4⟩:=HC.out ((a+b) / 2) hpm;obtain⟨h5,h6,z,rfl⟩:=hI.out;have c0:(w.drewN z).cell? ⟨bm,0,none⟩=some (.slice (some ⟨g0,0,none⟩) n c):=c6;have c1:(w.drewN z).cell? ⟨g0,(a+b) / 2,none⟩=some (.slice (some ⟨gp,0,none⟩) m cp):=h1;have c2:(w.drewN z).cell? ⟨gp,0,none⟩=some (.slice kA kn kc):=h3;have a4:=compare_c (w:=w.drewN z) ⟨h4.sl.drewN z,h4.small⟩ ⟨HK.out.sl.drewN z,HK.out.small⟩;obtain⟨r,hr⟩:=zE (cmpN (head1 (ps[(a+b) / 2]'hpm)) k);rw[<-hr]at a4;have b5:=cmpN_three (head1 (ps[(a+b) / 2]'hpm)) k;rw[<-hr]at b5;have a1:=zqH a4;have a5:=zqH hr;clear h1 h3 h4 a4 hr;rcases b5 with rfl|rfl|rfl
    · go_wp2_with (go_at_call 110;refine a1.out.mono ?_;rintro e w2 ⟨rfl,rfl⟩;clear a1)
      have hb:=cmpN_lt.1 a5.out.symm;refine⟨⟨(a+b) / 2+1,b,by omega,d7,by congr 1,rfl,zqH ⟨low_heads HG.out hpm (zbn hb),h6,z,rfl⟩⟩,by simp[intOf];omega⟩
    · go_wp2_with (go_at_call 110;refine a1.out.mono ?_;rintro e w2 ⟨rfl,rfl⟩;clear a1)
      dsimp only[Exit.noGoto]
      go_ret
      have hb:=cmpN_eq.1 a5.out.symm;refine⟨(a+b) / 2,by simp[Act.eval],?_,z,rfl⟩;exact pageOf_mk (a:=(a+b) / 2+1) HP.out (by omega) (low_heads HG.out hpm (by rw[hb];exact zax _)) (high_heads HG.out hpm (by rw[hb];exact zax _))
    · go_wp2_with (go_at_call 110;refine a1.out.mono ?_;rintro e w2 ⟨rfl,rfl⟩;clear a1)
      have hb:=cmpN_gt.1 a5.out.symm;refine⟨⟨a,(a+b) / 2,by omega,by omega,rfl,by congr 1,zqH ⟨h5,high_heads' HG.out hpm hb,z,rfl⟩⟩,by simp[intOf];omega⟩
  · obtain rfl:a=b:=(by omega);obtain⟨h5,h6,z,rfl⟩:=hI.out;have d6:=pageOf_mk (a:=a) HP.out (by have:=HN.out;omega) h5 h6;go_wp2
    all_goals go_ret
    all_goals refine⟨a-1,?_,d6,z,rfl⟩
    all_goals
     simp[Act.eval];omega
theorem MapIn.drewN {tE tP base bm n c:Nat} {w:World} {D:Nat->Prop} {A:Option Addr} {vs:List Value} {ps:List (List Ent)} (h:MapIn tE tP base w bm D A n c vs ps) (q:Nat):MapIn tE tP base (w.drewN q) bm D A n c vs ps:=
 h.upd (T:=fun _=>False) ((Upd.refl _ w).drewN q) (fun _ _=>id)
theorem few_len {tE tP base bm n c:Nat} {w:World} {D:Nat->Prop} {A:Option Addr} {vs:List Value} {ps:List (List Ent)} (h:MapIn tE tP base w bm D A n c vs ps) {p:Nat} (hp:p<ps.length):ps[p].length<=32:=h.few _ (List.getElem_mem hp)
theorem find_c {base bm n c na ca:Nat} {w:World} {D:Nat->Prop} {A Ak:Option Addr} {vs:List Value} {ps:List (List Ent)} {k:Bs} (h:MapIn 182 251 base w bm D A n c vs ps) (hk:By w Ak na ca k) (hps:0<ps.length) (hlen:ps.length<=1048576):
 Calls Tryz.prog 196 #[.pointer (some ⟨bm,0,none⟩),.slice Ak na ca] w fun e w'=>∃(p i:Nat) (f:Bool),e=.returned (.tuple #[.int .i64 (p:Int),.int .i64 (i:Int),.bool f])/\Gl.Found ps k p i f/\New w w':=by
 have hn:=h.n_eq;obtain⟨g0,rfl⟩:∃g0,A=some ⟨g0,0,none⟩:=(by obtain⟨g0,gp0,cp0,cs0,hA0,_⟩:=h.at hps;exact⟨g0,hA0⟩)
 have b5:=h.cell0;have a5:=page_c h hk hps hlen;have a3:n<=c/\c<=maxLen:=⟨(Sl.of_own h.row).le,(Sl.of_own h.row).max⟩
 have a1:∀p q,∀hp:PageOf ps k p,∃gp m cp,(w.drewN q).cell? ⟨bm,0,none⟩=some (.slice (some ⟨g0,0,none⟩) n c)/\(w.drewN q).cell? ⟨g0,p,none⟩=some (.slice (some ⟨gp,0,none⟩) m cp)/\Calls Tryz.prog 169 #[.slice (some ⟨gp,0,none⟩) m cp,.slice Ak na ca] (w.drewN q) (Searched (ps[p]'hp.1) k (w.drewN q)):=fun p q hp=>by
  obtain⟨g,gp,cp,cs,e1,_,e2,e3,e4,e5⟩:=h.at hp.1;cases e1;refine⟨gp,_,cp,b5,e2,?_⟩;obtain⟨g',e7,e8,e9,b7,_,a9,b8,b9,f0⟩:=(MapIn.drewN h q).at hp.1;cases b7;have:(w.drewN q).cell? ⟨g0,p,none⟩=w.cell? ⟨g0,p,none⟩:=rfl;rw[this,e2]at a9;cases a9;exact place_c b8 b9 ⟨hk.sl.drewN q,hk.small⟩ (h.good.2.sublist (List.sublist_flatten_of_mem (List.getElem_mem hp.1))) rfl (zT (few_len h hp.1) (by omega))
 have HG:=zqH h.good;have HN:=zqH hn;have HL:=zqH hlen;have HX:=zqH a3;have a6:=zqH a5;have b6:=zqH a1;have d6:((n:Int) == 0)=false:=by simp;omega
 have d7:n<=1048576:=by omega
 clear hk hn hlen a3 h hps a5 a1;go_enter Tryz.func196,Tryz.ntmps196
 go_wp2_with (first
  | (go_at_call 168;refine a6.out.mono ?_;rintro e w1 ⟨p,rfl,hp,q,rfl⟩;obtain⟨gp,m,cp,c0,c1,b0⟩:=b6.out p q hp;have d8:p<n:=(by have:=hp.1;have:=HN.out;omega);have HP:=zqH hp;clear a6)
  | (go_at_call 169;refine b0.mono ?_;rintro e w2 ⟨i,f,rfl,a1,a2⟩;have HQ:=zqH a1;clear b0 a1))
 go_ret3
 refine⟨p,i,f,by simp[Act.eval],found_place HG.out HP.out HQ.out,?_⟩;exact Upd.of_drew (w:=w) (w':=w2) (⟨a2.os,a2.output,a2.tape,a2.size,a2.block⟩)
structure Wr (base bw:Nat) (w:World) (A:Option Addr) (n c:Nat) (bs:List Nat):Prop where
 blk:∃t,w.heap[bw]?=some (.cells #[.slice A n c,.int .i64 0] t (0,0))
 own:w.ownsRow base 5 1 (.slice A n c) n (bs.map u8)
 ne:∀a,A=some a->a.block≠bw
 small:Small bs
 hb:base<=bw
theorem Wr.len {base bw:Nat} {w:World} {A:Option Addr} {n c:Nat} {bs:List Nat} (h:Wr base bw w A n c bs):bs.length=n:=by have:=h.own.1;simpa using this
theorem Wr.lt {base bw:Nat} {w:World} {A:Option Addr} {n c:Nat} {bs:List Nat} (h:Wr base bw w A n c bs):bw<w.heap.size:=by
 obtain⟨t,h⟩:=h.blk;exact(zqA.1 h).1
theorem Wr.cell0 {base bw:Nat} {w:World} {A:Option Addr} {n c:Nat} {bs:List Nat} (h:Wr base bw w A n c bs):w.cell? ⟨bw,0,none⟩=some (.slice A n c):=by
 obtain⟨t,h⟩:=h.blk;simp[World.cell?,h]
theorem Wr.cell1 {base bw:Nat} {w:World} {A:Option Addr} {n c:Nat} {bs:List Nat} (h:Wr base bw w A n c bs):w.cell? ⟨bw,1,none⟩=some (.int .i64 0):=by
 obtain⟨t,h⟩:=h.blk;simp[World.cell?,h]
theorem Wr.frozen {base bw:Nat} {w:World} {A:Option Addr} {n c:Nat} {bs:List Nat} (h:Wr base bw w A n c bs) (i:Nat):w.frozen? ⟨bw,i,none⟩=false:=by
 obtain⟨t,h⟩:=h.blk;simp[World.frozen?,h]
theorem Wr.put {base bw:Nat} {w w2:World} {A1 A2:Option Addr} {n1 c1 n2 c2:Nat} {bs news:List Nat} (h:Wr base bw w A1 n1 c1 bs) (hb:∃t,w2.heap[bw]?=some (.cells #[.slice A1 n1 c1,.int .i64 0] t (0,0))) (hu:Upd (fun b=>(Value.slice A1 n1 c1).ownBlock=some b) w w2)
 (ho:w2.ownsRow base 5 1 (.slice A2 n2 c2) n2 ((bs ++ news).map u8)) (hs:Small news) (hat:(Value.slice A2 n2 c2).ownBlock=(Value.slice A1 n1 c1).ownBlock\/∃g,(Value.slice A2 n2 c2).ownBlock=some g/\w.heap.size<=g):
 Wr base bw (w2.setCell ⟨bw,0,none⟩ (.slice A2 n2 c2)) A2 n2 c2 (bs ++ news)/\Upd (fun b=>b=bw\/(Value.slice A1 n1 c1).ownBlock=some b) w (w2.setCell ⟨bw,0,none⟩ (.slice A2 n2 c2)):=by
 have a2:∀a,A2=some a->a.block≠bw:=fun a ha=>by
  subst ha;rcases hat with e|⟨g,e,hg⟩
  · cases A1 with
    | none=>simp[Value.ownBlock]at e
    | some a1=>
      simp only[Value.ownBlock,Option.some.injEq]at e;rw[e];exact h.ne a1 rfl
  · simp only[Value.ownBlock,Option.some.injEq]at e;have:=h.lt;omega
 refine⟨⟨?_,zae ho fun c hc _=>?_,a2,h.small.append hs,h.hb⟩,(hu.mono (fun c _ hc=>.inr hc)).trans (Upd.setCell w2 _ (.inl rfl))⟩
 · obtain⟨t,hb⟩:=hb;refine⟨t,?_⟩;simp[World.setCell,Array.getElem?_modify,hb]
 · have a3:c≠bw:=by
    cases A2 with
    | none=>simp[Value.ownBlock]at hc
    | some a=>simp only[Value.ownBlock,Option.some.injEq]at hc;rw[<-hc];exact a2 a rfl
   exact(Upd.setCell (S:=fun b=>b=bw) (a:=⟨bw,0,none⟩) w2 (.slice A2 n2 c2) rfl).block c (by assumption) a3
theorem wnumber {base bw:Nat} {w:World} {A:Option Addr} {n c:Nat} {bs:List Nat} (h:Wr base bw w A n c bs) (x k:Nat) (hx:x<18446744073709551616) (hk:k<=8) (hn:n+8<=1073741824) (hbase:base<=w.heap.size):
 Calls Tryz.prog 270 #[.pointer (some ⟨bw,0,none⟩),.int .u64 (x:Int),.int .i64 (k:Int)] w fun e w'=>e=.returned (.tuple #[])/\∃A' c',Wr base bw w' A' (n+k) c' (bs ++ be k x)/\Upd (fun b=>b=bw\/(Value.slice A n c).ownBlock=some b) w w' /\
  ((Value.slice A' (n+k) c').ownBlock=(Value.slice A n c).ownBlock\/∃g,(Value.slice A' (n+k) c').ownBlock=some g/\w.heap.size<=g):=by
 obtain⟨i0,d6,d7,d8,d9⟩:=info_parts info5;have f3:=h.cell0;have f4:=h.cell1;have H:=zqH h;have HX:=zqH hx;have HN:=zqH hn;have HB:=zqH hbase;clear hx hn hbase h;go_enter Tryz.func270,Tryz.ntmps270;go_wp2
 go_loopw [6] (fun i wr=>∃j:Nat,j<=k/\i=.int .i64 ((j:Int)-1)/\Hid (∃A' c',Wr base bw wr A' (n+(k-j)) c' (bs ++ (be k x).take (k-j))/\Upd (fun b=>b=bw\/(Value.slice A n c).ownBlock=some b) w wr /\
  ((Value.slice A' (n+(k-j)) c').ownBlock=(Value.slice A n c).ownBlock\/∃g,(Value.slice A' (n+(k-j)) c').ownBlock=some g/\w.heap.size<=g))) (fun i _=>(intOf i+1).toNat)
 case atStart=>exact⟨k,zR _,rfl,zqH (by rw[Nat.sub_self];exact⟨A,c,by simpa using H.out,Upd.refl _ _,.inl rfl⟩)⟩
 case round=>
  obtain⟨j,hj,rfl,hI⟩:=hrel;by_cases h0:0<j
  · obtain⟨A1,c1,hW,hU,hF⟩:=hI.out;have b9:=hW.cell0;have f6:=hW.cell1;have f7:=hW.frozen 0;have f8:(0:Int)<=(j:Int)-1:=(by omega);have c5:∀W,(Op.shift .shr .u64 (x:Int) .i64 (IntKind.i64.wrap (8*((j:Int)-1)))).run Tryz.prog W=.ok (.int .u64 ((x / 2 ^ (8*(j-1)):Nat):Int)) W:=fun W=>
     run_shr_nat x (8*(j-1)) _ (by rw[IntKind.wrap_i64];omega) (by omega) W
    obtain⟨y,hy⟩:=zE (x / 2 ^ (8*(j-1)));rw[<-hy]at c5;have HY:=zqH hy;clear hy;obtain⟨z,hz⟩:=zE (IntKind.u8.wrap (y:Int));have g0:IntKind.u8.wrap (y:Int)=z:=hz.symm;have HZ:=zqH hz;clear hz;have e7:=hW.len;have b0:∀W:World,W.heap=wr.heap.push (.cells #[.int .u8 z] 5)->W.ownsRow base 5 1 (.slice A1 (n+(k-j)) c1) (n+(k-j)) ((bs ++ (be k x).take (k-j)).map u8):=fun W hW'=>zar hW.own _ hW';have b5:∀W:World,W.heap=wr.heap.push (.cells #[.int .u8 z] 5)->Src W (some ⟨wr.heap.size,0,none⟩) 1 [.int .u8 z]:=fun W hW' _=>⟨_,_,rfl,fun i u hu=>by
     cases i with
     | zero=>simp at hu;subst hu;simp[World.cell?,hW']
     | succ i=>simp at hu⟩
    have c6:∀W:World,W.heap=wr.heap.push (.cells #[.int .u8 z] 5)->base<=W.heap.size:=fun W hW'=>(by rw[hW'];have:=HB.out;have:=hU.size;simp;omega);have a7:∀W w2:World,W.grownBy w2 (Value.slice A1 (n+(k-j)) c1).ownBlock->W.heap=wr.heap.push (.cells #[.int .u8 z] 5)->W.tape=wr.tape->W.os=wr.os->W.output=wr.output->w2.cell? ⟨bw,0,none⟩=some (.slice A1 (n+(k-j)) c1)/\w2.frozen? ⟨bw,0,none⟩=false /\
       Hid ((∃t,w2.heap[bw]?=some (.cells #[.slice A1 (n+(k-j)) c1,.int .i64 0] t (0,0)))/\Upd (fun b=>(Value.slice A1 (n+(k-j)) c1).ownBlock=some b) wr w2):=fun W w2 hg h1 h2 h3 h4=>by
     have hu:Upd (fun b=>(Value.slice A1 (n+(k-j)) c1).ownBlock=some b) wr w2:=by
      refine⟨hg.os.trans h3,hg.output.trans h4,hg.tape.trans h2,by have:=hg.size;rw[h1]at this;simp at this;omega,fun c hc hn=>?_⟩;rw[hg.block c (by rw[h1];simp;omega) (fun e=>hn e.symm),h1,Array.getElem?_push_lt hc];simp[hc]
     obtain⟨t,ht⟩:=hW.blk;have d0:¬(Value.slice A1 (n+(k-j)) c1).ownBlock=some bw:=by
      cases hA:A1 with
      | none=>simp[Value.ownBlock]
      | some a=>have:=hW.ne a hA;simp only[Value.ownBlock,Option.some.injEq];exact this
     have a5:=(hu.block bw hW.lt d0).trans ht;exact⟨by simp[World.cell?,a5],by simp[World.frozen?,a5],zqH ⟨⟨t,a5⟩,hu⟩⟩
    have e8:(wr.alloc (.cells #[.int .u8 z] 5)).cell? ⟨bw,0,none⟩=some (.slice A1 (n+(k-j)) c1):=by
     rw[(zU (fun _=>False) wr (.cells #[.int .u8 z] 5)).cell (a:=⟨bw,0,none⟩) hW.lt id];exact b9
    have HU:=zqH hU;have HF:=zqH hF;have HW:=zqH hW;clear hU hF hW;go_wp2
    go_region_law (refine step_append_src rfl (.tmp 24) (.tmp 30) 113 rfl base 5 i0 _ 1 1 Tryz.underlying113 d6 d7 d8 d9 rfl (by omega) (.slice A1 (n+(k-j)) c1) (n+(k-j)) ((bs ++ (be k x).take (k-j)).map u8) (by simp[Act.eval,Act.put]) (b0 _ rfl) (some ⟨wr.heap.size,0,none⟩) 1 1 [.int .u8 z] (by simp[Act.eval,Act.put]) rfl (b5 _ rfl) (by simp[Value.oneCell']) (by have:=HN.out;simp only[maxLen];omega) (by have:=HN.out;omega) (c6 _ rfl) ?_;intro A2 c2 w2 hown2 hg2 hat2;obtain⟨g7,g8,e3⟩:=a7 _ w2 hg2 rfl rfl rfl rfl)
    all_goals go_wp2
    all_goals refine⟨⟨j-1,by omega,by congr 1;omega,zqH ?_⟩,by simp[intOf];omega⟩
    all_goals
     obtain⟨a5,e4⟩:=e3.out;have d5:z=((x / 2 ^ (8*(j-1)) % 256:Nat):Int):=(by rw[HZ.out,wrap_u8_nat,HY.out]);have a1:n+(k-j)+1=n+(k-(j-1)):=(by omega);have a8:w2.ownsRow base 5 1 (.slice A2 (n+(k-(j-1))) c2) (n+(k-(j-1))) (((bs ++ (be k x).take (k-j)) ++ [x / 2 ^ (8*(j-1)) % 256]).map u8):=by
      rw[List.map_append,<-a1];have:([x / 2 ^ (8*(j-1)) % 256].map u8)=[.int .u8 z]:=(by rw[d5];rfl);rw[this];exact hown2
     rw[a1]at hat2;have b6:=HF.out;have a2:(Value.slice A2 (n+(k-(j-1))) c2).ownBlock=(Value.slice A1 (n+(k-j)) c1).ownBlock\/∃g,(Value.slice A2 (n+(k-(j-1))) c2).ownBlock=some g/\wr.heap.size<=g:=hat2.imp id (fun e=>⟨_,e,by first|exact zR _|(show wr.heap.size<=(wr.heap.push _).size;simp)⟩);obtain⟨p1,p2⟩:=HW.out.put a5 e4 a8 (fun b hb=>by simp at hb;omega) a2;rw[List.append_assoc,be_take h0 hj,<-a1]at p1;rw[<-a1]at p2;rw[<-a1];refine⟨A2,c2,p1,HU.out.then p2 (fun c hc hS=>?_),?_⟩
     · rcases hS with e|e
       · exact .inl e
       · rcases b6 with e1|⟨g,e1,hg⟩
         · exact .inr (e1▸e)
         · rw[e1]at e;cases e;omega
     · rw[<-a1]at a2;rcases a2 with e|⟨g,e,hg⟩
       · rw[e];exact b6
       · exact .inr ⟨g,e,zT HU.out.size hg⟩
  · go_wp2
    obtain rfl:j=0:=by omega
    go_end0
    obtain⟨A1,c1,hW,hU,hF⟩:=hI.out;rw[Nat.sub_zero,List.take_of_length_le (by rw[zah];omega)]at hW;exact⟨rfl,A1,c1,hW,hU,hF⟩
def Wrote (base bw:Nat) (w:World) (A:Option Addr) (n c:Nat) (bs:List Nat) (k:Nat) (news:List Nat) (e:Ending) (w':World):Prop:=
 e=.returned (.tuple #[])/\∃A' c',Wr base bw w' A' (n+k) c' (bs ++ news)/\Upd (fun b=>b=bw\/(Value.slice A n c).ownBlock=some b) w w' /\
   ((Value.slice A' (n+k) c').ownBlock=(Value.slice A n c).ownBlock\/∃g,(Value.slice A' (n+k) c').ownBlock=some g/\w.heap.size<=g)
theorem wU64 {base bw:Nat} {w:World} {A:Option Addr} {n c:Nat} {bs:List Nat} (h:Wr base bw w A n c bs) (x:Nat) (hx:x<18446744073709551616) (hn:n+8<=1073741824) (hbase:base<=w.heap.size):
 Calls Tryz.prog 243 #[.pointer (some ⟨bw,0,none⟩),.int .u64 (x:Int)] w (Wrote base bw w A n c bs 8 (be 8 x)):=by
 have H:=zqH (wnumber h x 8 hx (by omega) hn hbase);clear h hx hn hbase;go_enter Tryz.func243,Tryz.ntmps243
 go_wp2_with (go_at_call 270;refine H.out.mono ?_;rintro e w' ⟨rfl,hr⟩)
 go_end0
 exact⟨rfl,hr⟩
theorem wU8 {base bw:Nat} {w:World} {A:Option Addr} {n c:Nat} {bs:List Nat} (h:Wr base bw w A n c bs) (x:Nat) (hx:x<256) (hn:n+8<=1073741824) (hbase:base<=w.heap.size):
 Calls Tryz.prog 288 #[.pointer (some ⟨bw,0,none⟩),.int .u8 (x:Int)] w (Wrote base bw w A n c bs 1 (be 1 x)):=by
 have H:=zqH (wnumber h x 1 (by omega) (by omega) hn hbase);have hw:IntKind.u64.wrap (x:Int)=(x:Int):=by simp[IntKind.wrap,IntKind.bits,IntKind.signed];omega
 clear h hx hn hbase;go_enter Tryz.func288,Tryz.ntmps288
 go_wp2_with (go_at_call 270;refine H.out.mono ?_;rintro e w' ⟨rfl,hr⟩)
 go_end0
 exact⟨rfl,hr⟩
theorem wOut {base bw:Nat} {w:World} {A:Option Addr} {n c:Nat} {bs:List Nat} (h:Wr base bw w A n c bs) (hn:n<=1073741824):
 Calls Tryz.prog 203 #[.pointer (some ⟨bw,0,none⟩)] w fun e w'=>∃A' c',e=.returned (.tuple #[.slice A' n c',.int .i64 0])/\By w' A' n c' bs/\New w w'/\(∀a,A'=some a->w.heap.size<=a.block)/\w'.ownsRow w.heap.size 5 1 (.slice A' n c') n (bs.map u8):=by
 obtain⟨i0,a2,a3,a4,a5⟩:=info_parts info5;have a7:=h.cell0;have a8:=h.cell1;have hs:Src w A n (bs.map u8):=Src.of_sl (Sl.of_own h.own);have a1:=h.len;have HN:=zqH hn;clear hn;go_enter Tryz.func203,Tryz.ntmps203
 go_wp2_with (at_builtin
              refine wpList_append_src _ rfl _ _ _ rfl w.heap.size 5 i0 _ 1 1 Tryz.underlying113 a2 a3 a4 a5 rfl (by omega) (.slice none 0 0) 0 [] rfl (World.ownsRow_nil _ _ _ _) _ _ _ (bs.map u8) rfl (by simp[a1]) hs (zav _) (by have:=HN.out;simp only[maxLen];omega) (by have:=HN.out;omega) (zR _) ?_
              intro A' c' w1 hown1 hg1 hat1)
 go_ret2
 simp only[Nat.zero_add,List.nil_append]at hown1 hat1;refine⟨A',c',by simp,?_,Upd.of_grown hg1 (fun c hc=>by cases hc),fun a ha=>?_,hown1⟩
 · exact By.of_own hown1 h.small
 · subst ha;rcases hat1 with e|e<;>simp[Value.ownBlock]at e
   omega
theorem wall {base bw:Nat} {w:World} {A:Option Addr} {n c:Nat} {bs:List Nat} (h:Wr base bw w A n c bs) {A2:Option Addr} {m d:Nat} {xs:List Nat} (hx:By w A2 m d xs) (hn:n+m<=1073741824) (hbase:base<=w.heap.size):
 Calls Tryz.prog 289 #[.pointer (some ⟨bw,0,none⟩),.slice A2 m d] w (Wrote base bw w A n c bs m xs):=by
 obtain⟨i0,a9,b0,b5,b6⟩:=info_parts info5;have d0:=h.cell0;have d5:=h.cell1;have hs:Src w A2 m (xs.map u8):=Src.of_sl hx.sl;have a5:=hx.len;have a6:∀w2:World,w.grownBy w2 (Value.slice A n c).ownBlock->w2.cell? ⟨bw,0,none⟩=some (.slice A n c)/\w2.frozen? ⟨bw,0,none⟩=false /\
  Hid ((∃t,w2.heap[bw]?=some (.cells #[.slice A n c,.int .i64 0] t (0,0)))/\Upd (fun b=>(Value.slice A n c).ownBlock=some b) w w2):=fun w2 hg=>by
  have hu:Upd (fun b=>(Value.slice A n c).ownBlock=some b) w w2:=Upd.of_grown hg (fun c hc=>hc);obtain⟨t,ht⟩:=h.blk;have a8:¬(Value.slice A n c).ownBlock=some bw:=by
   cases hA:A with
   | none=>simp[Value.ownBlock]
   | some a=>have:=h.ne a hA;simp only[Value.ownBlock,Option.some.injEq];exact this
  have a4:=(hu.block bw h.lt a8).trans ht;exact⟨by simp[World.cell?,a4],by simp[World.frozen?,a4],zqH ⟨⟨t,a4⟩,hu⟩⟩
 have H:=zqH h;have HN:=zqH hn;have HB:=zqH hbase;have HS:=zqH hs;have HX:=zqH hx;have a7:=zqH a5;clear h hn hbase hs hx a5;go_enter Tryz.func289,Tryz.ntmps289
 go_wp2_with (at_builtin
              refine wpList_append_src _ rfl _ _ _ rfl base 5 i0 _ 1 1 Tryz.underlying113 a9 b0 b5 b6 rfl (by omega) (.slice A n c) n (bs.map u8) rfl H.out.own _ _ _ (xs.map u8) rfl (by simp[a7.out]) HS.out (zav _) (by have:=HN.out;simp only[maxLen];omega) (by have:=HN.out;omega) HB.out ?_
              intro A3 c3 w3 a1 hg3 a3;obtain⟨e2,e3,b7⟩:=a6 w3 hg3;have HQ:=zqH (zN a1 a3);clear a1 hg3 a3)
 go_end0
 obtain⟨a4,b8⟩:=b7.out;obtain⟨a1,a3⟩:=HQ.out;have a2:=a3.imp id (fun e=>(⟨_,e,zR _⟩:∃g,(Value.slice A3 (n+m) c3).ownBlock=some g/\w.heap.size<=g));obtain⟨p1,p2⟩:=H.out.put a4 b8 (by rw[List.map_append];exact a1) HX.out.small a2;exact⟨rfl,A3,c3,p1,p2,a2⟩
structure Rd (br:Nat) (w:World) (A:Option Addr) (n c:Nat) (bs:List Nat) (err:Nat):Prop where
 blk:∃t,w.heap[br]?=some (.cells #[.slice A n c,.int .i64 (err:Int)] t (0,0))
 by_:By w A n c bs
 ne:∀a,A=some a->a.block≠br
end Gz
namespace Gz
open Go Go.RowKit Go.Proofs Gl
section
variable {br:Nat} {w w':World} {A:Option Addr} {n c:Nat} {bs:List Nat} {err:Nat}
theorem Rd.lt (h:Rd br w A n c bs err):br<w.heap.size:=by
 obtain⟨t,h⟩:=h.blk;exact(zqA.1 h).1
theorem Rd.cell0 (h:Rd br w A n c bs err):w.cell? ⟨br,0,none⟩=some (.slice A n c):=by
 obtain⟨t,h⟩:=h.blk;simp[World.cell?,h]
theorem Rd.cell1 (h:Rd br w A n c bs err):w.cell? ⟨br,1,none⟩=some (.int .i64 (err:Int)):=by
 obtain⟨t,h⟩:=h.blk;simp[World.cell?,h]
theorem Rd.frozen (h:Rd br w A n c bs err) (i:Nat):w.frozen? ⟨br,i,none⟩=false:=by
 obtain⟨t,h⟩:=h.blk;simp[World.frozen?,h]
theorem Rd.upd {S:Nat->Prop} (h:Rd br w A n c bs err) (hu:Upd S w w') (h1:¬S br) (h2:Away S A n):Rd br w' A n c bs err:=
 ⟨let ⟨t,hb⟩:=h.blk;⟨t,(hu.block br h.lt h1).trans hb⟩,h.by_.upd hu h2,h.ne⟩
theorem Rd.fail (h:Rd br w A n c bs err) (e:Nat):Rd br (w.setCell ⟨br,1,none⟩ (.int .i64 (e:Int))) A n c bs e:=by
 obtain⟨t,hb⟩:=h.blk;exact⟨⟨t,by simp[World.setCell,Array.getElem?_modify,hb]⟩,h.by_.upd (Upd.setCell (S:=fun b=>b=br) (a:=⟨br,1,none⟩) w _ rfl) (fun a ha _=>h.ne a ha),h.ne⟩
theorem Rd.next (h:Rd br w A n c bs err) {A':Option Addr} {n' c':Nat} {bs':List Nat} (hb':By w A' n' c' bs') (hn:∀a,A'=some a->a.block≠br):Rd br (w.setCell ⟨br,0,none⟩ (.slice A' n' c')) A' n' c' bs' err:=by
 obtain⟨t,hb⟩:=h.blk;exact⟨⟨t,by simp[World.setCell,Array.getElem?_modify,hb]⟩,hb'.upd (Upd.setCell (S:=fun b=>b=br) (a:=⟨br,0,none⟩) w _ rfl) (fun a ha _=>hn a ha),hn⟩
theorem Rd.drewN (h:Rd br w A n c bs err) (m:Nat):Rd br (w.drewN m) A n c bs err:=⟨h.blk,⟨h.by_.sl.drewN m,h.by_.small⟩,h.ne⟩
end
end Gz
namespace Gz
open Go Go.RowKit Go.Proofs Gl
theorem rfails {br:Nat} {w:World} {A:Option Addr} {n c:Nat} {bs:List Nat} {err:Nat} (hR:Rd br w A n c bs err) (e0:Nat):
 Calls Tryz.prog 265 #[.pointer (some ⟨br,0,none⟩),.int .i64 (e0:Int)] w fun e w'=>e=.returned (.tuple #[])/\Rd br w' A n c bs (if err=0 then e0 else err)/\Upd (fun b=>b=br) w w':=by
 have a1:=hR.cell1;have a2:=hR.frozen 1;by_cases he:err=0
 · subst he;go_enter Tryz.func265,Tryz.ntmps265;go_wp2
   all_goals (try go_region)
   all_goals (try go_wp2)
   all_goals go_end0
   all_goals exact⟨rfl,by simpa using hR.fail e0,Upd.setCell w _ rfl⟩
 · have hb:(((err:Nat):Int) == 0)=false:=by rw[beq_eq_false_iff_ne];omega
   go_enter Tryz.func265,Tryz.ntmps265
   go_wp2
   all_goals go_end0
   all_goals exact⟨rfl,by first|exact hR|(rw[if_neg he];exact hR),Upd.refl _ _⟩
theorem num_snoc (l:List Nat) (b:Nat):num (l ++ [b])=num l*256+b:=by simp[num]
theorem num_lt:∀(n:Nat) (bs:List Nat),bs.length=n->Small bs->num bs<256 ^ n
 | 0,bs,hl,_=>by
   have:bs=[]:=List.length_eq_zero_iff.1 hl;subst this;decide
 | n+1,bs,hl,h=>by
   have hne:bs≠[]:=fun e=>by rw[e]at hl;simp at hl
   have e:=List.dropLast_concat_getLast hne;have h1:=num_lt n bs.dropLast (by simp[hl]) (fun x hx=>h x ((List.dropLast_sublist bs).subset hx));have h2:=h _ (List.getLast_mem hne);rw[<-e,num_snoc,Nat.pow_succ];omega
theorem rpeek {br:Nat} {w:World} {A:Option Addr} {n c:Nat} {bs:List Nat} {err:Nat} (hR:Rd br w A n c bs err) (k:Nat) (hk0:0<k) (hk:k<=8) (hn:n<=1073741824):
 Calls Tryz.prog 290 #[.pointer (some ⟨br,0,none⟩),.int .i64 (k:Int)] w fun e w'=>
  (err=0/\k<=n->e=.returned (.tuple #[.int .u64 (num (bs.take k):Int),.bool true])/\Rd br w' A n c bs 0) /\
  (¬(err=0/\k<=n)->e=.returned (.tuple #[.int .u64 0,.bool false])/\Rd br w' A n c bs (if err=0 then 40 else err))/\Upd (fun b=>b=br) w w':=by
 have b5:=hR.cell0;have b6:=hR.cell1;have b7:=hR.frozen 1;by_cases he:err=0
 · subst he;by_cases hkn:k<=n
   · obtain⟨b,off,rfl,hb⟩:=hR.by_.addr (by omega);have b8:=hR.by_.sl.le;have b9:=hR.by_.sl.max;have c5:k<=c:=(by omega);have a9:=hR.by_.len;have a1:=zqH hR;clear hR;go_enter Tryz.func290,Tryz.ntmps290;go_wp2
     go_loopw [6,43] (fun x i wr=>∃j:Nat,j<=k/\i=.int .i64 (j:Int)/\x=.int .u64 (num (bs.take j):Int)/\Hid (∃q,wr=w.drewN q)) (fun x i _=>(k-(intOf i).toNat))
     case atStart=>exact⟨0,Nat.zero_le _,rfl,rfl,zqH ⟨0,rfl⟩⟩
     case round=>
      obtain⟨j,hj,rfl,rfl,hq⟩:=hrel;by_cases hjk:j<k
      · obtain⟨v,hv⟩:=zE (bs[j]'(by omega));have c6:wr.cell? ⟨b,off+j,none⟩=some (.int .u8 (v:Int)):=by
         obtain⟨q,rfl⟩:=hq.out;rw[hv];exact a1.out.by_.cell rfl j (by omega)
        have HV:=zqH hv;clear hv;obtain⟨X,hX⟩:=zE (num (bs.take j));rw[<-hX];have a2:=zqH hX;clear hX;go_wp2;have a4:v<256:=(by rw[HV.out];exact a1.out.by_.small _ (List.getElem_mem _));have a5:X<72057594037927936:=by
         rw[a2.out];have h1:=num_lt j (bs.take j) (by rw[List.length_take];omega) (fun x hx=>a1.out.by_.small x (List.mem_of_mem_take hx));have h2:256 ^ j<=256 ^ 7:=Nat.pow_le_pow_right (by decide) (by omega);omega
        refine⟨⟨j+1,by omega,by congr 1,?_,hq⟩,by simp[intOf];omega⟩;rw[or_bytes a5 a4,HV.out,a2.out,<-num_snoc]
        congr 3
        rw[List.take_succ_eq_append_getElem (by omega)]
      · go_wp2
        obtain rfl:j=k:=by omega
        go_ret2
        obtain⟨q,rfl⟩:=hq.out;exact⟨⟨rfl,a1.out.drewN q⟩,(Upd.refl _ _).drewN q⟩
   · go_enter Tryz.func290,Tryz.ntmps290
     go_wp2_with (go_at_call 265;refine(rfails hR 40).mono ?_;rintro e w' ⟨rfl,a3,hu⟩;have d0:=a3.cell1)
     go_ret2
     exact⟨⟨rfl,by simpa using a3⟩,hu⟩
 · have hb:(((err:Nat):Int) == 0)=false:=by rw[beq_eq_false_iff_ne];omega
   have d5:(((err:Nat):Int) != 0)=true:=by rw[bne_iff_ne];omega
   go_enter Tryz.func290,Tryz.ntmps290
   go_wp2
   go_ret2
   exact⟨⟨rfl,hR⟩,Upd.refl _ _⟩
def rOk (k:Nat) (bs:List Nat) (err:Nat):Bool:=decide (err=0/\k<=bs.length)
def rv (k:Nat) (bs:List Nat) (err:Nat):Nat:=if rOk k bs err then num (bs.take k) else 0
def rb (k:Nat) (bs:List Nat) (err:Nat):List Nat:=if rOk k bs err then bs.drop k else bs
def re (k:Nat) (bs:List Nat) (err:Nat):Nat:=if rOk k bs err then 0 else if err=0 then 40 else err
def Took (br:Nat) (w:World) (A:Option Addr) (k:Nat) (bs:List Nat) (err:Nat) (v:Value) (e:Ending) (w':World):Prop:=
 e=.returned v/\∃A' n' c',Rd br w' A' n' c' (rb k bs err) (re k bs err)/\Upd (fun b=>b=br) w w'/\∀a',A'=some a'->∃a,A=some a/\a'.block=a.block
theorem rnumber {br:Nat} {w:World} {A:Option Addr} {n c:Nat} {bs:List Nat} {err:Nat} (hR:Rd br w A n c bs err) (k:Nat) (hk0:0<k) (hk:k<=8) (hn:n<=1073741824):
 Calls Tryz.prog 271 #[.pointer (some ⟨br,0,none⟩),.int .i64 (k:Int)] w (Took br w A k bs err (.int .u64 (rv k bs err:Int))):=by
 have a3:=hR.by_.len;have P:=zqH (rpeek hR k hk0 hk hn);by_cases ho:err=0/\k<=n
 · have a4:rOk k bs err=true:=decide_eq_true (by rw[a3];exact ho);obtain⟨b,off,rfl,hb⟩:=hR.by_.addr (by omega);have b7:=hR.by_.sl.le;have b8:k<=c:=by omega
   have b9:=ho.2;have c5:=zqH hR;have HO:=zqH ho;clear hR ho;have a2:∀(w':World) (A':Option Addr) (n' c':Nat),Rd br w' A' n' c' (bs.drop k) 0->Upd (fun b=>b=br) w w' → (∀a',A'=some a'->a'.block=b)->Took br w (some ⟨b,off,none⟩) k bs err (.int .u64 (num (bs.take k):Int)) (.returned (.int .u64 (num (bs.take k):Int))) w':=fun w' A' n' c' h1 h2 h3=>by
    unfold Took rb re;rw[a4];exact⟨rfl,A',n',c',h1,h2,fun a' ha'=>⟨_,rfl,h3 a' ha'⟩⟩
   have hv:rv k bs err=num (bs.take k):=by unfold rv;rw[a4];rfl
   rw[hv];have a5:=zqH a2;clear a2;go_enter Tryz.func271,Tryz.ntmps271
   go_wp2_with (go_at_call 290;refine P.out.mono ?_;rintro e w' ⟨h1,_,hu⟩;obtain⟨rfl,a1⟩:=h1 HO.out;have c6:=a1.cell0;have d0:=a1.frozen 0;clear h1)
   all_goals go_ret
   · have e0:bs.drop k=[]:=List.drop_eq_nil_of_le (by omega);have hz:n-k=0:=(by omega);refine a5.out _ _ _ _ (a1.next (A':=some ⟨b,off,none⟩) (n':=n-k) (c':=0) ?_ (fun a ha=>by cases ha;exact a1.ne _ rfl)) (hu.trans (Upd.setCell w' _ rfl)) (fun a' ha'=>by cases ha';rfl);rw[e0,hz];exact⟨⟨by simp,zR _,Nat.zero_le _,fun h=>absurd h (by omega),fun _=>rfl⟩,fun x hx=>by cases hx⟩
   · refine a5.out _ _ _ _ (a1.next (A':=some ⟨b,off+k,none⟩) (n':=n-k) (c':=c-k) ?_ (fun a ha=>by cases ha;exact a1.ne ⟨b,off,none⟩ rfl)) (hu.trans (Upd.setCell w' _ rfl)) (fun a' ha'=>by cases ha';rfl);obtain⟨b',b6,eA,hr⟩:=a1.by_.sl.row (by omega);cases eA;have hd:=hr.drop k;rw[<-List.map_drop]at hd;refine⟨⟨by simp[a3],by omega,by have:=a1.by_.sl.max;omega,fun _=>⟨b,off+k,rfl,hd⟩,fun e=>by cases e⟩,fun x hx=>a1.by_.small x (List.mem_of_mem_drop hx)⟩
 · have a4:rOk k bs err=false:=decide_eq_false (by rw[a3];exact ho);have HO:=zqH ho;clear ho;have a2:∀(w':World),Rd br w' A n c bs (if err=0 then 40 else err)->Upd (fun b=>b=br) w w'->Took br w A k bs err (.int .u64 0) (.returned (.int .u64 0)) w':=fun w' h1 h2=>by
    unfold Took rb re;rw[a4];exact⟨rfl,A,n,c,h1,h2,fun a' ha'=>⟨a',ha',rfl⟩⟩
   have hv:((rv k bs err:Nat):Int)=0:=by unfold rv;rw[a4];rfl
   rw[hv];have a5:=zqH a2;clear a2;go_enter Tryz.func271,Tryz.ntmps271
   go_wp2_with (go_at_call 290;refine P.out.mono ?_;rintro e w' ⟨_,h2,hu⟩;obtain⟨rfl,a1⟩:=h2 HO.out;have b5:=zqH a1;clear h2 a1)
   go_ret
   exact a5.out _ b5.out hu
theorem rU64 {br:Nat} {w:World} {A:Option Addr} {n c:Nat} {bs:List Nat} {err:Nat} (hR:Rd br w A n c bs err) (hn:n<=1073741824):
 Calls Tryz.prog 244 #[.pointer (some ⟨br,0,none⟩)] w (Took br w A 8 bs err (.int .u64 (rv 8 bs err:Int))):=by
 have P:=zqH (rnumber hR 8 (by omega) (by omega) hn);clear hR hn;obtain⟨x,hx⟩:=zE (rv 8 bs err);rw[<-hx]at P ⊢;have HX:=zqH hx;clear hx;go_enter Tryz.func244,Tryz.ntmps244
 go_wp2_with (go_at_call 271;refine P.out.mono ?_;intro e w' hT;obtain⟨rfl,h2⟩:=id hT)
 go_ret
 exact hT
theorem rEnd {br:Nat} {w:World} {A:Option Addr} {n c:Nat} {bs:List Nat} {err:Nat} (hR:Rd br w A n c bs err):
 Calls Tryz.prog 232 #[.pointer (some ⟨br,0,none⟩)] w fun e w'=>e=.returned (.int .i64 ((if err=0/\0<n then 43 else err:Nat):Int))/\Upd (fun b=>b=br) w w':=by
 have a4:=hR.cell0;have a5:=hR.cell1;have P:=zqH (rfails hR 43);by_cases h0:0<n
 · obtain⟨ef,a1⟩:=zE ((if err=0 then 43 else err));have e1:(if err=0/\0<n then 43 else err)=ef:=by rw[a1];by_cases h:err=0<;>simp[h,h0]
   rw[e1];rw[<-a1]at P;clear e1 a1;go_enter Tryz.func232,Tryz.ntmps232
   go_wp2_with (go_at_call 265;refine P.out.mono ?_;rintro e w' ⟨rfl,a2,hu⟩;have a6:=a2.cell1)
   go_ret
   exact⟨rfl,hu⟩
 · rw[if_neg (fun h=>h0 h.2)];go_enter Tryz.func232,Tryz.ntmps232;go_wp2;go_ret;exact⟨rfl,Upd.refl _ _⟩
theorem newReader {w:World} {A:Option Addr} {n c:Nat} {bs:List Nat} (h:By w A n c bs) (hn:n<=1073741824):
 Calls Tryz.prog 231 #[.slice A n c] w fun e w'=>∃br A' c',e=.returned (.pointer (some ⟨br,0,none⟩))/\Rd br w' A' n c' bs 0/\New w w'/\w.heap.size<=br/\∀a,A'=some a->w.heap.size<=a.block:=by
 obtain⟨i0,a2,a3,a4,a5⟩:=info_parts info5;have a1:=h.len;have hs:Src w A n (bs.map u8):=Src.of_sl h.sl;have HN:=zqH hn;have HS:=zqH h.small;clear hn h;go_enter Tryz.func231,Tryz.ntmps231
 go_wp2_with (at_builtin
              refine wpList_append_src _ rfl _ _ _ rfl w.heap.size 5 i0 _ 1 1 Tryz.underlying113 a2 a3 a4 a5 rfl (by omega) (.slice none 0 0) 0 [] rfl (World.ownsRow_nil _ _ _ _) _ _ _ (bs.map u8) rfl (by simp[a1]) hs (zav _) (by have:=HN.out;simp only[maxLen];omega) (by have:=HN.out;omega) (zR _) ?_
              intro A' c' w1 hown1 hg1 hat1)
 go_ret
 simp only[Nat.zero_add,List.nil_append]at hown1 hat1;have hA:∀a,A'=some a->w.heap.size<=a.block:=fun a ha=>by
  subst ha;rcases hat1 with e|e<;>simp[Value.ownBlock]at e
  omega
 have hu:New w w1:=Upd.of_grown hg1 (fun c hc=>by cases hc);refine⟨w1.heap.size,A',c',by simp,⟨⟨352,?_⟩,?_,fun a ha=>?_⟩,hu.trans (zU _ _ _),hu.size,hA⟩
 · have:=zX w1 (.cells #[.slice A' n c',.int .i64 0] 352)
   simpa using this
 · exact(By.of_own hown1 HS.out).new (by have:=zU (fun _=>False) w1 (.cells #[.slice A' n c',.int .i64 0] 352);simpa using this)
 · subst ha;have:=(zal hown1 (c:=a.block) rfl).1;omega
end Gz

/- A part of the proof of the statement of this seat: no condition. -/
import Derived.Test.YtbhnjkegkadodaaGreatDoorProg
import Derived.Test.YtbhnjkegkadodaaGreatDoorQ0b
import Derived.Test.YtbhnjkegkadodaaGreatDoorQ01
import Derived.WalkKit
import Derived.BigQuiet
import Derived.Deep.RegionWith
import Derived.Deep.RegionLaw
import Derived.Deep.QuietTactic
import Derived.Laws.Externs
import Derived.Lib.SliceRun
import Derived.Scope
set_option linter.unusedVariables false
set_option linter.unusedSimpArgs false
set_option maxRecDepth 100000
set_option maxHeartbeats 8000000
namespace Go.Proofs.YtbhnjkegkadodaaGreatDoor
open Go Go.RowKit Go.Proofs Gl
theorem info5:(Tryz.prog.info? 5).map (fun i=>(i.zero,i.size,i.bytes))=some (some (.int .u8 0),1,1):=by kernel_rfl
theorem info182:(Tryz.prog.info? 182).map (fun i=>(i.zero,i.size,i.bytes))=some (some (.agg #[.slice none 0 0,.slice none 0 0]),2,48):=by kernel_rfl
theorem info251:(Tryz.prog.info? 251).map (fun i=>(i.zero,i.size,i.bytes))=some (some (.slice none 0 0),1,24):=by kernel_rfl
theorem oneCell_u8 (l:List Nat):∀u ∈ l.map u8,u.oneCell'=true:=fun u hu=>by
 obtain⟨x,_,rfl⟩:=List.mem_map.1 hu;rfl
theorem info_parts {P:Program} {t:TypeId} {z:Value} {s b:Nat} (h:(P.info? t).map (fun i=>(i.zero,i.size,i.bytes))=some (some z,s,b)):∃i,P.info? t=some i/\i.zero=some z/\i.size=s/\i.bytes=b:=by
 cases hq:P.info? t with
 | none=>rw[hq]at h;cases h
 | some i=>
   rw[hq]at h
   simp only[Option.map_some,Option.some.injEq,Prod.mk.injEq]at h
   exact⟨i,rfl,h.1,h.2.1,h.2.2⟩
theorem owned_c {w:World} {A:Option Addr} {n c:Nat} {bs:Bs} (h:By w A n c bs) (hn:n<=1073741824):
 Calls Tryz.prog 107 #[.slice A n c] w fun e w'=>∃A' c',e=.returned (.slice A' n c')/\BV (fun b=>w.heap.size<=b) w' (.slice A' n c') bs/\New w w':=by
 obtain⟨i0,hi0,hz0,hz1,hz2⟩:=info_parts info5
 have hs:Src w A n (bs.map u8):=Src.of_sl h.sl
 have hlen:=h.len
 have HN:=Lib.hid hn
 have H:=Lib.hid h
 clear hn h
 go_enter Tryz.func107,Tryz.ntmps107
 go_wp2_with (at_builtin
              refine wpList_append_src _ rfl _ _ _ rfl w.heap.size 5 i0 _ 1 1 Tryz.underlying113 hi0 hz0 hz1 hz2 rfl (by omega) (.slice none 0 0) 0 [] rfl (World.ownsRow_nil _ _ _ _) _ _ _ (bs.map u8) rfl (by simp[hlen]) hs (oneCell_u8 _) (by have:=HN.out;simp only[maxLen];omega) (by have:=HN.out;omega) (Nat.le_refl _) ?_
              intro A' c' w1 hown1 hg1 hat1)
 go_ret
 simp only[Nat.zero_add,List.nil_append]at hown1 hat1
 refine⟨A',c',by simp,⟨A',n,c',rfl,By.of_own hown1 H.out.small,fun a ha _=>?_⟩,Upd.of_grown hg1 (fun c hc=>by cases hc)⟩
 subst ha
 rcases hat1 with e|e<;>simp[Value.ownBlock]at e
 omega
theorem compare_c {w:World} {A A':Option Addr} {n c n' c':Nat} {xs ys:Bs} (ha:By w A n c xs) (hb:By w A' n' c' ys):
 Calls Tryz.prog 110 #[.slice A n c,.slice A' n' c'] w fun e w'=>e=.returned (.int .i64 (cmpN xs ys))/\w'=w:=by
 have hx:(callFunc 170 #[.slice A n c,.slice A' n' c']).run Tryz.prog w=.ok (.value (.int .i64 (cmpN xs ys))) w:=by
  rw[run_callFunc_extern (e:=Extern.BytealgCompare.compare) Tryz.func170 (by kernel_rfl) (by kernel_rfl) (by kernel_rfl) (by kernel_rfl),cmp_by ha hb];rfl
 clear ha hb
 obtain⟨r,hr⟩:∃r,r=cmpN xs ys:=⟨_,rfl⟩
 rw[<-hr]at hx ⊢
 clear hr
 go_enter Tryz.func110,Tryz.ntmps110
 go_wp2_with (simp only[hx])
 go_ret
 exact⟨rfl,rfl⟩
theorem clone_c {w:World} {g o m c:Nat} {cs:List Value} (hs:Sl 2 w (some ⟨g,o,none⟩) m c cs) (h1:∀u ∈ cs,u.oneCell'=true) (hm:0<m) (hn:m<=1048576):
 Calls Tryz.prog 198 #[.slice (some ⟨g,o,none⟩) m c] w fun e w'=>∃g' c',e=.returned (.slice (some ⟨g',0,none⟩) m c')/\w.heap.size<=g'/\w'.ownsRow w.heap.size 182 2 (.slice (some ⟨g',0,none⟩) m c') m cs/\New w w':=by
 obtain⟨i0,hi0,hz0,hz1,hz2⟩:=info_parts info182
 have hu:New w (w.alloc (.cells #[] 182)):=Upd.alloc _ _ _
 have hsrc:Src (w.alloc (.cells #[] 182)) (some ⟨g,o,none⟩) m cs:=Src.of_sl (hs.new hu)
 have hown:(w.alloc (.cells #[] 182)).ownsRow w.heap.size 182 2 (.slice (some ⟨w.heap.size,0,none⟩) 0 0) 0 []:=World.ownsRow_made w #[] 0 (Nat.le_refl _) (by simp[maxLen]) (by simp)
 have hlen:=hs.len
 have hnil:=Lib.run_eql_slice_nil (P:=Tryz.prog) w 251 182 (some ⟨g,o,none⟩) m c 0 0 Tryz.underlying251
 have HN:=Lib.hid hn;have HS:=Lib.hid hsrc;have HO:=Lib.hid hown;have HL:=Lib.hid hlen;have HM:=Lib.hid hm;have HU:=Lib.hid hu
 clear hs hn hsrc hown hlen hm hu
 go_enter Tryz.func198,Tryz.ntmps198
 go_wp2_with (at_builtin
              refine wpList_append_src _ rfl _ _ _ rfl w.heap.size 182 i0 _ 2 48 Tryz.underlying251 hi0 hz0 hz1 hz2 rfl (by omega) (.slice (some ⟨w.heap.size,0,none⟩) 0 0) 0 [] rfl HO.out _ _ _ cs rfl HL.out HS.out h1 (by have:=HN.out;simp only[maxLen];omega) (by have:=HN.out;omega) (by show _<=(w.heap.push _).size;simp) ?_
              intro A' c' w1 hown1 hg1 hat1)
 go_ret
 simp only[Nat.zero_add,List.nil_append]at hown1 hat1
 have hM:=HM.out
 obtain⟨g',cap,cur,e,h2,_⟩:∃g cap cur,Value.slice A' m c'=.slice (some ⟨g,0,none⟩) m cap/\w.heap.size<=g/\w1.heap[g]?=some (.cells cur 182 (0,0)):=by
  rcases hown1.2 with⟨_,h0⟩|⟨g,cap,cur,e,h2,h3,_⟩
  · omega
  · exact⟨g,cap,cur,e,h2,h3⟩
 injection e with e1 e2 e3
 subst e1 e3
 refine⟨g',c',by simp,h2,hown1,HU.out.then (Upd.of_grown (S:=fun b=>b=w.heap.size) hg1 (fun c hc=>by simpa[Value.ownBlock] using hc.symm)) (fun c hc e=>by omega)⟩
theorem place1_c {w:World} {kA A:Option Addr} {kn kc n c:Nat} {xs ys:Bs} {vA:Option Addr} {vn vc:Nat} (ha:By w kA kn kc xs) (hb:By w A n c ys):
 Calls Tryz.prog 229 #[.agg #[.slice kA kn kc,.slice vA vn vc],.slice A n c] w fun e w'=>e=.returned (.int .i64 (cmpN xs ys))/\New w w':=by
 have hu:New w (w.alloc (.cells #[.slice kA kn kc,.slice vA vn vc] 182)):=Upd.alloc _ _ _
 have h36:=compare_c (ha.new hu) (hb.new hu)
 obtain⟨r,hr⟩:∃r,r=cmpN xs ys:=⟨_,rfl⟩
 rw[<-hr]at h36 ⊢
 have HU:=Lib.hid hu
 have H:=Lib.hid h36
 clear hr ha hb hu h36
 go_enter Tryz.func229,Tryz.ntmps229
 go_wp2_with (go_at_call 110;refine H.out.mono ?_;rintro e w' ⟨rfl,rfl⟩;clear H)
 go_ret
 exact⟨rfl,HU.out⟩
def Searched (l:List Ent) (ys:Bs) (w:World) (e:Ending) (w':World):Prop:=∃(i:Nat) (f:Bool),e=.returned (.tuple #[.int .i64 (i:Int),.bool f])/\KeyPlace l ys i f/\New w w'
theorem search_c {base g cp n c m:Nat} {w:World} {l:List Ent} {cs:List Value} {D:Nat->Prop} {A:Option Addr} {ys:Bs} (h:w.ownsRow base 182 2 (.slice (some ⟨g,0,none⟩) m cp) m cs) (he:EntsAt D w cs l) (hb:By w A n c ys) (hs:Sorted l) (hm:m=l.length) (hm1:m<=1048576):
 Calls Tryz.prog 228 #[.slice (some ⟨g,0,none⟩) m cp,.slice A n c,.func (.func 229) #[] #[]] w (Searched l ys w):=by
 have hcell:∀q,∀hq:q<l.length,∃kA kn kc vA vn vc,w.cell? ⟨g,q*2,none⟩=some (.slice kA kn kc)/\w.cell? ⟨g,q*2+1,none⟩=some (.slice vA vn vc)/\By w kA kn kc (key l q):=fun q hq=>by
  obtain⟨k,v,h1,h2,⟨kA,kn,kc,rfl,h3,_⟩,⟨vA,vn,vc,rfl,h4,_⟩⟩:=page_cells h he (List.getElem?_eq_getElem hq)
  exact⟨kA,kn,kc,vA,vn,vc,h1,h2,by rw[key_get hq];exact h3⟩
 have hglt:0<m->g<w.heap.size:=fun h0=>by
  obtain⟨b,off,e,hr⟩:=(Sl.of_own h).row h0
  cases e;exact hr.1
 have hmax:m<=cp/\cp<=maxLen:=⟨(Sl.of_own h).le,(Sl.of_own h).max⟩
 have HC:=Lib.hid hcell;have HG:=Lib.hid hglt;have HS:=Lib.hid hs;have HB:=Lib.hid hb;have HM:=Lib.hid hm;have HX:=Lib.hid hmax
 clear h he hb hs hcell hglt hm hmax
 go_enter Tryz.func228,Tryz.ntmps228
 go_wp2
 go_loopw [9,10] (fun i j wr=>∃a b:Nat,a<=b/\b<=m/\i=.int .i64 (a:Int)/\j=.int .i64 (b:Int)/\Hid ((∀q,q<a->blt (key l q) ys=true)/\(∀q,b<=q->q<l.length->blt (key l q) ys=false)/\New w wr)) (fun i j _=>(intOf j-intOf i).toNat)
 case atStart=>exact⟨0,m,Nat.zero_le _,Nat.le_refl _,rfl,rfl,Lib.hid ⟨fun q hq=>by omega,fun q hq hq2=>by have:=HM.out;omega,Upd.refl _ _⟩⟩
 case round=>
  obtain⟨a,b,hab,hbm,rfl,rfl,hI⟩:=hrel
  by_cases hlt:a<b
  · have hpm:(a+b) / 2<l.length:=by have:=HM.out;omega
    obtain⟨kA,kn,kc,vA,vn,vc,h1,h2,h3⟩:=HC.out ((a+b) / 2) hpm
    have hU:=hI.out.2.2
    have hg:=HG.out (by omega)
    have c1:wr.cell? ⟨g,(a+b) / 2*2,none⟩=some (.slice kA kn kc):=(hU.cell (a:=⟨g,(a+b) / 2*2,none⟩) hg id).trans h1
    have c2:wr.cell? ⟨g,(a+b) / 2*2+1,none⟩=some (.slice vA vn vc):=(hU.cell (a:=⟨g,(a+b) / 2*2+1,none⟩) hg id).trans h2
    have h127:=place1_c (vA:=vA) (vn:=vn) (vc:=vc) (h3.new hU) (HB.out.new hU)
    obtain⟨r,hr⟩:∃r,r=cmpN (key l ((a+b) / 2)) ys:=⟨_,rfl⟩
    rw[<-hr]at h127
    have H127:=Lib.hid h127;have HPM:=Lib.hid hpm;have HRR:=Lib.hid hr
    clear h1 h2 h3 hU hg h127 hpm hr
    by_cases hrn:r<0
    · go_wp2_with (go_at_call 229;refine H127.out.mono ?_;rintro e w2 ⟨rfl,hn2⟩;clear H127)
      refine⟨⟨(a+b) / 2+1,b,by omega,hbm,by congr 1,rfl,Lib.hid ⟨fun q hq=>?_,hI.out.2.1,hI.out.2.2.trans hn2⟩⟩,by simp[intOf];omega⟩
      have hlt2:blt (key l ((a+b) / 2)) ys=true:=cmpN_lt.1 (by have:=cmpN_three (key l ((a+b) / 2)) ys;have:=HRR.out;omega)
      by_cases e:q=(a+b) / 2
      · rw[e];exact hlt2
      · exact blt_trans (key_rise HS.out (by omega) HPM.out) hlt2
    · go_wp2_with (go_at_call 229;refine H127.out.mono ?_;rintro e w2 ⟨rfl,hn2⟩;clear H127)
      refine⟨⟨a,(a+b) / 2,by omega,by omega,rfl,by congr 1,Lib.hid ⟨hI.out.1,fun q hq hq2=>?_,hI.out.2.2.trans hn2⟩⟩,by simp[intOf];omega⟩
      have hge:blt (key l ((a+b) / 2)) ys=false:=by
       cases hb:blt (key l ((a+b) / 2)) ys with
       | false=>rfl
       | true=>have:=cmpN_lt.2 hb;have:=HRR.out;omega
      by_cases e:q=(a+b) / 2
      · rw[e];exact hge
      · cases hb:blt (key l q) ys with
        | false=>rfl
        | true=>rw[blt_trans (key_rise HS.out (by omega) hq2) hb]at hge;cases hge
  · obtain rfl:a=b:=by omega
    by_cases ham:a<m
    · have hpm:a<l.length:=by have:=HM.out;omega
      obtain⟨kA,kn,kc,vA,vn,vc,h1,h2,h3⟩:=HC.out a hpm
      have hU:=hI.out.2.2
      have hg:=HG.out (by omega)
      have c1:wr.cell? ⟨g,a*2,none⟩=some (.slice kA kn kc):=(hU.cell (a:=⟨g,a*2,none⟩) hg id).trans h1
      have c2:wr.cell? ⟨g,a*2+1,none⟩=some (.slice vA vn vc):=(hU.cell (a:=⟨g,a*2+1,none⟩) hg id).trans h2
      have h127:=place1_c (vA:=vA) (vn:=vn) (vc:=vc) (h3.new hU) (HB.out.new hU)
      obtain⟨r,hr⟩:∃r,r=cmpN (key l a) ys:=⟨_,rfl⟩
      rw[<-hr]at h127
      have H127:=Lib.hid h127;have HPM:=Lib.hid hpm;have HRR:=Lib.hid hr
      clear h1 h2 h3 hU hg h127 hpm hr
      go_wp2_with (go_at_call 229;refine H127.out.mono ?_;rintro e w2 ⟨rfl,hn2⟩;clear H127)
      go_ret2
      refine⟨a,r == 0,by simp[Act.eval],⟨?_,Nat.le_of_lt HPM.out,hI.out.1,hI.out.2.1⟩,hI.out.2.2.trans hn2⟩
      rw[beq_iff_eq,HRR.out,cmpN_eq]
      exact⟨fun e=>⟨HPM.out,e⟩,fun e=>e.2⟩
    · obtain rfl:a=m:=by omega
      go_wp2
      go_ret2
      refine⟨a,false,by simp[Act.eval],⟨?_,by have:=HM.out;omega,hI.out.1,hI.out.2.1⟩,hI.out.2.2⟩
      have:=HM.out
      exact⟨fun e=>(by cases e),fun e=>(by omega)⟩
theorem place_c {base g cp n c m:Nat} {w:World} {l:List Ent} {cs:List Value} {D:Nat->Prop} {A:Option Addr} {ys:Bs} (h:w.ownsRow base 182 2 (.slice (some ⟨g,0,none⟩) m cp) m cs) (he:EntsAt D w cs l) (hb:By w A n c ys) (hs:Sorted l) (hm:m=l.length) (hm1:m<=1048576):
 Calls Tryz.prog 169 #[.slice (some ⟨g,0,none⟩) m cp,.slice A n c] w (Searched l ys w):=by
 have H:=Lib.hid (search_c h he hb hs hm hm1)
 clear h he hb hs hm hm1
 go_enter Tryz.func169,Tryz.ntmps169
 go_wp2_with (go_at_call 228;refine H.out.mono ?_;rintro e w2 ⟨i,f,rfl,hp,hn2⟩;have HP:=Lib.hid hp;clear hp H)
 go_ret2
 exact⟨i,f,by simp[Act.eval],HP.out,hn2⟩
theorem page_c {base bm n c na ca:Nat} {w:World} {D:Nat->Prop} {A Ak:Option Addr} {vs:List Value} {ps:List (List Ent)} {k:Bs} (h:MapIn 182 251 base w bm D A n c vs ps) (hk:By w Ak na ca k) (hps:0<ps.length) (hlen:ps.length<=1048576):
 Calls Tryz.prog 168 #[.pointer (some ⟨bm,0,none⟩),.slice Ak na ca] w fun e w'=>∃p:Nat,e=.returned (.int .i64 (p:Int))/\PageOf ps k p/\∃q,w'=w.drewN q:=by
 have hn:=h.n_eq
 obtain⟨g0,rfl⟩:∃g0,A=some ⟨g0,0,none⟩:=(by obtain⟨g0,gp0,cp0,cs0,hA0,_⟩:=h.at hps;exact⟨g0,hA0⟩)
 have hmax:n<=c/\c<=maxLen:=⟨(Sl.of_own h.row).le,(Sl.of_own h.row).max⟩
 have hc0:=h.cell0
 have hg:=h.good
 have hcell:∀q,∀hq:q<ps.length,∃gp m cp kA kn kc,w.cell? ⟨g0,q,none⟩=some (.slice (some ⟨gp,0,none⟩) m cp)/\0<m/\w.cell? ⟨gp,0,none⟩=some (.slice kA kn kc)/\By w kA kn kc (head1 ps[q]):=fun q hq=>by
  obtain⟨g,gp,cp,cs,e1,_,e2,e3,e4,e5⟩:=h.at hq
  cases e1
  obtain⟨k,v,h1,h2,⟨kA,kn,kc,rfl,h3,_⟩,_⟩:=page_cells e3 e4 (List.getElem?_eq_getElem e5)
  exact⟨gp,_,cp,kA,kn,kc,e2,e5,by simpa using h1,by rw[head1_get hg hq];exact h3⟩
 have HC:=Lib.hid hcell;have HK:=Lib.hid hk;have HN:=Lib.hid hn;have HL:=Lib.hid hlen;have HX:=Lib.hid hmax;have HG:=Lib.hid hg;have HP:=Lib.hid hps
 have hn1:n<=1048576:=by omega
 clear hcell hk hn hlen hmax hg h hps
 go_enter Tryz.func168,Tryz.ntmps168
 go_wp2
 refine wp_scope_straight ?_
 go_wp2
 go_region
 all_goals go_wp2
 refine wp_label ?_
 go_wp2
 go_loopw [5,6] (fun i j wr=>∃a b:Nat,a<=b/\b<=n/\i=.int .i64 (a:Int)/\j=.int .i64 (b:Int)/\Hid ((∀q,q<a->∃hq:q<ps.length,blt k (head1 ps[q])=false)/\(∀q,b<=q->∀hq:q<ps.length,blt k (head1 ps[q])=true)/\∃z,wr=w.drewN z)) (fun i j _=>(intOf j-intOf i).toNat)
 case atStart=>exact⟨0,n,Nat.zero_le _,Nat.le_refl _,rfl,rfl,Lib.hid ⟨fun q hq=>by omega,fun q hq hq2=>by have:=HN.out;omega,_,rfl⟩⟩
 case round=>
  obtain⟨a,b,hab,hbn,rfl,rfl,hI⟩:=hrel
  by_cases hlt:a<b
  · have hpm:(a+b) / 2<ps.length:=by have:=HN.out;omega
    obtain⟨gp,m,cp,kA,kn,kc,h1,h2,h3,h4⟩:=HC.out ((a+b) / 2) hpm
    obtain⟨h5,h6,z,rfl⟩:=hI.out
    have c0:(w.drewN z).cell? ⟨bm,0,none⟩=some (.slice (some ⟨g0,0,none⟩) n c):=hc0
    have c1:(w.drewN z).cell? ⟨g0,(a+b) / 2,none⟩=some (.slice (some ⟨gp,0,none⟩) m cp):=h1
    have c2:(w.drewN z).cell? ⟨gp,0,none⟩=some (.slice kA kn kc):=h3
    have h36:=compare_c (w:=w.drewN z) ⟨h4.sl.drewN z,h4.small⟩ ⟨HK.out.sl.drewN z,HK.out.small⟩
    obtain⟨r,hr⟩:∃r,r=cmpN (head1 (ps[(a+b) / 2]'hpm)) k:=⟨_,rfl⟩
    rw[<-hr]at h36
    have hr3:=cmpN_three (head1 (ps[(a+b) / 2]'hpm)) k
    rw[<-hr]at hr3
    have H36:=Lib.hid h36;have HRR:=Lib.hid hr
    clear h1 h3 h4 h36 hr
    rcases hr3 with rfl|rfl|rfl
    · go_wp2_with (go_at_call 110;refine H36.out.mono ?_;rintro e w2 ⟨rfl,rfl⟩;clear H36)
      have hb:=cmpN_lt.1 HRR.out.symm
      refine⟨⟨(a+b) / 2+1,b,by omega,hbn,by congr 1,rfl,Lib.hid ⟨low_heads HG.out hpm (blt_asymm hb),h6,z,rfl⟩⟩,by simp[intOf];omega⟩
    · go_wp2_with (go_at_call 110;refine H36.out.mono ?_;rintro e w2 ⟨rfl,rfl⟩;clear H36)
      dsimp only[Exit.noGoto]
      go_ret
      have hb:=cmpN_eq.1 HRR.out.symm
      refine⟨(a+b) / 2,by simp[Act.eval],?_,z,rfl⟩
      exact pageOf_mk (a:=(a+b) / 2+1) HP.out (by omega) (low_heads HG.out hpm (by rw[hb];exact blt_irrefl _)) (high_heads HG.out hpm (by rw[hb];exact blt_irrefl _))
    · go_wp2_with (go_at_call 110;refine H36.out.mono ?_;rintro e w2 ⟨rfl,rfl⟩;clear H36)
      have hb:=cmpN_gt.1 HRR.out.symm
      refine⟨⟨a,(a+b) / 2,by omega,by omega,rfl,by congr 1,Lib.hid ⟨h5,high_heads' HG.out hpm hb,z,rfl⟩⟩,by simp[intOf];omega⟩
  · obtain rfl:a=b:=by omega
    obtain⟨h5,h6,z,rfl⟩:=hI.out
    have hpa:=pageOf_mk (a:=a) HP.out (by have:=HN.out;omega) h5 h6
    go_wp2
    all_goals go_ret
    all_goals refine⟨a-1,?_,hpa,z,rfl⟩
    all_goals
     simp[Act.eval]
     omega
theorem MapIn.drewN {tE tP base bm n c:Nat} {w:World} {D:Nat->Prop} {A:Option Addr} {vs:List Value} {ps:List (List Ent)} (h:MapIn tE tP base w bm D A n c vs ps) (q:Nat):MapIn tE tP base (w.drewN q) bm D A n c vs ps:=
 h.upd (T:=fun _=>False) ((Upd.refl _ w).drewN q) (fun _ _=>id)
theorem few_len {tE tP base bm n c:Nat} {w:World} {D:Nat->Prop} {A:Option Addr} {vs:List Value} {ps:List (List Ent)} (h:MapIn tE tP base w bm D A n c vs ps) {p:Nat} (hp:p<ps.length):ps[p].length<=32:=h.few _ (List.getElem_mem hp)
theorem find_c {base bm n c na ca:Nat} {w:World} {D:Nat->Prop} {A Ak:Option Addr} {vs:List Value} {ps:List (List Ent)} {k:Bs} (h:MapIn 182 251 base w bm D A n c vs ps) (hk:By w Ak na ca k) (hps:0<ps.length) (hlen:ps.length<=1048576):
 Calls Tryz.prog 196 #[.pointer (some ⟨bm,0,none⟩),.slice Ak na ca] w fun e w'=>∃(p i:Nat) (f:Bool),e=.returned (.tuple #[.int .i64 (p:Int),.int .i64 (i:Int),.bool f])/\Gl.Found ps k p i f/\New w w':=by
 have hn:=h.n_eq
 obtain⟨g0,rfl⟩:∃g0,A=some ⟨g0,0,none⟩:=(by obtain⟨g0,gp0,cp0,cs0,hA0,_⟩:=h.at hps;exact⟨g0,hA0⟩)
 have hc0:=h.cell0
 have h71:=page_c h hk hps hlen
 have hmax:n<=c/\c<=maxLen:=⟨(Sl.of_own h.row).le,(Sl.of_own h.row).max⟩
 have hpl:∀p q,∀hp:PageOf ps k p,∃gp m cp,(w.drewN q).cell? ⟨bm,0,none⟩=some (.slice (some ⟨g0,0,none⟩) n c)/\(w.drewN q).cell? ⟨g0,p,none⟩=some (.slice (some ⟨gp,0,none⟩) m cp)/\Calls Tryz.prog 169 #[.slice (some ⟨gp,0,none⟩) m cp,.slice Ak na ca] (w.drewN q) (Searched (ps[p]'hp.1) k (w.drewN q)):=fun p q hp=>by
  obtain⟨g,gp,cp,cs,e1,_,e2,e3,e4,e5⟩:=h.at hp.1
  cases e1
  refine⟨gp,_,cp,hc0,e2,?_⟩
  obtain⟨g',gp',cp',cs',e1',_,e2',e3',e4',e5'⟩:=(MapIn.drewN h q).at hp.1
  cases e1'
  have:(w.drewN q).cell? ⟨g0,p,none⟩=w.cell? ⟨g0,p,none⟩:=rfl
  rw[this,e2]at e2'
  cases e2'
  exact place_c e3' e4' ⟨hk.sl.drewN q,hk.small⟩ (h.good.2.sublist (List.sublist_flatten_of_mem (List.getElem_mem hp.1))) rfl (Nat.le_trans (few_len h hp.1) (by omega))
 have HG:=Lib.hid h.good;have HN:=Lib.hid hn;have HL:=Lib.hid hlen;have HX:=Lib.hid hmax;have H71:=Lib.hid h71;have HPL:=Lib.hid hpl
 have hn0:((n:Int) == 0)=false:=by simp;omega
 have hn1:n<=1048576:=by omega
 clear hk hn hlen hmax h hps h71 hpl
 go_enter Tryz.func196,Tryz.ntmps196
 go_wp2_with (first
  | (go_at_call 168;refine H71.out.mono ?_;rintro e w1 ⟨p,rfl,hp,q,rfl⟩;obtain⟨gp,m,cp,c0,c1,h72⟩:=HPL.out p q hp;have hpn:p<n:=(by have:=hp.1;have:=HN.out;omega);have HP:=Lib.hid hp;clear H71)
  | (go_at_call 169;refine h72.mono ?_;rintro e w2 ⟨i,f,rfl,hpl,hn2⟩;have HQ:=Lib.hid hpl;clear h72 hpl))
 go_ret3
 refine⟨p,i,f,by simp[Act.eval],found_place HG.out HP.out HQ.out,?_⟩
 exact Upd.of_drew (w:=w) (w':=w2) (⟨hn2.os,hn2.output,hn2.tape,hn2.size,hn2.block⟩)
end Go.Proofs.YtbhnjkegkadodaaGreatDoor

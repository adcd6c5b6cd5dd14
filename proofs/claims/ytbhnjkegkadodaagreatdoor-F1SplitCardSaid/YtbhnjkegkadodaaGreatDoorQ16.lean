/- A part of the proof of the statement of this seat: no condition. -/
import Derived.Test.YtbhnjkegkadodaaGreatDoorQ10
import Derived.Test.YtbhnjkegkadodaaGreatDoorQ02
import Derived.Test.YtbhnjkegkadodaaGreatDoorQ13
import Derived.Test.YtbhnjkegkadodaaGreatDoorQ15
import Derived.Test.YtbhnjkegkadodaaGreatDoorQ12
import Derived.Test.YtbhnjkegkadodaaGreatDoorQ14
import Derived.Test.YtbhnjkegkadodaaGreatDoorQ11
set_option linter.unusedVariables false
set_option linter.unusedSimpArgs false
set_option maxRecDepth 100000
set_option maxHeartbeats 8000000
namespace Go.Proofs.YtbhnjkegkadodaaGreatDoor
open Go Go.RowKit Go.Proofs Gl
theorem under_c {w:World} (kind:Int) (hd md a:Nat) (hf:∀W,Calls Tryz.prog 173 #[.int .i64 kind] W fun e w'=>e=.returned (.tuple #[.agg #[.int .u8 (hd:Int),.int .u8 (md:Int),.bool true,.bool true,.bool false],.bool true])/\Ex.Fresh W w') (h1:hd<256) (h2:md<256) (h0:0<md) (ha:a<18446744073709551616):
 Calls Tryz.prog 115 #[.int .i64 kind,.int .u64 (a:Int)] w fun e w'=>∃A c,e=.returned (.tuple #[.slice A 10 c,.int .i64 0])/\By w' A 10 c (hd :: (be 8 a ++ [md]))/\New w w'/\∀x,A=some x->w.heap.size<=x.block:=by
 have HF:=Lib.hid (hf w)
 have HFI:=Lib.hid (fun W=>first_10 (w:=W) hd md a true h1 h2 h0 ha)
 have hs:Small (hd :: (be 8 a ++ [md])):=by
  intro x hx
  rcases List.mem_cons.1 hx with rfl|hx
  · exact h1
  · rcases List.mem_append.1 hx with hx|hx
    · exact be_small _ _ x hx
    · simp at hx;subst hx;exact h2
 have HS:=Lib.hid hs
 clear hf h1 h2 h0 ha hs
 go_enter Tryz.func115,Tryz.ntmps115
 go_upto_region 2 with(go_at_call 173;refine HF.out.mono ?_;rintro e W2 ⟨rfl,hf2⟩;have HF2:=Lib.hid (new_of_fresh hf2);clear HF hf2)
 obtain⟨W3,hW3⟩:∃W3,W3=W2.alloc (.cells #[.int .u8 (hd:Int),.int .u8 (md:Int),.bool true,.bool true,.bool false] 254):=⟨_,rfl⟩
 rw[<-hW3]
 have n3:New w W3:=by rw[hW3];exact HF2.out.trans (Upd.alloc _ _ _)
 have b3:=Ex.alloc_new W2 (.cells #[.int .u8 (hd:Int),.int .u8 (md:Int),.bool true,.bool true,.bool false] 254)
 rw[<-hW3]at b3
 have x0:=cell_of b3 0 _ rfl;have x1:=cell_of b3 1 _ rfl;have x2:=cell_of b3 2 _ rfl;have x3:=cell_of b3 3 _ rfl;have x4:=cell_of b3 4 _ rfl
 have N3:=Lib.hid n3
 clear b3 n3 hW3
 go_wp2_with (go_at_call 174;refine(HFI.out W3).mono ?_;rintro e W5 ⟨A5,c5,rfl,ho5,hn5⟩;have H5:=Lib.hid (And.intro ho5 hn5);clear ho5 hn5)
 go_ret2
 obtain⟨ho5,hn5⟩:=H5.out
 exact⟨A5,c5,rfl,By.of_own ho5 HS.out,N3.out.trans hn5,fun x hx=>Nat.le_trans N3.out.size (ho5.lt x.block (by rw[hx];rfl)).1⟩
theorem cloneb_c {w:World} {g o m c:Nat} {bs:Bs} (h:By w (some ⟨g,o,none⟩) m c bs) (hm:0<m) (hn:m<=1048576):
 Calls Tryz.prog 176 #[.slice (some ⟨g,o,none⟩) m c] w fun e w'=>∃g' c',e=.returned (.slice (some ⟨g',0,none⟩) m c')/\w.heap.size<=g'/\w'.ownsRow w.heap.size 5 1 (.slice (some ⟨g',0,none⟩) m c') m (bs.map Gl.u8)/\New w w':=by
 obtain⟨i0,hi0,hz0,hz1,hz2⟩:=info_parts info5
 have hu:New w (w.alloc (.cells #[] 5)):=Upd.alloc _ _ _
 have hsrc:Gl.Src (w.alloc (.cells #[] 5)) (some ⟨g,o,none⟩) m (bs.map Gl.u8):=Gl.Src.of_sl (h.new hu).sl
 have hown:(w.alloc (.cells #[] 5)).ownsRow w.heap.size 5 1 (.slice (some ⟨w.heap.size,0,none⟩) 0 0) 0 []:=World.ownsRow_made w #[] 0 (Nat.le_refl _) (by simp[maxLen]) (by simp)
 have hlen:=h.len
 have hnil:=Lib.run_eql_slice_nil (P:=Tryz.prog) w 113 5 (some ⟨g,o,none⟩) m c 0 0 Tryz.underlying113
 have HN:=Lib.hid hn;have HS:=Lib.hid hsrc;have HO:=Lib.hid hown;have HL:=Lib.hid hlen;have HM:=Lib.hid hm;have HU:=Lib.hid hu
 clear h hm hn hu hsrc hown hlen
 go_enter Tryz.func176,Tryz.ntmps176
 go_wp2_with (at_builtin
              refine wpList_append_src _ rfl _ _ _ rfl w.heap.size 5 i0 _ 1 1 Tryz.underlying113 hi0 hz0 hz1 hz2 rfl (by omega) (.slice (some ⟨w.heap.size,0,none⟩) 0 0) 0 [] rfl HO.out _ _ _ (bs.map Gl.u8) rfl (by simp[HL.out]) HS.out (oneCell_u8 _) (by have:=HN.out;simp only[maxLen];omega) (by have:=HN.out;omega) (by show _<=(w.heap.push _).size;simp) ?_
              intro A' c' w1 hown1 hg1 hat1)
 go_ret
 simp only[Nat.zero_add,List.nil_append]at hown1 hat1
 have hM:=HM.out
 obtain⟨g',cap,cur,e,h2,_⟩:∃g cap cur,Value.slice A' m c'=.slice (some ⟨g,0,none⟩) m cap/\w.heap.size<=g/\w1.heap[g]?=some (.cells cur 5 (0,0)):=by
  rcases hown1.2 with⟨_,h0⟩|⟨g,cap,cur,e,h2,h3,_⟩
  · omega
  · exact⟨g,cap,cur,e,h2,h3⟩
 injection e with e1 e2 e3
 subst e1 e3
 refine⟨g',c',by simp,h2,hown1,HU.out.then (Upd.of_grown (S:=fun b=>b=w.heap.size) hg1 (fun c hc=>by simpa[Value.ownBlock] using hc.symm)) (fun c hc e=>by omega)⟩
theorem small_set {bs:Bs} (h:Small bs) (i:Nat) {x:Nat} (hx:x<256):Small (bs.set i x):=by
 intro y hy
 rcases List.mem_or_eq_of_mem_set hy with hy|rfl
 · exact h y hy
 · exact hx
theorem next_c {w:World} {A:Option Addr} {c:Nat} {bs:Bs} (h:By w A 10 c bs) {y:Nat} (hy:bs[9]?=some y) (hy1:y<255):
 Calls Tryz.prog 117 #[.slice A 10 c] w fun e w'=>∃A' c',e=.returned (.slice A' 10 c')/\By w' A' 10 c' (bs.set 9 (y+1))/\New w w':=by
 obtain⟨g,o,rfl,_⟩:=h.addr (by omega)
 have hc9:w.cell? ⟨g,o+9,none⟩=some (.int .u8 (y:Int)):=by
  have:=Sl.cell h.sl rfl (i:=9) (v:=Gl.u8 y) (by rw[List.getElem?_map,hy];rfl)
  exact this
 have hcl:=cloneb_c h (by omega) (by omega)
 have hcap:=h.sl.le
 have hmax:=h.sl.max
 have HCL:=Lib.hid hcl;have HY:=Lib.hid hy;have HSM:=Lib.hid h.small
 have hne:((y:Int) == 255)=false:=by simp;omega
 have hwy:IntKind.u8.wrap ((y:Int)+1)=((y+1:Nat):Int):=by rw[IntKind.wrap_u8];omega
 clear hcl hy h
 go_enter Tryz.func117,Tryz.ntmps117
 go_wp2
 go_loopw [3] (fun s wr=>s=.int .i64 10/\wr=w) (fun _ _=>0)
 case atStart=>exact⟨rfl,rfl⟩
 case round=>
  obtain⟨rfl,rfl⟩:=hrel
  go_upto_region 7 with(go_at_call 176;refine HCL.out.mono ?_;rintro e w1 ⟨g',c',rfl,hg',ho,hn⟩;have H1:=Lib.hid (And.intro ho hn);clear HCL ho hn)
  obtain⟨ho,hn⟩:=H1.out
  have x9:w1.cell? ⟨g',9,none⟩=some (.int .u8 (y:Int)):=own_cell ho (j:=9) (by rw[List.getElem?_map,HY.out];rfl)
  have y9:w1.frozen? ⟨g',9,none⟩=false:=by
   obtain⟨cur,h1,h2,_⟩:=own_blk ho
   exact frozen_of h1 9
  have hset:=ownsRow_set ho (i:=9) (by omega) (.int .u8 ((y:Int)+1))
  have hu:Upd (fun b=>b=g') w1 (w1.setCell ⟨g',9,none⟩ (.int .u8 ((y:Int)+1))):=Upd.setCell w1 _ rfl
  have HE:=Lib.hid (And.intro hset (hn.then hu (fun b hb e=>by have e:b=g':=e;omega)))
  clear hset hu ho hn
  go_wp2
  go_ret
  obtain⟨hset,hu⟩:=HE.out
  refine⟨some ⟨g',0,none⟩,c',rfl,By.of_own (e:=5) (base:=wr.heap.size) ?_ (small_set HSM.out 9 (by omega)),hu⟩
  rw[List.map_set]
  exact hset
end Go.Proofs.YtbhnjkegkadodaaGreatDoor
namespace Go.Proofs.YtbhnjkegkadodaaGreatDoor
open Go Go.RowKit Go.Proofs Gl Go.Shelf
attribute [local go_sem] Oper.semAt_some
structure CutK (F:Nat->Prop) (bs fp lp ip sp fr la:Nat) (L:List Ent) (W:World):Prop where
 sf:SF F bs W L
 b1:W.cell? ⟨fp,0,none⟩=some (.int .u64 (fr:Int))
 b2:W.cell? ⟨lp,0,none⟩=some (.int .u64 (la:Int))
 b3:W.cell? ⟨ip,0,none⟩=some (.int .u64 16)
 b4:W.cell? ⟨sp,0,none⟩=some (.pointer (some ⟨bs,0,none⟩))
 n1:fp≠bs
 n2:lp≠bs
 n3:ip≠bs
 n4:sp≠bs
theorem CutK.upd {F:Nat->Prop} {bs fp lp ip sp fr la:Nat} {L:List Ent} {W W':World} (h:CutK F bs fp lp ip sp fr la L W) (hu:Upd (fun b=>b=bs) W W') (hs:SF F bs W' L):CutK F bs fp lp ip sp fr la L W':=
 ⟨hs,(hu.cell (a:=⟨fp,0,none⟩) (World.block_lt_of_cell? W _ h.b1) h.n1).trans h.b1,(hu.cell (a:=⟨lp,0,none⟩) (World.block_lt_of_cell? W _ h.b2) h.n2).trans h.b2,(hu.cell (a:=⟨ip,0,none⟩) (World.block_lt_of_cell? W _ h.b3) h.n3).trans h.b3,(hu.cell (a:=⟨sp,0,none⟩) (World.block_lt_of_cell? W _ h.b4) h.n4).trans h.b4,h.n1,h.n2,h.n3,h.n4⟩
theorem CutK.new {F:Nat->Prop} {bs fp lp ip sp fr la:Nat} {L:List Ent} {W W':World} (h:CutK F bs fp lp ip sp fr la L W) (hu:New W W'):CutK F bs fp lp ip sp fr la L W':=h.upd (hu.mono (fun _ _ h=>h.elim)) (h.sf.new hu)
def noPanic (Q:Exit->Act->World->Prop):Exit->Act->World->Prop
 | .panic _,_,_=>False
 | .outgrown,_,_=>False
 | e,a,w=>Q e a w
theorem noPanic_of {Q:Exit->Act->World->Prop} {e:Exit} {a:Act} {w:World} (h:noPanic Q e a w):Q e a w:=by
 cases e with
 | panic _=>exact h.elim
 | outgrown=>exact h.elim
 | _=>exact h
theorem low_of {S:F1.Sta} (hc:S.c=[]) (p:Nat):∀e ∈ F1.ents S,blt e.1 (F1.ck p)=true:=by
 intro e he
 unfold F1.ents at he
 rw[hc]at he
 simp only[List.map_nil,List.append_nil,List.mem_map]at he
 obtain⟨x,_,rfl⟩:=he
 exact F1.blt_hc _ _
theorem cuts1_none {F:Nat->Prop} {bs fp lp ip sp fr la:Nat} {S:F1.Sta} (hS:Okay S) (hc:S.c=[]) (hfr:fr+1<18446744073709551616) (l:Nat) (W:World) (hK:CutK F bs fp lp ip sp fr la (F1.ents S) W):
 Calls Tryz.prog 114 (#[.func (.yield l) #[] #[]] ++ #[.pointer (some ⟨fp,0,none⟩),.pointer (some ⟨lp,0,none⟩),.pointer (some ⟨ip,0,none⟩),.pointer (some ⟨sp,0,none⟩)]) W fun e W'=>(∃v,e=.returned v)/\Upd (fun b=>b=bs) W W'/\CutK F bs fp lp ip sp fr la (F1.ents S) W':=by
 obtain⟨WA,hWA⟩:∃WA,WA=W.alloc (.cells #[.func (.yield l) #[] #[]] 188):=⟨_,rfl⟩
 have hal:New W WA:=by rw[hWA];exact Upd.alloc _ _ _
 have hKA:=hK.new hal
 have k1:=hKA.b1;have k2:=hKA.b2;have k3:=hKA.b3;have k4:=hKA.b4
 have hlow:=low_of hc (fr+1)
 have hlen:=hS.len
 have HK:=Lib.hid hK;have HKA:=Lib.hid hKA;have HAL:=Lib.hid hal;have HLOW:=Lib.hid hlow;have HLEN:=Lib.hid hlen;have HFR:=Lib.hid hfr
 clear hK hKA hal hlow hlen hS hc
 refine(callsIn_wide (n:=0)).1 ?_
 refine callsIn_of_wp_marks Tryz.func114 rfl trivial ?_ rfl
 simp only[Tryz.ntmps114,List.size_toArray,List.length_cons,List.length_nil,Nat.reduceAdd,Nat.reduceSub,Array.replicate_succ,Array.replicate_zero,List.push_toArray,List.append_toArray,List.nil_append,List.cons_append]
 refine wpIn_mono (Q:=noPanic _) ?_ (fun e a w h=>noPanic_of h)
 refine(wpIn_wide (n:=0)).2 ?_
 go_upto_region 1 with fail
 rw[<-hWA]
 clear hWA
 by_cases hge:la<=fr
 · have hg:decide ((fr:Int) ≥ (la:Int))=true:=by simp;omega
   go_wp2
   exact⟨_,results_none rfl _ _ _,⟨_,rfl⟩,HAL.out.mono (fun _ _ h=>h.elim),HKA.out⟩
 · have hg:decide ((fr:Int) ≥ (la:Int))=false:=by simp;omega
   have HUN:=Lib.hid (fun W=>under_c (w:=W) 8 118 115 16 form8 (by decide) (by decide) (by decide) (by decide))
   have HKE:=Lib.hid (fun W=>keyC (w:=W) (fr+1) HFR.out)
   have hwf:IntKind.u64.wrap ((fr:Int)+1)=((fr+1:Nat):Int):=by have:=HFR.out;rw[IntKind.wrap_u64];omega
   go_upto_region 3 with(go_at_call 115;refine(HUN.out WA).mono ?_;rintro e Wb ⟨Ah,ch,rfl,hbh,hnb,hath⟩;have HB:=Lib.hid (And.intro hbh hnb);clear HUN hbh hnb hath)
   have hKB:=HKA.out.new HB.out.2
   have m1:=hKB.b1;have m3:=hKB.b3;have m4:=hKB.b4
   have HKB:=Lib.hid hKB
   have hkeep:∀W',New Wb W'->W'.cell? ⟨sp,0,none⟩=some (.pointer (some ⟨bs,0,none⟩))/\W'.cell? ⟨ip,0,none⟩=some (.int .u64 16)/\W'.cell? ⟨fp,0,none⟩=some (.int .u64 (fr:Int)):=fun W' hn=>⟨(HKB.out.new hn).b4,(HKB.out.new hn).b3,(HKB.out.new hn).b1⟩
   have HKP:=Lib.hid hkeep
   clear hkeep hKB
   obtain⟨base,bm,D,A,n,c,vs,ps,g1,g2,g3,g4,g5,g6⟩:=HKB.out.sf
   obtain⟨css,gc⟩:=g2.named
   have hps:ps.flatten.length<=1000000:=by rw[g6];exact HLEN.out
   have hpl:∀e ∈ ps.flatten,blt e.1 (F1.ck (fr+1))=true:=by rw[g6];exact HLOW.out
   have HG:=Lib.hid (And.intro g1 (And.intro gc (And.intro g3 (And.intro g4 (And.intro g5 g6)))));have HPS:=Lib.hid hps;have HPL:=Lib.hid hpl
   clear g1 g2 g3 g4 g5 g6 gc hps hpl
   go_region_held (fun w'=>w'.cell? ⟨sp,0,none⟩=some (.pointer (some ⟨bs,0,none⟩))/\w'.cell? ⟨ip,0,none⟩=some (.int .u64 16)/\w'.cell? ⟨fp,0,none⟩=some (.int .u64 (fr:Int))) (go_keep) (first
    | (go_at_call 78
       refine(HKE.out _).mono ?_
       rintro e Wc ⟨Ak,ck,rfl,hk,hnc,hat⟩
       have nc:New Wb Wc:=(Upd.refl _ Wb).drew.trans hnc
       obtain⟨f1,f2,f3⟩:=HKP.out _ nc
       have HC:=Lib.hid (And.intro hk nc)
       clear hk hnc nc hat)
    | (go_at_call 117
       refine(next_c (HB.out.1.new HC.out.2) (y:=115) (by rfl) (by decide)).mono ?_
       rintro e Wd ⟨At,ct,rfl,ht,hnd⟩
       have nd:New Wb Wd:=HC.out.2.trans hnd
       obtain⟨i1,i2,i3⟩:=HKP.out _ nd
       have HD:=Lib.hid (And.intro ht (And.intro nd (HC.out.1.new hnd)))
       clear ht hnd nd)
    | (go_at_call 116
       refine(kwalkft_c (HG.out.1.upd HD.out.2.1 id) HD.out.2.2 HD.out.1 (by decide) (by decide)).mono ?_
       rintro e We ⟨p1,p2,b1,b2,b3,A1,c1,A2,c2,rfl,hne,hge5,q1,q2,q3,q4,q5,q6,q7⟩
       have ne:New Wb We:=HD.out.2.1.trans hne
       obtain⟨j1,j2,j3⟩:=HKP.out _ ne
       have HE:=Lib.hid (And.intro ne (And.intro hge5 (And.intro q1 (And.intro q2 (And.intro q3 (And.intro q4 (And.intro q5 (And.intro q6 HD.out.2.1.size))))))))
       clear ne hne hge5 q1 q2 q3 q4 q5 q6 q7))
   clear f1 f2 f3 i1 i2 i3 j1 j2 j3 m1 m3 m4
   go_wp2
   refine(wpIn_wide (n:=0)).1 ?_
   obtain⟨hne,⟨h1,h2,h3,h4,h5⟩,q1,q2,q3,q4,q5,q6,hsd⟩:=HE.out
   obtain⟨g1,gc,g3,g4,g5,g6⟩:=HG.out
   have hbsl:bs<Wb.heap.size:=g1.lt
   have hfrom:By We A1 18 c1 (F1.ck (fr+1))/\∀a,A1=some a → 0<18->Wb.heap.size<=a.block:=by
    obtain⟨_,_,_,e,hb,h⟩:=q6
    cases e
    exact⟨hb,fun a ha h0=>by have:=h a ha h0;omega⟩
   have hfl:∀b,foot bm D A n c vs b->b<Wb.heap.size/\b≠bs:=fun b hb=>by
    have:=g4 b (g3 b hb)
    exact⟨by omega,this.2⟩
   have hsb:=hne.size
   have hcnt:CntK base bm n c b1 b2 b3 18 c1 10 c2 bs p1 p2 D A A1 A2 vs ps css (F1.ck (fr+1)) We:=⟨⟨gc.upd hne (fun _ _=>id),q3,q4,q5,hfrom.1⟩,q1,q2,g1.upd hne id⟩
   have hseq:=fun l2 W2 hk=>counted_none (base:=base) (bm:=bm) (n:=n) (c:=c) (b1:=b1) (b2:=b2) (b3:=b3) (nf:=18) (cf:=c1) (nt:=10) (ct:=c2) (bs:=bs) (p1:=p1) (p2:=p2) (D:=D) (A:=A) (Af:=A1) (At:=A2) (vs:=vs) (ps:=ps) (css:=css) (fk:=F1.ck (fr+1)) HPS.out HPL.out (fun h=>(hfl bs h).2 rfl) ⟨by omega,by omega,by omega,by omega,by omega⟩ (fun a ha h0=>by have:=hfrom.2 a ha h0;omega) l2 W2 hk
   have lb1:=World.block_lt_of_cell? We _ q1
   have lb2:=World.block_lt_of_cell? We _ q2
   have lb3:=World.block_lt_of_cell? We _ q3
   have lb4:=World.block_lt_of_cell? We _ q4
   have lb5:=World.block_lt_of_cell? We _ q5
   have hfa:∀a,A1=some a → 0<18->a.block<We.heap.size:=fun a ha h0=>by
    obtain⟨_,_,_,e,_,h⟩:=BV.of hfrom.1
    cases e
    exact h a ha h0
   have HNE:=Lib.hid hne;have HFL:=Lib.hid hfl;have HCT:=Lib.hid hcnt
   refine range_nil (S:=fun b=>b=bs) (Kp:=CntK base bm n c b1 b2 b3 18 c1 10 c2 bs p1 p2 D A A1 A2 vs ps css (F1.ck (fr+1))) (gf:=234) (lb:=#[.pointer (some ⟨p1,0,none⟩),.pointer (some ⟨p2,0,none⟩)]) rfl (fun args w=>enters_of' 234 Tryz.func234 (by kernel_rfl) (by kernel_rfl) args w)
    hseq (fun b h=>by omega) (fun P Q hk hu=>hk.upd hu (fun b hb=>by have:=hfl b hb;omega) (by simp only at lb3;omega) (by simp only at lb4;omega) (by simp only at lb5;omega) (fun a ha h0=>by have:=hfa a ha h0;omega) (by simp only at lb1;omega) (by simp only at lb2;omega) (hk.sto.upd hu (by omega))) hcnt ?done
   case done=>
    rintro V hu hsz hd hk
    gi_wp2
    show LeavesInM _ _ _ _ _ _ _ _ _
    refine⟨by simp,.inl ⟨_,_,rfl,run_takeDeferred hd,?_⟩⟩
    have hput:Upd (fun b=>b=We.heap.size) V (V.putObj We.heap.size (.deferred none)):=Upd.putObj V _ rfl
    have hkV:=hk.upd hput (fun b hb e=>by have:=HFL.out b hb;omega) (by omega) (by omega) (by omega) (fun a ha h0=>by have:=hfa a ha h0;omega) (by omega) (by omega) (hk.sto.upd hput (by omega))
    have hU:Upd (fun b=>b=bs) W (V.putObj We.heap.size (.deferred none)):=((((HAL.out.trans HB.out.2).trans HNE.out).mono (fun _ _ h=>h.elim)).trans hu).then hput (fun b hb e=>by have e:b=We.heap.size:=e;have:=(HAL.out.trans HB.out.2).size;omega)
    have hWV:=hU.size
    refine⟨_,results_none rfl _ _ _,⟨_,rfl⟩,hU,HK.out.upd hU ?_⟩
    have hsz2:=hput.size
    have hWs:We.heap.size<=(V.putObj We.heap.size (.deferred none)).heap.size:=by omega
    exact⟨base,bm,D,A,n,c,vs,ps,hkV.sto,hkV.wlk.map.map,g3,fun b hb=>⟨by have:=g4 b hb;omega,(g4 b hb).2⟩,by omega,g6⟩
end Go.Proofs.YtbhnjkegkadodaaGreatDoor
namespace Go.Proofs.YtbhnjkegkadodaaGreatDoor
open Go Go.RowKit Go.Proofs Gl
theorem cuts_c {w:World} {bs fr la:Nat}:
 Calls Tryz.prog 62 #[.pointer (some ⟨bs,0,none⟩),.int .u64 16,.int .u64 (fr:Int),.int .u64 (la:Int)] w fun e w'=>e=.returned (.func (.func 114) #[] #[.pointer (some ⟨w.heap.size+1+1,0,none⟩),.pointer (some ⟨w.heap.size+1+1+1,0,none⟩),.pointer (some ⟨w.heap.size+1,0,none⟩),.pointer (some ⟨w.heap.size,0,none⟩)])/\New w w' /\
  w'.cell? ⟨w.heap.size+1+1,0,none⟩=some (.int .u64 (fr:Int))/\w'.cell? ⟨w.heap.size+1+1+1,0,none⟩=some (.int .u64 (la:Int))/\w'.cell? ⟨w.heap.size+1,0,none⟩=some (.int .u64 16)/\w'.cell? ⟨w.heap.size,0,none⟩=some (.pointer (some ⟨bs,0,none⟩)):=by
 obtain⟨W3,hW3,hn,hs,k0,k1,k2⟩:=box3 w (.pointer (some ⟨bs,0,none⟩)) (.int .u64 16) (.int .u64 (fr:Int)) 34 22 22
 obtain⟨W4,hW4⟩:∃W4,W4=W3.alloc (.cells #[.int .u64 (la:Int)] 22):=⟨_,rfl⟩
 have n4:New W3 W4:=by rw[hW4];exact Upd.alloc _ _ _
 have k3:=Ex.alloc_new W3 (.cells #[.int .u64 (la:Int)] 22)
 rw[<-hW4,hs]at k3
 have HE:=Lib.hid (show New w W4/\W4.cell? ⟨w.heap.size+1+1,0,none⟩=some (.int .u64 (fr:Int))/\W4.cell? ⟨w.heap.size+1+1+1,0,none⟩=some (.int .u64 (la:Int))/\W4.cell? ⟨w.heap.size+1,0,none⟩=some (.int .u64 16)/\W4.cell? ⟨w.heap.size,0,none⟩=some (.pointer (some ⟨bs,0,none⟩)) from
  ⟨hn.trans n4,cell_of ((n4.block _ (by omega) id).trans k2) 0 _ rfl,cell_of k3 0 _ rfl,cell_of ((n4.block _ (by omega) id).trans k1) 0 _ rfl,cell_of ((n4.block _ (by omega) id).trans k0) 0 _ rfl⟩)
 clear hn hs k0 k1 k2 k3 n4
 go_enter Tryz.func62,Tryz.ntmps62
 go_upto_region 1 with fail
 rw[<-hW3,<-hW4]
 clear hW3 hW4
 go_wp2
 go_ret
 exact⟨by simp,HE.out⟩
theorem earns_c {Q1 Q2 Q3 F:Nat->Prop} {bs sb ib rb kb tb p x y z:Nat} {w:World} {S:F1.Sta} {R1 R2 R3:Option Addr} {m1 d1 m2 d2 m3 d3:Nat} (hS:Okay S) (hp:p<18446744073709551616) (h:SF F bs w (F1.ents S))
 (hsb:w.cell? ⟨sb,0,none⟩=some (.pointer (some ⟨bs,0,none⟩))) (hib:w.cell? ⟨ib,0,none⟩=some (.int .u64 16)) (hrb:w.heap[rb]?=some (.cells #[.slice R1 m1 d1] 26 (0,0))) (hkb:w.heap[kb]?=some (.cells #[.slice R2 m2 d2] 26 (0,0))) (htb:w.heap[tb]?=some (.cells #[.slice R3 m3 d3] 26 (0,0)))
 (o1:¬F rb/\rb≠bs) (o2:¬F kb/\kb≠bs) (o3:¬F tb/\tb≠bs) (n1:rb≠kb) (n2:rb≠tb) (n3:kb≠tb)
 (l1:LQ (fun b=>b≠bs) w R1 m1 d1 x) (l2:LQ (fun b=>b≠bs) w R2 m2 d2 y) (l3:LQ (fun b=>b≠bs) w R3 m3 d3 z) (hz:z<=(F1.hist S p).1) (hb1:y*((F1.hist S p).1-z)<Gn.B ^ 1000) (hb2:x+y*((F1.hist S p).1-z) / 10 ^ 36<Gn.B ^ 1000):
 Calls Tryz.prog 59 #[.int .u64 (p:Int),.pointer (some ⟨sb,0,none⟩),.pointer (some ⟨ib,0,none⟩),.pointer (some ⟨rb,0,none⟩),.pointer (some ⟨kb,0,none⟩),.pointer (some ⟨tb,0,none⟩)] w fun e w'=>e=.returned (.tuple #[])/\SF F bs w' (F1.ents S)/\Upd (fun b=>b=bs\/b=rb\/b=tb) w w' /\
  ∃R m d R' m' d',w'.heap[rb]?=some (.cells #[.slice R m d] 26 (0,0))/\LN (fun b=>w.heap.size<=b) w' R m d (x+y*((F1.hist S p).1-z) / 10 ^ 36)/\w'.heap[tb]?=some (.cells #[.slice R' m' d'] 26 (0,0))/\LN (fun b=>w.heap.size<=b) w' R' m' d' (F1.hist S p).1:=by
 have hh:=history_c hS hp h
 obtain⟨hr,hhr⟩:∃hr,hr=(F1.hist S p).1:=⟨_,rfl⟩
 obtain⟨hc,hhc⟩:∃hc,hc=(F1.hist S p).2:=⟨_,rfl⟩
 rw[<-hhr,<-hhc]at hh
 rw[<-hhr]at hz hb1 hb2 ⊢
 have lr:rb<w.heap.size:=(Array.getElem?_eq_some_iff.1 hrb).1
 have lk:kb<w.heap.size:=(Array.getElem?_eq_some_iff.1 hkb).1
 have lt:tb<w.heap.size:=(Array.getElem?_eq_some_iff.1 htb).1
 have HH:=Lib.hid hh;have HBL:=Lib.hid (And.intro hrb (And.intro hkb htb));have HO:=Lib.hid (And.intro o1 (And.intro o2 o3));have HL:=Lib.hid (And.intro l1 (And.intro l2 l3));have HZ:=Lib.hid (And.intro hz (And.intro hb1 hb2));have HBS:=Lib.hid h.bs_lt
 have HNE:=Lib.hid (And.intro n1 (And.intro n2 n3));have HLT:=Lib.hid (And.intro lr (And.intro lk lt))
 clear hh hrb hkb htb o1 o2 o3 l1 l2 l3 hz hb1 hb2 h hS hhr hhc n1 n2 n3 lr lk lt hp
 go_enter Tryz.func59,Tryz.ntmps59
 have hfl:=fun W' R m d=>field120 W' R m d (hc:Int)
 go_upto_region 1 with(go_at_call 58;refine HH.out.mono ?_;rintro e w1 ⟨Re,me,de,rfl,hre,hsf1,hu1⟩;have H1:=Lib.hid (And.intro hre (And.intro hsf1 hu1));clear HH hre hsf1 hu1)
 obtain⟨hre,hsf1,hu1⟩:=H1.out
 obtain⟨W2,hW2⟩:∃W2,W2=w1.alloc (.cells #[.slice Re me de] 26):=⟨_,rfl⟩
 rw[<-hW2]
 have n2:New w1 W2:=by rw[hW2];exact Upd.alloc _ _ _
 have b7:=Ex.alloc_new w1 (.cells #[.slice Re me de] 26)
 rw[<-hW2]at b7
 have s2:W2.heap.size=w1.heap.size+1:=by rw[hW2];exact alloc_size _ _
 have u2:Upd (fun b=>b=bs) w W2:=hu1.trans (n2.mono (fun _ _ h=>h.elim))
 have hs1:=hu1.size
 have hlt:=HLT.out
 have ho:=HO.out
 have kr:=(u2.block rb hlt.1 ho.1.2).trans HBL.out.1
 have kk:=(u2.block kb hlt.2.1 ho.2.1.2).trans HBL.out.2.1
 have kt:=(u2.block tb hlt.2.2 ho.2.2.2).trans HBL.out.2.2
 have cr:=cell_of kr 0 _ rfl
 have ck:=cell_of kk 0 _ rfl
 have ct:=cell_of kt 0 _ rfl
 have c7:=cell_of b7 0 _ rfl
 have lre:LN (fun b=>w.heap.size<=b/\b<w1.heap.size) W2 Re me de hr:=(hre.mono (Q':=fun b=>w.heap.size<=b/\b<w1.heap.size) (fun b hb hq=>⟨hq,hb⟩)).new n2
 have lr2:=HL.out.1.upd u2 (fun b hb e=>hb e)
 have lk2:=HL.out.2.1.upd u2 (fun b hb e=>hb e)
 have lt2:=HL.out.2.2.upd u2 (fun b hb e=>hb e)
 have HK:=Lib.hid (fun(W':World) (hn:New W2 W')=>(⟨(hn.cell (a:=⟨kb,0,none⟩) (World.block_lt_of_cell? W2 _ ck) id).trans ck,(hn.cell (a:=⟨w1.heap.size,0,none⟩) (World.block_lt_of_cell? W2 _ c7) id).trans c7,(hn.cell (a:=⟨tb,0,none⟩) (World.block_lt_of_cell? W2 _ ct) id).trans ct,(hn.cell (a:=⟨rb,0,none⟩) (World.block_lt_of_cell? W2 _ cr) id).trans cr⟩:W'.cell? ⟨kb,0,none⟩=some (.slice R2 m2 d2)/\W'.cell? ⟨w1.heap.size,0,none⟩=some (.slice Re me de)/\W'.cell? ⟨tb,0,none⟩=some (.slice R3 m3 d3)/\W'.cell? ⟨rb,0,none⟩=some (.slice R1 m1 d1)))
 have H2:=Lib.hid (And.intro u2 (And.intro (hsf1.new n2) (And.intro kr (And.intro kt (And.intro b7 (And.intro s2 hs1))))));have HLL:=Lib.hid (And.intro lre (And.intro lr2 (And.intro lk2 lt2)))
 have hkw:kb≠w1.heap.size/\tb≠w1.heap.size/\rb≠w1.heap.size:=⟨by omega,by omega,by omega⟩
 have HKW:=Lib.hid hkw
 clear hre hsf1 hu1 hW2 n2 b7 s2 u2 hs1 hlt ho kr kk kt lre lr2 lk2 lt2 hkw
 have hS0:=HK.out W2.drew ((Upd.refl _ W2).drew)
 refine beginK 7 (fun w'=>w'.cell? ⟨kb,0,none⟩=some (.slice R2 m2 d2)/\w'.cell? ⟨w1.heap.size,0,none⟩=some (.slice Re me de)/\w'.cell? ⟨tb,0,none⟩=some (.slice R3 m3 d3)/\w'.cell? ⟨rb,0,none⟩=some (.slice R1 m1 d1)) (by kernel_rfl) (fun hcl=>?_)
 refine takeK 0 [0] (oi:={ dst:=some 13,op:=Op.load 26 (Operand.tmp 3),type:=26,pos := "f1.go:110",after:=#[],guard:=none }) rfl (by kernel_rfl) (by kernel_rfl) (by kernel_rfl) (by kernel_rfl) hcl (fun _ _ _ h=>h) (v:=.agg #[.slice R1 m1 d1]) (Or.inl ⟨by rfl,?_⟩) hS0 (fun hcl2=>?_)
 · rintro w' ⟨y1,y2,y3,y4⟩
   go_simp
 simp only[Act.put,List.setIfInBounds_toArray,List.set_cons_zero,List.set_cons_succ]
 replace hcl:=hcl2
 clear hcl2
 refine takeK 1 [1] (oi:={ dst:=some 14,op:=Op.load 26 (Operand.tmp 4),type:=26,pos := "f1.go:110",after:=#[],guard:=none }) rfl (by kernel_rfl) (by kernel_rfl) (by kernel_rfl) (by kernel_rfl) hcl (fun _ _ _ h=>h) (v:=.agg #[.slice R2 m2 d2]) (Or.inl ⟨by rfl,?_⟩) hS0 (fun hcl2=>?_)
 · rintro w' ⟨y1,y2,y3,y4⟩
   go_simp
 simp only[Act.put,List.setIfInBounds_toArray,List.set_cons_zero,List.set_cons_succ]
 replace hcl:=hcl2
 clear hcl2
 refine takeK 2 [2] (oi:={ dst:=some 15,op:=Op.load 26 (Operand.tmp 7),type:=26,pos := "f1.go:110",after:=#[],guard:=none }) rfl (by kernel_rfl) (by kernel_rfl) (by kernel_rfl) (by kernel_rfl) hcl (fun _ _ _ h=>h) (v:=.agg #[.slice Re me de]) (Or.inl ⟨by rfl,?_⟩) hS0 (fun hcl2=>?_)
 · rintro w' ⟨y1,y2,y3,y4⟩
   go_simp
 simp only[Act.put,List.setIfInBounds_toArray,List.set_cons_zero,List.set_cons_succ]
 replace hcl:=hcl2
 clear hcl2
 refine takeK 3 [3] (oi:={ dst:=some 16,op:=Op.load 26 (Operand.tmp 5),type:=26,pos := "f1.go:110",after:=#[],guard:=none }) rfl (by kernel_rfl) (by kernel_rfl) (by kernel_rfl) (by kernel_rfl) hcl (fun _ _ _ h=>h) (v:=.agg #[.slice R3 m3 d3]) (Or.inl ⟨by rfl,?_⟩) hS0 (fun hcl2=>?_)
 · rintro w' ⟨y1,y2,y3,y4⟩
   go_simp
 simp only[Act.put,List.setIfInBounds_toArray,List.set_cons_zero,List.set_cons_succ]
 replace hcl:=hcl2
 clear hcl2
 refine oneK 4 (o:={ dst:=some 17,op:=Op.call { callee:=Callee.value (Operand.func 61),args:=#[Operand.tmp 15,Operand.tmp 16],argTypes:=#[26,26] },type:=26,pos := "f1.go:110",after:=#[{ on:=2,ground:=Ground.data },{ on:=3,ground:=Ground.data }],guard:=none }) rfl (by kernel_rfl) hcl (by rfl) (fun K hK=>?_)
 go_simp
 refine(minus_c (HLL.out.1.lq.new ((Upd.refl _ W2).drew)) (HLL.out.2.2.2.new ((Upd.refl _ W2).drew)) HZ.out.1).mono ?_
 rintro e w3 ⟨Ra,ma,da,rfl,hr3,hn3⟩
 have n3:New W2 w3:=Upd.of_drew hn3
 refine hK _ _ (fun _=>HK.out _ n3) (fun hcl2=>?_)
 have H3:=Lib.hid (And.intro hr3 n3)
 clear hr3 hn3 n3 hcl hK K hS0
 try simp only[Act.put,List.setIfInBounds_toArray,List.set_cons_zero,List.set_cons_succ]
 refine oneK 5 (o:={ dst:=some 18,op:=Op.call { callee:=Callee.value (Operand.func 60),args:=#[Operand.tmp 14,Operand.tmp 17],argTypes:=#[26,26] },type:=26,pos := "f1.go:110",after:=#[{ on:=1,ground:=Ground.data },{ on:=4,ground:=Ground.data },{ on:=4,ground:=Ground.chain }],guard:=none }) rfl (by kernel_rfl) hcl2 (by rfl) (fun K hK=>?_)
 go_simp
 refine(dmul_c (HLL.out.2.2.1.new H3.out.2) H3.out.1.lq HZ.out.2.1).mono ?_
 rintro e w4 ⟨Rb,mb,db,rfl,hr4,hn4⟩
 have n4:New W2 w4:=H3.out.2.trans hn4
 refine hK _ _ (fun _=>HK.out _ n4) (fun hcl3=>?_)
 have H4:=Lib.hid (And.intro hr4 n4)
 clear hr4 hn4 n4 hcl2 hK K
 try simp only[Act.put,List.setIfInBounds_toArray,List.set_cons_zero,List.set_cons_succ]
 refine oneK 6 (o:={ dst:=some 19,op:=Op.call { callee:=Callee.value (Operand.func 36),args:=#[Operand.tmp 13,Operand.tmp 18],argTypes:=#[26,26] },type:=26,pos := "f1.go:110",after:=#[{ on:=0,ground:=Ground.data },{ on:=5,ground:=Ground.data },{ on:=5,ground:=Ground.chain }],guard:=none }) rfl (by kernel_rfl) hcl3 (by rfl) (fun K hK=>?_)
 go_simp
 refine(dadd_c (HLL.out.2.1.new H4.out.2) H4.out.1.lq HZ.out.2.2).mono ?_
 rintro e w5 ⟨Rs,ms,ds,rfl,hr5,hn5⟩
 have n5:New W2 w5:=H4.out.2.trans hn5
 refine hK _ _ (fun _=>HK.out _ n5) (fun hcl4=>?_)
 obtain⟨g1,g2,g3,g4⟩:=HK.out _ n5
 have k5:=(n5.block rb (Array.getElem?_eq_some_iff.1 H2.out.2.2.1).1 id).trans H2.out.2.2.1
 have z5:=frozen_of k5 0
 have hst:Upd (fun b=>b=rb) w5 (w5.setCell ⟨rb,0,none⟩ (.slice Rs ms ds)):=Upd.setCell w5 _ rfl
 have i2:=(hst.cell (a:=⟨w1.heap.size,0,none⟩) (World.block_lt_of_cell? w5 _ g2) (Ne.symm HKW.out.2.2)).trans g2
 have i3:=(hst.cell (a:=⟨tb,0,none⟩) (World.block_lt_of_cell? w5 _ g3) (Ne.symm HNE.out.2.1)).trans g3
 have H5:=Lib.hid (And.intro hr5 (And.intro n5 (And.intro (setCell_at k5 (.slice Rs ms ds) (i:=0)) hst)))
 clear hr5 hn5 n5 k5 hst hcl3 hK K
 try simp only[Act.put,List.setIfInBounds_toArray,List.set_cons_zero,List.set_cons_succ]
 refine oneK 7 (o:={ dst:=none,op:=Op.store 26 (Operand.tmp 3) (Operand.tmp 19),type:=0,pos := "f1.go:110",after:=#[{ on:=6,ground:=Ground.data },{ on:=6,ground:=Ground.chain },{ on:=0,ground:=Ground.phase },{ on:=1,ground:=Ground.phase },{ on:=2,ground:=Ground.phase },{ on:=3,ground:=Ground.phase },{ on:=4,ground:=Ground.phase },{ on:=5,ground:=Ground.phase },{ on:=6,ground:=Ground.phase }],guard:=none }) rfl (by kernel_rfl) hcl4 (by rfl) (fun K hK=>?_)
 go_simp
 refine hK _ _ (fun h=>absurd rfl h) (fun _=>?_)
 clear hcl4 hK K
 try simp only[Act.put,List.setIfInBounds_toArray,List.set_cons_zero,List.set_cons_succ]
 refine doneK (by kernel_rfl) ?_ _
 all_goals
   obtain⟨hr5,n5,k6,hst⟩:=H5.out
   obtain⟨u2,hsf2,kr,kt,b7,s2,hs1⟩:=H2.out
   obtain⟨W6,hW6⟩:∃W6,W6=w5.setCell ⟨rb,0,none⟩ (.slice Rs ms ds):=⟨_,rfl⟩
   rw[<-hW6]at k6 hst i2 i3 ⊢
   have kt6:=(hst.block tb (by have:=n5.size;have:=HLT.out;omega) (Ne.symm HNE.out.2.1)).trans ((n5.block tb (by have:=HLT.out;omega) id).trans kt)
   have zt:=frozen_of kt6 0
   have k7:=setCell_at kt6 (.slice Re me de) (i:=0)
   have hst7:Upd (fun b=>b=tb) W6 (W6.setCell ⟨tb,0,none⟩ (.slice Re me de)):=Upd.setCell W6 _ rfl
   have END:=Lib.hid (And.intro k7 (And.intro hst7 (And.intro k6 hst)))
   clear hr5 n5 k6 hst u2 hsf2 kr kt b7 s2 hs1 hW6 kt6 k7 hst7 g1 g2 g3 g4 z5 cr ck ct c7
   go_wp2
   go_end0
   obtain⟨k7,hst7,k6,hst⟩:=END.out
   obtain⟨hr5,n5,_,_⟩:=H5.out
   obtain⟨u2,hsf2,kr,kt,b7,s2,hs1⟩:=H2.out
   have ho:=HO.out
   have hlt:=HLT.out
   have hn5:=n5.size
   have hz5:=hst.size
   have hsf6:SF F bs W6 (F1.ents S):=(hsf2.new n5).upd_off hst (fun b hb e=>ho.1.1 ((show b=rb from e)▸hb)) (fun e=>ho.1.2 e.symm)
   refine⟨rfl,hsf6.upd_off hst7 (fun b hb e=>ho.2.2.1 ((show b=tb from e)▸hb)) (fun e=>ho.2.2.2 e.symm),?_,Rs,ms,ds,Re,me,de,?_,?_,?_,?_⟩
   · exact(u2.mono (fun _ _ e=>.inl e)).trans ((n5.mono (fun _ _ e=>e.elim)).trans ((hst.mono (fun _ _ e=>.inr (.inl e))).trans (hst7.mono (fun _ _ e=>.inr (.inr e)))))
   · exact(hst7.block rb (by omega) HNE.out.2.1).trans k6
   · exact((hr5.upd hst (fun b hb e=>by have e:b=rb:=e;have hb:w4.heap.size<=b:=hb;have:=H4.out.2.size;omega)).upd hst7 (fun b hb e=>by have e:b=tb:=e;have hb:w4.heap.size<=b:=hb;have:=H4.out.2.size;omega)).mono (fun b _ hb=>by have hb:w4.heap.size<=b:=hb;have:=H4.out.2.size;show w.heap.size<=b;omega)
   · exact k7
   · exact(((HLL.out.1.new n5).upd hst (fun b hb e=>by have e:b=rb:=e;have:=hb.1;omega)).upd hst7 (fun b hb e=>by have e:b=tb:=e;have:=hb.1;omega)).mono (fun b _ hb=>hb.1)
def ClaimR (F:Nat->Prop) (bs:Nat) (w:World) (L:List Ent) (x:Nat) (k:Int) (e:Ending) (w':World):Prop:=∃R m d,e=.returned (.tuple #[.agg #[.slice R m d],.int .i64 k])/\SF F bs w' L/\Upd (fun b=>b=bs) w w'/\LN (NB w) w' R m d x
theorem claim_none {F:Nat->Prop} {bs y dp:Nat} {Ad As:Option Addr} {nd cd ns cs:Nat} {w:World} {S:F1.Sta} (V:Val) (hS:Okay S) (hc:S.c=[]) (h:SF F bs w (F1.ents S)) (hy:LQ (fun b=>b≠bs) w As ns cs y) (hp0:0<V.p) (hp:V.p<18446744073709551616) (hdp:dp+1<18446744073709551616) (hle:(F1.hist S dp).1<=(F1.hist S (V.p-1)).1) (hb:y*((F1.hist S (V.p-1)).1-(F1.hist S dp).1)<Gn.B ^ 1000):
 Calls Tryz.prog 19 #[.pointer (some ⟨bs,0,none⟩),.int .u64 16,V.v,delV Ad nd cd dp As ns cs] w (ClaimR F bs w (F1.ents S) (y*((F1.hist S (V.p-1)).1-(F1.hist S dp).1) / 10 ^ 36) 0):=by
 obtain⟨r,t,A2,n2,c2,j,u,b,p,A7,n7,c7,A8,n8,c8,A9,n9,c9⟩:=V
 simp only at hp0 hp hle hb
 unfold Val.v delV
 simp only
 obtain⟨W3,hW3⟩:∃W3,W3=((w.alloc (.cells #[.pointer (some ⟨bs,0,none⟩)] 34)).alloc (.cells #[.int .u64 16] 22)).alloc (.cells #[.int .u64 (r:Int),.int .u64 (t:Int),.slice A2 n2 c2,.bool j,.int .u64 (u:Int),.bool b,.int .u64 (p:Int),.slice A7 n7 c7,.slice A8 n8 c8,.slice A9 n9 c9] 28):=⟨_,rfl⟩
 obtain⟨hn3,hs3,k0,k1,k2⟩:=alloc3' rfl rfl hW3
 obtain⟨W6,hW6⟩:∃W6,W6=((W3.alloc (.cells #[.slice Ad nd cd,.int .u64 (dp:Int),.slice As ns cs] 55)).alloc (.cells #[.slice none 0 0] 26)).alloc (.cells #[.slice none 0 0] 26):=⟨_,rfl⟩
 obtain⟨hn6,hs6,k3,k4,k5⟩:=alloc3' rfl rfl hW6
 replace k0:=(hn6.block w.heap.size (by omega) id).trans k0
 replace k1:=(hn6.block (w.heap.size+1) (by omega) id).trans k1
 replace k2:=(hn6.block (w.heap.size+1+1) (by omega) id).trans k2
 rw[hs3]at k3 k4 k5 hs6
 have hn:=hn3.trans hn6
 obtain⟨q,hq⟩:∃q,q=p-1:=⟨_,rfl⟩
 have hpq:p-1=q:=hq.symm
 rw[hpq]at hle hb ⊢
 have hwq:IntKind.u64.wrap ((p:Int)-1)=(q:Int):=by rw[IntKind.wrap_u64];omega
 have hql:q<18446744073709551616:=by omega
 have hdl:dp<18446744073709551616:=by omega
 obtain⟨X,hX⟩:∃X,X=y*((F1.hist S q).1-(F1.hist S dp).1) / 10 ^ 36:=⟨_,rfl⟩
 have HEA:=Lib.hid (fun(W:World) (sb ib rb kb tb:Nat) (R1 R2 R3:Option Addr) (m1 d1 m2 d2 m3 d3:Nat) h1 h2 h3 h4 h5 h6 o1 o2 o3 n1 n2 n3 l1 l2 l3=>earns_c (Q1:=fun b=>b≠bs) (Q2:=fun b=>b≠bs) (Q3:=fun b=>b≠bs) (F:=F) (bs:=bs) (sb:=sb) (ib:=ib) (rb:=rb) (kb:=kb) (tb:=tb) (p:=q) (x:=0) (y:=y) (z:=(F1.hist S dp).1) (w:=W) (S:=S) (R1:=R1) (R2:=R2) (R3:=R3) (m1:=m1) (d1:=d1) (m2:=m2) (d2:=d2) (m3:=m3) (d3:=d3) hS hql h1 h2 h3 h4 h5 h6 o1 o2 o3 n1 n2 n3 l1 l2 l3 hle hb (by rw[Nat.zero_add];exact Nat.lt_of_le_of_lt (Nat.div_le_self _ _) hb))
 rw[Nat.zero_add,<-hX]at HEA
 rw[<-hX]
 have HSF:=Lib.hid (h.new hn);have HHD:=Lib.hid (fun W' (hsf:SF F bs W' (F1.ents S))=>history_c hS hdl hsf)
 obtain⟨L,hL⟩:∃L,L=F1.ents S:=⟨_,rfl⟩
 have HCU:=Lib.hid (fun(fp lp ip sp:Nat) l W hK=>cuts1_none (F:=F) (bs:=bs) (fp:=fp) (lp:=lp) (ip:=ip) (sp:=sp) (fr:=dp) (la:=q) hS hc hdp l W hK)
 rw[<-hL]at HEA HSF HHD HCU ⊢
 have HK:=Lib.hid (And.intro k0 (And.intro k1 (And.intro k2 (And.intro k3 (And.intro k4 k5)))));have HN:=Lib.hid hn;have HS6:=Lib.hid hs6;have HOF:=Lib.hid (fun b (hb:w.heap.size<=b)=>h.off_new hb);have HY:=Lib.hid (hy.new hn);have HBS:=Lib.hid h.bs_lt
 have c36:=cell_of k2 6 _ rfl
 have c42:=cell_of k3 2 _ rfl
 clear k0 k1 k2 k3 k4 k5 hn hs6 hn3 hs3 hn6 hX hL hS hc h hy hle hb hq hpq
 refine(callsIn_wide (n:=0)).1 ?_
 refine callsIn_of_wp_marks Tryz.func19 rfl trivial ?_ rfl
 simp only[Tryz.ntmps19,List.size_toArray,List.length_cons,List.length_nil,Nat.reduceAdd,Nat.reduceSub,Array.replicate_succ,Array.replicate_zero,List.push_toArray,List.append_toArray,List.nil_append,List.cons_append]
 refine wpIn_mono (Q:=noPanic _) ?_ (fun e a w h=>noPanic_of h)
 refine(wpIn_wide (n:=0)).2 ?_
 go_upto_region 2 with fail
 rw[<-hW3,<-hW6]
 clear hW3 hW6
 go_cut [11,12,13] from 18 to 22 (fun s11 s12 s13 wx=>∃a11 a13:Nat,s11=.pointer (some ⟨a11,0,none⟩)/\s12=.int .u64 (q:Int)/\s13=.pointer (some ⟨a13,0,none⟩)/\Hid (wx.heap[a11]?=some (.cells #[.slice As ns cs] 26 (0,0))/\wx.heap[a13]?=some (.cells #[.int .i64 0] 3 (0,0))/\a11≠a13/\W6.heap.size<=a11/\W6.heap.size<=a13/\New W6 wx))
 case first=>
  have fa0:(W6.alloc (.cells #[.slice none 0 0] 26)).cell? ⟨w.heap.size+1+1,6,none⟩=some (.int .u64 (p:Int)):=((Upd.alloc (fun _=>False) _ _).cell (a:=⟨w.heap.size+1+1,6,none⟩) (World.block_lt_of_cell? W6 _ c36) id).trans c36
  have fb0:(W6.alloc (.cells #[.slice none 0 0] 26)).cell? ⟨w.heap.size+1+1+1,2,none⟩=some (.slice As ns cs):=((Upd.alloc (fun _=>False) _ _).cell (a:=⟨w.heap.size+1+1+1,2,none⟩) (World.block_lt_of_cell? W6 _ c42) id).trans c42
  have fa1:(W6.alloc (.cells #[.slice As ns cs] 26)).cell? ⟨w.heap.size+1+1,6,none⟩=some (.int .u64 (p:Int)):=((Upd.alloc (fun _=>False) _ _).cell (a:=⟨w.heap.size+1+1,6,none⟩) (World.block_lt_of_cell? W6 _ c36) id).trans c36
  have fb1:(W6.alloc (.cells #[.slice As ns cs] 26)).cell? ⟨w.heap.size+1+1+1,2,none⟩=some (.slice As ns cs):=((Upd.alloc (fun _=>False) _ _).cell (a:=⟨w.heap.size+1+1+1,2,none⟩) (World.block_lt_of_cell? W6 _ c42) id).trans c42
  have fa2:(W6.alloc (.cells #[.int .i64 0] 3)).cell? ⟨w.heap.size+1+1,6,none⟩=some (.int .u64 (p:Int)):=((Upd.alloc (fun _=>False) _ _).cell (a:=⟨w.heap.size+1+1,6,none⟩) (World.block_lt_of_cell? W6 _ c36) id).trans c36
  have fb2:(W6.alloc (.cells #[.int .i64 0] 3)).cell? ⟨w.heap.size+1+1+1,2,none⟩=some (.slice As ns cs):=((Upd.alloc (fun _=>False) _ _).cell (a:=⟨w.heap.size+1+1+1,2,none⟩) (World.block_lt_of_cell? W6 _ c42) id).trans c42
  have fa3:((W6.alloc (.cells #[.slice none 0 0] 26)).alloc (.cells #[.int .i64 0] 3)).cell? ⟨w.heap.size+1+1,6,none⟩=some (.int .u64 (p:Int)):=(((Upd.alloc (fun _=>False) _ _).trans (Upd.alloc _ _ _)).cell (a:=⟨w.heap.size+1+1,6,none⟩) (World.block_lt_of_cell? W6 _ c36) id).trans c36
  have fb3:((W6.alloc (.cells #[.slice none 0 0] 26)).alloc (.cells #[.int .i64 0] 3)).cell? ⟨w.heap.size+1+1+1,2,none⟩=some (.slice As ns cs):=(((Upd.alloc (fun _=>False) _ _).trans (Upd.alloc _ _ _)).cell (a:=⟨w.heap.size+1+1+1,2,none⟩) (World.block_lt_of_cell? W6 _ c42) id).trans c42
  have fa4:((W6.alloc (.cells #[.slice As ns cs] 26)).alloc (.cells #[.int .i64 0] 3)).cell? ⟨w.heap.size+1+1,6,none⟩=some (.int .u64 (p:Int)):=(((Upd.alloc (fun _=>False) _ _).trans (Upd.alloc _ _ _)).cell (a:=⟨w.heap.size+1+1,6,none⟩) (World.block_lt_of_cell? W6 _ c36) id).trans c36
  have fb4:((W6.alloc (.cells #[.slice As ns cs] 26)).alloc (.cells #[.int .i64 0] 3)).cell? ⟨w.heap.size+1+1+1,2,none⟩=some (.slice As ns cs):=(((Upd.alloc (fun _=>False) _ _).trans (Upd.alloc _ _ _)).cell (a:=⟨w.heap.size+1+1+1,2,none⟩) (World.block_lt_of_cell? W6 _ c42) id).trans c42
  have fa5:((W6.alloc (.cells #[.int .i64 0] 3)).alloc (.cells #[.slice none 0 0] 26)).cell? ⟨w.heap.size+1+1,6,none⟩=some (.int .u64 (p:Int)):=(((Upd.alloc (fun _=>False) _ _).trans (Upd.alloc _ _ _)).cell (a:=⟨w.heap.size+1+1,6,none⟩) (World.block_lt_of_cell? W6 _ c36) id).trans c36
  have fb5:((W6.alloc (.cells #[.int .i64 0] 3)).alloc (.cells #[.slice none 0 0] 26)).cell? ⟨w.heap.size+1+1+1,2,none⟩=some (.slice As ns cs):=(((Upd.alloc (fun _=>False) _ _).trans (Upd.alloc _ _ _)).cell (a:=⟨w.heap.size+1+1+1,2,none⟩) (World.block_lt_of_cell? W6 _ c42) id).trans c42
  have fa6:((W6.alloc (.cells #[.int .i64 0] 3)).alloc (.cells #[.slice As ns cs] 26)).cell? ⟨w.heap.size+1+1,6,none⟩=some (.int .u64 (p:Int)):=(((Upd.alloc (fun _=>False) _ _).trans (Upd.alloc _ _ _)).cell (a:=⟨w.heap.size+1+1,6,none⟩) (World.block_lt_of_cell? W6 _ c36) id).trans c36
  have fb6:((W6.alloc (.cells #[.int .i64 0] 3)).alloc (.cells #[.slice As ns cs] 26)).cell? ⟨w.heap.size+1+1+1,2,none⟩=some (.slice As ns cs):=(((Upd.alloc (fun _=>False) _ _).trans (Upd.alloc _ _ _)).cell (a:=⟨w.heap.size+1+1+1,2,none⟩) (World.block_lt_of_cell? W6 _ c42) id).trans c42
  go_region
  all_goals go_wp2
  all_goals go_meet
  · have e1:(W6.alloc (.cells #[.slice As ns cs] 26)).heap.size=W6.heap.size+1:=alloc_size _ _
    have g1:=Ex.alloc_new W6 (.cells #[.slice As ns cs] 26)
    have g2:=Ex.alloc_new (W6.alloc (.cells #[.slice As ns cs] 26)) (.cells #[.int .i64 0] 3)
    rw[e1]at g2
    exact⟨W6.heap.size,W6.heap.size+1,rfl,rfl,rfl,Lib.hid ⟨(heap_alloc_lt _ (by rw[e1];omega)).trans g1,g2,by omega,Nat.le_refl _,by omega,((Upd.alloc _ _ _).trans (Upd.alloc _ _ _)).drew⟩⟩
  · have e1:(W6.alloc (.cells #[.int .i64 0] 3)).heap.size=W6.heap.size+1:=alloc_size _ _
    have g1:=Ex.alloc_new W6 (.cells #[.int .i64 0] 3)
    have g2:=Ex.alloc_new (W6.alloc (.cells #[.int .i64 0] 3)) (.cells #[.slice As ns cs] 26)
    rw[e1]at g2
    exact⟨W6.heap.size+1,W6.heap.size,rfl,rfl,rfl,Lib.hid ⟨g2,(heap_alloc_lt _ (by rw[e1];omega)).trans g1,by omega,by omega,Nat.le_refl _,((Upd.alloc _ _ _).trans (Upd.alloc _ _ _)).drew⟩⟩
 case rest=>
  obtain⟨a11,a13,rfl,rfl,rfl,hcu⟩:=hcut
  have kc:=hcu.out.2.2.2.2.2
  have c00:=cell_of ((kc.block _ (Array.getElem?_eq_some_iff.1 HK.out.1).1 id).trans HK.out.1) 0 _ rfl
  have c10:=cell_of ((kc.block _ (Array.getElem?_eq_some_iff.1 HK.out.2.1).1 id).trans HK.out.2.1) 0 _ rfl
  have c31:=cell_of ((kc.block _ (Array.getElem?_eq_some_iff.1 HK.out.2.2.2.1).1 id).trans HK.out.2.2.2.1) 1 _ rfl
  have hfl:=fun W' R m d=>field120 W' R m d ((F1.hist S dp).2:Int)
  have HHC:=Lib.hid (HHD.out wc (HSF.out.new kc))
  clear kc c36 c42 HSF
  go_upto_region 4 with(go_at_call 58;refine HHC.out.mono ?_;rintro e w1 ⟨Re,me,de,rfl,hre,hsf1,hu1⟩;have H1:=Lib.hid (And.intro hre (And.intro hsf1 hu1));clear HHC hre hsf1 hu1)
  obtain⟨a14,ha14⟩:∃a14,a14=w1.heap.size:=⟨_,rfl⟩
  obtain⟨W7,hW7⟩:∃W7,W7=w1.alloc (.cells #[.slice Re me de] 26):=⟨_,rfl⟩
  have s7:W7.heap.size=a14+1:=by rw[hW7,ha14];exact alloc_size _ _
  have n7:New w1 W7:=by rw[hW7];exact Upd.alloc _ _ _
  have k14:=Ex.alloc_new w1 (.cells #[.slice Re me de] 26)
  rw[<-hW7,<-ha14]at k14
  rw[<-hW7,<-ha14]
  have HA:=Lib.hid (And.intro ha14 (And.intro s7 (And.intro n7 k14)))
  clear hW7 s7 n7 k14 ha14
  have hst:∀m,(store ⟨W7.heap.size,0,none⟩ (.func (.func 59) #[] #[.pointer (some ⟨w.heap.size,0,none⟩),.pointer (some ⟨w.heap.size+1,0,none⟩),.pointer (some ⟨w.heap.size+1+1+1+1+1,0,none⟩),.pointer (some ⟨a11,0,none⟩),.pointer (some ⟨a14,0,none⟩)]) m).run Tryz.prog (W7.alloc (.cells #[.nilFunc] 122))=.ok () ((W7.alloc (.cells #[.nilFunc] 122)).setCell ⟨W7.heap.size,0,none⟩ (.func (.func 59) #[] #[.pointer (some ⟨w.heap.size,0,none⟩),.pointer (some ⟨w.heap.size+1,0,none⟩),.pointer (some ⟨w.heap.size+1+1+1+1+1,0,none⟩),.pointer (some ⟨a11,0,none⟩),.pointer (some ⟨a14,0,none⟩)])):=fun m=>by
   have kb:=Ex.alloc_new W7 (.cells #[.nilFunc] 122)
   rw[run_store Tryz.prog _ _ _ _ rfl]
   simp[cell_of kb 0 _ rfl,frozen_of kb 0]
  go_upto_region 5 with fail
  obtain⟨W8,hW8⟩:∃W8,W8=W7.alloc (.cells #[.func (.func 59) #[] #[.pointer (some ⟨w.heap.size,0,none⟩),.pointer (some ⟨w.heap.size+1,0,none⟩),.pointer (some ⟨w.heap.size+1+1+1+1+1,0,none⟩),.pointer (some ⟨a11,0,none⟩),.pointer (some ⟨a14,0,none⟩)]] 122):=⟨_,rfl⟩
  rw[<-hW8]
  have s8:W8.heap.size=W7.heap.size+1:=by rw[hW8];exact alloc_size _ _
  have n8:New W7 W8:=by rw[hW8];exact Upd.alloc _ _ _
  have k15:=Ex.alloc_new W7 (.cells #[.func (.func 59) #[] #[.pointer (some ⟨w.heap.size,0,none⟩),.pointer (some ⟨w.heap.size+1,0,none⟩),.pointer (some ⟨w.heap.size+1+1+1+1+1,0,none⟩),.pointer (some ⟨a11,0,none⟩),.pointer (some ⟨a14,0,none⟩)]] 122)
  rw[<-hW8]at k15
  obtain⟨hcu1,hcu2,hcu3,hcu4,hcu5,kc⟩:=hcu.out
  obtain⟨ha14,s7,n7,k14⟩:=HA.out
  obtain⟨hre,hsf1,hu1⟩:=H1.out
  have hkc:∀X o,wc.heap[X]?=some o->w.heap.size<=X->W8.heap[X]?=some o:=fun X o hx hge=>
   ((n7.trans n8).block X (by have:=hu1.size;have:=(Array.getElem?_eq_some_iff.1 hx).1;omega) id).trans ((hu1.block X (Array.getElem?_eq_some_iff.1 hx).1 (by have:=HBS.out;omega)).trans hx)
  have hk6:∀X o,W6.heap[X]?=some o->w.heap.size<=X->W8.heap[X]?=some o:=fun X o hx hge=>hkc X o ((kc.block X (Array.getElem?_eq_some_iff.1 hx).1 id).trans hx) hge
  have r0:=hk6 _ _ HK.out.1 (Nat.le_refl _)
  have r1:=hk6 _ _ HK.out.2.1 (by omega)
  have r3:=hk6 _ _ HK.out.2.2.2.1 (by omega)
  have r4:=hk6 _ _ HK.out.2.2.2.2.1 (by omega)
  have r5:=hk6 _ _ HK.out.2.2.2.2.2 (by omega)
  have hw6:w.heap.size+6=W6.heap.size:=by have:=HS6.out;omega
  have r11:=hkc _ _ hcu1 (by omega)
  have r13:=hkc _ _ hcu2 (by omega)
  have r14:=(n8.block _ (Array.getElem?_eq_some_iff.1 k14).1 id).trans k14
  have u8':Upd (fun b=>b=bs) w W8:=((HN.out.trans kc).mono (fun _ _ h=>h.elim)).trans (hu1.trans ((n7.trans n8).mono (fun _ _ h=>h.elim)))
  have HR:=Lib.hid (And.intro r0 (And.intro r1 (And.intro r4 (And.intro r5 (And.intro r11 (And.intro r13 (And.intro r14 k15)))))))
  have lre:LN (fun b=>wc.heap.size<=b/\b<a14) W8 Re me de (F1.hist S dp).1:=(hre.mono (Q':=fun b=>wc.heap.size<=b/\b<a14) (fun b hb hq=>⟨hq,by omega⟩)).new (n7.trans n8)
  have hac:wc.heap.size<=a14:=by have:=hu1.size;omega
  have ucw:Upd (fun b=>b=bs) wc W8:=hu1.trans ((n7.trans n8).mono (fun _ _ h=>h.elim))
  have HCW:=Lib.hid ucw
  clear ucw
  have H8:=Lib.hid (And.intro u8' (And.intro (hsf1.new (n7.trans n8)) (And.intro lre (show a14<W7.heap.size/\W7.heap.size<W8.heap.size/\wc.heap.size<=a14 from⟨by omega,by omega,hac⟩))))
  have HW6:=Lib.hid hw6
  have d0:=cell_of r0 0 _ rfl;have d1:=cell_of r1 0 _ rfl;have d3:=cell_of r3 1 _ rfl
  clear hW8 s8 n8 k15 hcu1 hcu2 hcu3 hcu4 hcu5 kc ha14 s7 n7 k14 hre hsf1 hu1 hkc hk6 r0 r1 r3 r4 r5 hw6 r11 r13 r14 u8' lre hac hst c00 c10 c31 hfl
  go_wp2_with (go_at_call 62;refine(cuts_c (w:=W8) (bs:=bs) (fr:=dp) (la:=q)).mono ?_;rintro e w9 ⟨rfl,hn9,e1,e2,e3,e4⟩;have H9:=Lib.hid (And.intro hn9 (And.intro e1 (And.intro e2 (And.intro e3 e4))));clear hn9 e1 e2 e3 e4)
  refine(wpIn_wide (n:=0)).1 ?_
  have hs9:=H9.out.1.size
  have h8w:=H8.out.1.size
  have hcut9:CutK F bs (W8.heap.size+1+1) (W8.heap.size+1+1+1) (W8.heap.size+1) W8.heap.size dp q L w9:=by
   obtain⟨hn9,e1,e2,e3,e4⟩:=H9.out
   have hb:=HBS.out
   exact⟨H8.out.2.1.new hn9,e1,e2,e3,e4,by omega,by omega,by omega,by omega⟩
  have hF9:∀b,F b->b<w9.heap.size:=fun b hb=>(hcut9.sf.lt hb).1
  have hbs9:bs<w9.heap.size:=hcut9.sf.bs_lt
  have lb1:W8.heap.size+1+1<w9.heap.size:=World.block_lt_of_cell? w9 _ hcut9.b1
  have lb2:W8.heap.size+1+1+1<w9.heap.size:=World.block_lt_of_cell? w9 _ hcut9.b2
  refine range_nil (S:=fun b=>b=bs) (Kp:=CutK F bs (W8.heap.size+1+1) (W8.heap.size+1+1+1) (W8.heap.size+1) W8.heap.size dp q L) (gf:=114) (lb:=#[.pointer (some ⟨W8.heap.size+1+1,0,none⟩),.pointer (some ⟨W8.heap.size+1+1+1,0,none⟩),.pointer (some ⟨W8.heap.size+1,0,none⟩),.pointer (some ⟨W8.heap.size,0,none⟩)]) rfl (fun args w=>enters_of' 114 Tryz.func114 (by kernel_rfl) (by kernel_rfl) args w)
   (fun l2 W2 hk=>HCU.out _ _ _ _ l2 W2 hk) (fun b h=>by omega) (fun P Q hk hu=>⟨hk.sf.upd_off hu (fun b hb h=>by have:=hF9 b hb;omega) (by omega),(hu.cell (a:=⟨W8.heap.size+1+1,0,none⟩) (World.block_lt_of_cell? P _ hk.b1) (by show ¬_<=W8.heap.size+1+1;omega)).trans hk.b1,(hu.cell (a:=⟨W8.heap.size+1+1+1,0,none⟩) (World.block_lt_of_cell? P _ hk.b2) (by show ¬_<=W8.heap.size+1+1+1;omega)).trans hk.b2,(hu.cell (a:=⟨W8.heap.size+1,0,none⟩) (World.block_lt_of_cell? P _ hk.b3) (by show ¬_<=W8.heap.size+1;omega)).trans hk.b3,(hu.cell (a:=⟨W8.heap.size,0,none⟩) (World.block_lt_of_cell? P _ hk.b4) (by show ¬_<=W8.heap.size;omega)).trans hk.b4,hk.n1,hk.n2,hk.n3,hk.n4⟩) hcut9 ?done
  case done=>
   rintro Wv hu hsz hd hk
   have hb:=HBS.out
   have hw6:=HW6.out
   obtain⟨r0,r1,r4,r5,r11,r13,r14,k15⟩:=HR.out
   obtain⟨u8',hsf8,lre,hl1,hl2,hl3⟩:=H8.out
   have u8v:Upd (fun b=>b=bs) W8 Wv:=(H9.out.1.mono (fun _ _ h=>h.elim)).trans hu
   obtain⟨hcu1,hcu2,hcu3,hcu4,hcu5,kc⟩:=hcu.out
   have hkc:=kc.size
   have v0:=(u8v.block _ (Array.getElem?_eq_some_iff.1 r0).1 (by omega)).trans r0
   have v1:=(u8v.block _ (Array.getElem?_eq_some_iff.1 r1).1 (by omega)).trans r1
   have v4:=(u8v.block _ (Array.getElem?_eq_some_iff.1 r4).1 (by omega)).trans r4
   have v5:=(u8v.block _ (Array.getElem?_eq_some_iff.1 r5).1 (by omega)).trans r5
   have v11:=(u8v.block _ (Array.getElem?_eq_some_iff.1 r11).1 (by omega)).trans r11
   have v13:=(u8v.block _ (Array.getElem?_eq_some_iff.1 r13).1 (by omega)).trans r13
   have v14:=(u8v.block _ (Array.getElem?_eq_some_iff.1 r14).1 (by omega)).trans r14
   have v15:=(u8v.block _ (Array.getElem?_eq_some_iff.1 k15).1 (by omega)).trans k15
   have x15:=cell_of v15 0 _ rfl
   have u6v:Upd (fun b=>b=bs) w Wv:=u8'.trans u8v
   have hlv:LQ (fun b=>b≠bs) Wv Re me de (F1.hist S dp).1:=(lre.lq.upd u8v (fun b hb e=>by have e:b=bs:=e;omega)).mono (fun b _ hb=>by show b≠bs;omega)
   have hyv:LQ (fun b=>b≠bs) Wv As ns cs y:=(HY.out.new kc).upd (HCW.out.trans u8v) (fun b hb e=>hb e)
   have hsv:=u6v.size
   have hsv8:=u8v.size
   have hea:=HEA.out Wv w.heap.size (w.heap.size+1) (w.heap.size+1+1+1+1+1) a11 a14 none As Re 0 0 ns cs me de hk.sf (cell_of v0 0 _ rfl) (cell_of v1 0 _ rfl) v5 v11 v14 (HOF.out _ (by omega)) (HOF.out _ (by omega)) (HOF.out _ (by omega)) (by omega) (by omega) (by have:=(Array.getElem?_eq_some_iff.1 hcu1).1;omega) (LN.nil _ _).lq hyv hlv
   have HEV:=Lib.hid hea;have HV:=Lib.hid (And.intro v4 (And.intro v13 (And.intro u6v (And.intro hd (show w9.heap.size<Wv.heap.size/\w.heap.size+1+1+1+1<Wv.heap.size/\a13<Wv.heap.size/\w.heap.size<=a13/\w.heap.size+5<a13/\w.heap.size+5<a11/\a13<a14/\w.heap.size+5<w9.heap.size/\a14<w9.heap.size from⟨by omega,by omega,by have:=(Array.getElem?_eq_some_iff.1 hcu2).1;omega,by omega,by omega,by omega,by have:=(Array.getElem?_eq_some_iff.1 hcu2).1;omega,by omega,by omega⟩)))))
   clear v0 v1 v4 v5 v11 v13 v14 v15 hea hlv hyv u6v u8v hu hsz hd hk lre hsf8 u8' r0 r1 r4 r5 r11 r13 r14 k15 hcu1 hcu2 hcu3 hcu4 hcu5 kc hkc hw6 hb hl1 hl2 hl3 hs9 h8w hcut9 hF9 hbs9 lb1 lb2 hsv hsv8 d0 d1 d3
   go_upto_region 12 with(go_at_call 59;refine HEV.out.mono ?_;rintro e wa ⟨rfl,hsfa,hua,R,m,d,R',m',d',ka,lna,kta,_⟩;have HE:=Lib.hid (And.intro hsfa (And.intro hua (And.intro ka lna)));clear HEV hsfa hua ka lna kta)
   obtain⟨v4,v13,u6v,hd,z1,z2,z3,z4,z5,z6,z7,z8,z9⟩:=HV.out
   obtain⟨hsfa,hua,ka,lna⟩:=HE.out
   have hb:=HBS.out
   have w4:=(hua.block (w.heap.size+1+1+1+1) (by omega) (by show ¬(_\/_\/_);omega)).trans v4
   have w13:=(hua.block a13 z3 (by show ¬(_\/_\/_);omega)).trans v13
   have wd:=(hua.block w9.heap.size z1 (by show ¬(_\/_\/_);omega)).trans hd
   have g0:=cell_of ka 0 _ rfl
   have g1:=cell_of w13 0 _ rfl
   have g2:=cell_of w4 0 _ rfl
   have g3:=frozen_of w4 0
   have k4:=setCell_at w4 (.slice R m d) (i:=0)
   have hst:=Upd.setCell (S:=fun b=>b=w.heap.size+1+1+1+1) (a:=⟨w.heap.size+1+1+1+1,0,none⟩) wa (.slice R m d) rfl
   have j0:=(hst.cell (a:=⟨w.heap.size+1+1+1+1+1,0,none⟩) (World.block_lt_of_cell? wa _ g0) (by show ¬w.heap.size+1+1+1+1+1=w.heap.size+1+1+1+1;omega)).trans g0
   have j1:=(hst.cell (a:=⟨a13,0,none⟩) (World.block_lt_of_cell? wa _ g1) (by show ¬a13=w.heap.size+1+1+1+1;omega)).trans g1
   have HX:=Lib.hid (And.intro k4 (And.intro hst wd))
   clear v4 v13 u6v hd hsfa hua ka lna w4 w13 wd k4 hst
   go_region
   all_goals go_wp2
   all_goals
    obtain⟨k4,hst,wd⟩:=HX.out
    obtain⟨WW,hWW⟩:∃WW,WW=wa.setCell ⟨w.heap.size+1+1+1+1,0,none⟩ (.slice R m d):=⟨_,rfl⟩
    rw[<-hWW]at k4 hst ⊢
    have hdd:WW.drew.heap[w9.heap.size]?=some (.deferred (some [])):=(hst.block w9.heap.size (by have:=(Array.getElem?_eq_some_iff.1 wd).1;omega) (by show ¬w9.heap.size=w.heap.size+1+1+1+1;omega)).trans wd
    have hput:Upd (fun b=>b=w9.heap.size) WW (WW.drew.putObj w9.heap.size (.deferred none)):=(Upd.refl _ WW).drew.trans (Upd.putObj _ _ rfl)
    have q0:(WW.drew.putObj w9.heap.size (.deferred none)).cell? ⟨w.heap.size+1+1+1+1,0,none⟩=some (.slice R m d):=cell_of ((hput.block _ (Array.getElem?_eq_some_iff.1 k4).1 (by show ¬w.heap.size+1+1+1+1=w9.heap.size;omega)).trans k4) 0 _ rfl
    show LeavesInM _ _ _ _ _ _ _ _ _
    refine⟨by simp,.inl ⟨_,_,rfl,run_takeDeferred hdd,?_⟩⟩
    refine⟨_,by simp[results,Tryz.results19,go_sem,q0];try rfl,?_⟩
    obtain⟨_,_,u6v,_,y1,y2,y3,y4,y5,y6,y7,y8,y9⟩:=HV.out
    obtain⟨hsfa,hua,_,lna⟩:=HE.out
    have hb:=HBS.out
    have hva:=hua.size
    have hrest:Upd (fun x=>w.heap.size<=x/\x<Wv.heap.size) wa (WW.drew.putObj w9.heap.size (.deferred none)):=(hst.mono (fun x _ e=>by have e:x=w.heap.size+1+1+1+1:=e;omega)).trans (hput.mono (fun x _ e=>by have e:x=w9.heap.size:=e;omega))
    refine⟨R,m,d,rfl,hsfa.upd_off hrest (fun x hx e=>(HOF.out x e.1).1 hx) (fun e=>by omega),?_,(lna.upd hrest (fun x hx e=>by have hx:Wv.heap.size<=x:=hx;omega)).mono (fun x _ hx=>by have hx:Wv.heap.size<=x:=hx;have:=u6v.size;show w.heap.size<=x;omega)⟩
    exact(u6v.then hua (fun x hx e=>by have:x=bs\/x=w.heap.size+1+1+1+1+1\/x=a14:=e;rcases this with h|h|h<;>first|exact h|(exfalso;omega))).then hrest (fun x hx e=>by exfalso;omega)
end Go.Proofs.YtbhnjkegkadodaaGreatDoor

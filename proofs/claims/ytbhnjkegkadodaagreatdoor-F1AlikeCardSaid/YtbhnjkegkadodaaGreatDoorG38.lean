/- Part of the proof. -/
import Derived.Test.YtbhnjkegkadodaaGreatDoorG36
import Derived.Test.YtbhnjkegkadodaaGreatDoorG37
set_option linter.all false
set_option maxRecDepth 100000
set_option maxHeartbeats 8000000
namespace Go.Proofs.YtbhnjkegkadodaaGreatDoor
open Go Go.RowKit Go.Proofs Gl Go.Shelf
attribute [local go_sem] Oper.semAt_some
theorem between_cuts {S:F1.Sta} (hS:F1.Fine S) {fr:Nat} (hfr:fr+1<18446744073709551616):between (F1.ck (fr+1)) (118 :: (be 8 16 ++ [116])) (F1.ents S)=(S.c.filter (fun x=>decide (fr<x.1))).map F1.entC:=by
 unfold between F1.ents
 rw[List.filter_append]
 have h1:(S.h.map F1.entH).filter (fun e=>!blt e.1 (F1.ck (fr+1)))=[]:=List.filter_eq_nil_iff.2 fun e he=>by
  obtain⟨x,_,rfl⟩:=List.mem_map.1 he
  simp[F1.entH,F1.blt_hc]
 have h2:(S.c.map F1.entC).filter (fun e=>!blt e.1 (F1.ck (fr+1)))=(S.c.filter (fun x=>decide (fr<x.1))).map F1.entC:=by
  rw[List.filter_map]
  congr 1
  refine List.filter_congr fun x hx=>?_
  show(!blt (F1.ck x.1) (F1.ck (fr+1)))=_
  rw[F1.blt_cc (hS.c x hx) hfr]
  by_cases h:x.1<fr+1
  · have:¬fr<x.1:=by omega
    simp[h,this]
  · have:fr<x.1:=by omega
    simp[h,this]
 rw[h1,h2,List.nil_append]
 refine tw_all fun e he=>?_
 obtain⟨x,_,rfl⟩:=List.mem_map.1 he
 show blt (F1.ck x.1) _=true
 unfold F1.ck
 rw[F1.blt_self_cons,F1.blt_pre]
 simp[blt]
structure CutM (base bm n c bs fp lp ip sp fr la:Nat) (D:Nat->Prop) (A:Option Addr) (vs:List Value) (ps:List (List Ent)) (css:List (List Value)) (W:World):Prop where
 map:MapC 182 251 base W bm D A n c vs ps css
 sto:StoB W bs bm
 b1:W.cell? ⟨fp,0,none⟩=some (.int .u64 (fr:Int))
 b2:W.cell? ⟨lp,0,none⟩=some (.int .u64 (la:Int))
 b3:W.cell? ⟨ip,0,none⟩=some (.int .u64 16)
 b4:W.cell? ⟨sp,0,none⟩=some (.pointer (some ⟨bs,0,none⟩))
end Go.Proofs.YtbhnjkegkadodaaGreatDoor
namespace Go.Proofs.YtbhnjkegkadodaaGreatDoor
open Go Go.RowKit Go.Proofs Gl Go.Shelf
attribute [local go_sem] Oper.semAt_some
section
variable {base bm n c bs fp lp ip sp fr la:Nat} {D T:Nat->Prop} {A:Option Addr} {vs:List Value} {ps:List (List Ent)} {css:List (List Value)} {W W':World}
theorem CutM.upd (h:CutM base bm n c bs fp lp ip sp fr la D A vs ps css W) (hu:Upd T W W') (hf:∀b,foot bm D A n c vs b->¬T b) (hs:StoB W' bs bm) (n1:¬T fp) (n2:¬T lp) (n3:¬T ip) (n4:¬T sp):CutM base bm n c bs fp lp ip sp fr la D A vs ps css W':=
 ⟨h.map.upd hu hf,hs,(hu.cell (a:=⟨fp,0,none⟩) (zqB W _ h.b1) n1).trans h.b1,(hu.cell (a:=⟨lp,0,none⟩) (zqB W _ h.b2) n2).trans h.b2,(hu.cell (a:=⟨ip,0,none⟩) (zqB W _ h.b3) n3).trans h.b3,(hu.cell (a:=⟨sp,0,none⟩) (zqB W _ h.b4) n4).trans h.b4⟩
theorem CutM.new (h:CutM base bm n c bs fp lp ip sp fr la D A vs ps css W) (hu:New W W'):CutM base bm n c bs fp lp ip sp fr la D A vs ps css W':=h.upd hu (fun _ _=>id) (h.sto.upd hu id) id id id id
end
end Go.Proofs.YtbhnjkegkadodaaGreatDoor
namespace Go.Proofs.YtbhnjkegkadodaaGreatDoor
open Go Go.RowKit Go.Proofs Gl Go.Shelf
attribute [local go_sem] Oper.semAt_some
theorem by_same {w w':World} {A:Option Addr} {n c:Nat} {bs:Bs} {T:Nat->Prop} (h:By w A n c bs) (hz:w.heap.size<=w'.heap.size) (hb:∀b,b<w.heap.size->¬T b->w'.heap[b]?=w.heap[b]?) (hn:∀a,A=some a → 0<n->¬T a.block):By w' A n c bs:=by
 obtain⟨W2,e⟩:∃W2,W2 = { w with heap:=w'.heap }:=⟨_,rfl⟩
 have hu:Upd T w W2:=by rw[e];exact⟨rfl,rfl,rfl,hz,hb⟩
 have h2:=h.upd hu hn
 rw[e]at h2
 exact⟨⟨h2.sl.len,h2.sl.le,h2.sl.max,fun h0=>let ⟨b,off,e,hr⟩:=h2.sl.row h0;⟨b,off,e,hr.1,hr.2⟩,h2.sl.nil⟩,h2.small⟩
theorem CntT.via {base bm n c b1 b2 b3 nf cf nt ct bs p1 p2:Nat} {D T:Nat->Prop} {A Af At:Option Addr} {vs:List Value} {ps:List (List Ent)} {css:List (List Value)} {fk tk:Bs} {W W':World} (h:CntT base bm n c b1 b2 b3 nf cf nt ct bs p1 p2 D A Af At vs ps css fk tk W) (hz:W.heap.size<=W'.heap.size) (hb:∀b,b<W.heap.size->¬T b->W'.heap[b]?=W.heap[b]?) (hm:MapC 182 251 base W' bm D A n c vs ps css) (hs:StoB W' bs bm) (h1:¬T b1) (h2:¬T b2) (h3:¬T b3) (h4:∀a,Af=some a → 0<nf->¬T a.block) (h4':∀a,At=some a → 0<nt->¬T a.block) (h5:¬T p1) (h6:¬T p2):CntT base bm n c b1 b2 b3 nf cf nt ct bs p1 p2 D A Af At vs ps css fk tk W':=by
 have hc:∀(p:Nat) (v:Value),¬T p->W.cell? ⟨p,0,none⟩=some v->W'.cell? ⟨p,0,none⟩=some v:=fun p v hp hv=>(World.cell?_of_block (a:=⟨p,0,none⟩) (hb p (zqB W _ hv) hp)).trans hv
 exact⟨⟨⟨hm,hc _ _ h1 h.wlk.box1,hc _ _ h2 h.wlk.box2,hc _ _ h3 h.wlk.box3,by_same h.wlk.from_ hz hb h4⟩,by_same h.wlk.to_ hz hb h4'⟩,hc _ _ h5 h.box1,hc _ _ h6 h.box2,hs⟩
def CutV (x:F1.Rec) (_ _:World) (vals:Array Value):Prop:=vals=#[.int .u64 (x.1:Int),.agg #[.int .u64 (x.2.1:Int),.int .u64 (x.2.2:Int)]]
theorem cuts_pick {M:List F1.Rec} {pre post:List Ent} {x:Ent} (h:M.map F1.entC=pre ++ x :: post):∃y rest,F1.entC y=x/\M=M.take pre.length ++ y :: rest/\M.take (pre ++ [x]).length=M.take pre.length ++ [y]:=by
 obtain⟨M1,M2,hM,h1,h2⟩:=List.map_eq_append_iff.1 h
 obtain⟨y,M3,hM2,h3,h4⟩:=List.map_eq_cons_iff.1 h2
 have hl:pre.length=M1.length:=by rw[<-h1];simp
 refine⟨y,M3,h3,?_,?_⟩
 · rw[hl,hM,List.take_left,hM2]
 · have e1:M=(M1 ++ [y]) ++ M3:=by rw[hM,hM2];simp
   have e2:(pre ++ [x]).length=(M1 ++ [y]).length:=by simp[hl]
   rw[e2,hl]
   conv=>lhs;rw[e1,List.take_left]
   rw[hM,List.take_left]
theorem cuts1_gives {base bm n c bs fp lp ip sp fr la:Nat} {D:Nat->Prop} {A:Option Addr} {vs:List Value} {ps:List (List Ent)} {css:List (List Value)} {S:F1.Sta} (hS:Okay S) (hps:ps.flatten=F1.ents S) (hsz:∀e ∈ ps.flatten,e.1.length<=1073741824/\e.2.length<=1073741824) (hfr:fr+1<18446744073709551616) (hcv:∀x ∈ S.c,x.1<18446744073709551616/\x.1<=la/\x.2.1<18446744073709551616/\x.2.2<18446744073709551616)
 (hfb:¬foot bm D A n c vs bs) (hne:fp≠bs/\lp≠bs/\ip≠bs/\sp≠bs):
 Gives Tryz.prog 114 #[.pointer (some ⟨fp,0,none⟩),.pointer (some ⟨lp,0,none⟩),.pointer (some ⟨ip,0,none⟩),.pointer (some ⟨sp,0,none⟩)] CutV (fun b=>b=bs) (CutM base bm n c bs fp lp ip sp fr la D A vs ps css) (S.c.filter (fun x=>decide (fr<x.1))):=by
 intro l J Jx W hJ hJx hK h0 hY
 obtain⟨M,hM⟩:∃M,M=S.c.filter (fun x=>decide (fr<x.1)):=⟨_,rfl⟩
 have hbt:between (F1.ck (fr+1)) (118 :: (be 8 16 ++ [116])) ps.flatten=M.map F1.entC:=by rw[hps,hM];exact between_cuts hS.fine hfr
 have hMv:∀x ∈ M,fr<x.1/\x.1<18446744073709551616/\x.1<=la/\x.2.1<18446744073709551616/\x.2.2<18446744073709551616:=fun x hx=>by
  rw[hM]at hx
  obtain⟨h1,h2⟩:=List.mem_filter.1 hx
  exact⟨of_decide_eq_true h2,hcv x h1⟩
 rw[<-hM]at hY ⊢
 have hlen:ps.flatten.length<=1000000:=by rw[hps];exact hS.len
 have l1:=zqB W _ hK.b1
 have l2:=zqB W _ hK.b2
 have l3:=zqB W _ hK.b3
 have l4:=zqB W _ hK.b4
 simp only at l1 l2 l3 l4
 have l5:bs<W.heap.size:=hK.sto.lt
 have hflW:∀b,foot bm D A n c vs b->b<W.heap.size:=fun b hb=>hK.map.map.toMapRaw.foot_lt hb
 obtain⟨WA,hWA⟩:∃WA,WA=W.alloc (.cells #[.func (.yield l) #[] #[]] 188):=⟨_,rfl⟩
 have hal:New W WA:=by rw[hWA];exact Upd.alloc _ _ _
 have hWAs:WA.heap.size=W.heap.size+1:=by rw[hWA];show(W.heap.push _).size=_;simp
 have hpy:WA.cell? ⟨W.heap.size,0,none⟩=some (.func (.yield l) #[] #[]):=by rw[hWA];exact zaa (Ex.alloc_new W _) 0 _ rfl
 have hKA:=hK.new hal
 have k1:=hKA.b1;have k2:=hKA.b2;have k3:=hKA.b3;have k4:=hKA.b4
 have HY:=zqH hY;have HJ:=zqH hJ;have HJX:=zqH hJx;have HK:=zqH hK;have H0:=zqH h0;have HL:=zqH hlen;have HSZ:=zqH hsz;have HKA:=zqH hKA;have HFB:=zqH hfb;have HNE:=zqH hne;have HAL:=zqH hal;have HFL:=zqH hflW;have HBT:=zqH hbt;have HMV:=zqH hMv;have HFR:=zqH hfr
 have HWS:=zqH (And.intro hWAs (And.intro l1 (And.intro l2 (And.intro l3 (And.intro l4 l5)))));have HPY:=zqH hpy
 clear hY hJ hJx hK h0 hlen hsz hal hKA hfb hflW hbt hMv hfr hne hS hps hcv hM hWAs l1 l2 l3 l4 l5 hpy
 refine(callsIn_wide (n:=0)).1 ?_
 refine callsIn_of_wp_marks Tryz.func114 rfl trivial ?_ rfl
 simp only[Tryz.ntmps114,List.size_toArray,List.length_cons,List.length_nil,Nat.reduceAdd,Nat.reduceSub,Array.replicate_succ,Array.replicate_zero,List.push_toArray,List.append_toArray,List.nil_append,List.cons_append]
 refine wpIn_mono (Q:=noPanic _) ?_ (fun e a w h=>noPanic_of h)
 refine(wpIn_wide (n:=0)).2 ?_
 go_upto_region 1 with fail
 rw[<-hWA]
 clear hWA
 by_cases hge:la<=fr
 · have hg:decide ((fr:Int) ≥ (la:Int))=true:=by simp;omega
   have hMn:M=[]:=List.eq_nil_iff_forall_not_mem.2 fun x hx=>by have:=HMV.out x hx;omega
   subst hMn
   go_wp2
   exact⟨_,results_none rfl _ _ _,⟨_,rfl⟩,W.heap.size,Nat.le_refl _,by have:=HWS.out.1;omega,.inl ⟨HJ.out _ _ _ _ (H0.out _) (HAL.out.mono (fun _ _ h=>h.elim)),HKA.out⟩⟩
 · have hg:decide ((fr:Int) ≥ (la:Int))=false:=by simp;omega
   have HUN:=zqH (fun W=>under_c (w:=W) 8 118 115 16 form8 (by decide) (by decide) (by decide) (by decide))
   have HKE:=zqH (fun W=>keyC (w:=W) (fr+1) HFR.out)
   have hwf:IntKind.u64.wrap ((fr:Int)+1)=((fr+1:Nat):Int):=by have:=HFR.out;rw[IntKind.wrap_u64];omega
   go_upto_region 3 with(go_at_call 115;refine(HUN.out WA).mono ?_;rintro e Wb ⟨Ah,ch,rfl,hbh,hnb,hath⟩;have HB:=zqH (And.intro hbh hnb);clear HUN hbh hnb hath)
   have hKB:=HKA.out.new HB.out.2
   have m1:=hKB.b1;have m3:=hKB.b3;have m4:=hKB.b4
   have HKB:=zqH hKB
   have hkeep:∀W',New Wb W'->W'.cell? ⟨sp,0,none⟩=some (.pointer (some ⟨bs,0,none⟩))/\W'.cell? ⟨ip,0,none⟩=some (.int .u64 16)/\W'.cell? ⟨fp,0,none⟩=some (.int .u64 (fr:Int)):=fun W' hn=>⟨(HKB.out.new hn).b4,(HKB.out.new hn).b3,(HKB.out.new hn).b1⟩
   have HKP:=zqH hkeep
   clear hkeep hKB
   go_region_held (fun w'=>w'.cell? ⟨sp,0,none⟩=some (.pointer (some ⟨bs,0,none⟩))/\w'.cell? ⟨ip,0,none⟩=some (.int .u64 16)/\w'.cell? ⟨fp,0,none⟩=some (.int .u64 (fr:Int))) (go_keep) (first
    | (go_at_call 78
       refine(HKE.out _).mono ?_
       rintro e Wc ⟨Ak,ck,rfl,hk,hnc,hat⟩
       have nc:New Wb Wc:=(Upd.refl _ Wb).drew.trans hnc
       obtain⟨f1,f2,f3⟩:=HKP.out _ nc
       have HC:=zqH (And.intro hk nc)
       clear hk hnc nc hat)
    | (go_at_call 117
       refine(next_c (HB.out.1.new HC.out.2) (y:=115) (by rfl) (by decide)).mono ?_
       rintro e Wd ⟨At,ct,rfl,ht,hnd⟩
       have nd:New Wb Wd:=HC.out.2.trans hnd
       obtain⟨i1,i2,i3⟩:=HKP.out _ nd
       have HD:=zqH (And.intro ht (And.intro nd (HC.out.1.new hnd)))
       clear ht hnd nd)
    | (go_at_call 116
       refine(kwalkft_c (HKB.out.sto.upd HD.out.2.1 id) HD.out.2.2 HD.out.1 (by decide) (by decide)).mono ?_
       rintro e We ⟨p1,p2,b1,b2,b3,A1,c1,A2,c2,rfl,hne,hge5,q1,q2,q3,q4,q5,q6,q7⟩
       have ne:New Wb We:=HD.out.2.1.trans hne
       obtain⟨j1,j2,j3⟩:=HKP.out _ ne
       have HE:=zqH (And.intro ne (And.intro hge5 (And.intro q1 (And.intro q2 (And.intro q3 (And.intro q4 (And.intro q5 (And.intro q6 (And.intro HD.out.2.1.size q7)))))))))
       clear ne hne hge5 q1 q2 q3 q4 q5 q6 q7))
   clear f1 f2 f3 i1 i2 i3 j1 j2 j3 m1 m3 m4
   go_wp2
   refine(wpIn_wide (n:=0)).1 ?_
   obtain⟨hne,⟨h1,h2,h3,h4,h5⟩,q1,q2,q3,q4,q5,q6,hsd,q7⟩:=HE.out
   have hsW:W.heap.size+1<=Wb.heap.size:=by have:=HB.out.2.size;have:=HWS.out.1;omega
   have hsb:=hne.size
   have hfa:(∀a,A1=some a → 0<18->Wb.heap.size<=a.block/\a.block<We.heap.size)/\∀a,A2=some a → 0<10->Wb.heap.size<=a.block/\a.block<We.heap.size:=by
    refine⟨fun a ha h0=>?_,fun a ha h0=>?_⟩
    · obtain⟨_,_,_,e2,hb,h'⟩:=q6
      cases e2
      obtain⟨_,_,_,e,_,h⟩:=BV.of hb
      cases e
      exact⟨by have:=h' a ha h0;omega,h a ha h0⟩
    · obtain⟨_,_,_,e2,hb,h'⟩:=q7
      cases e2
      obtain⟨_,_,_,e,_,h⟩:=BV.of hb
      cases e
      exact⟨by have:=h' a ha h0;omega,h a ha h0⟩
   have lb1:=zqB We _ q1
   have lb2:=zqB We _ q2
   have lb3:=zqB We _ q3
   have lb4:=zqB We _ q4
   have lb5:=zqB We _ q5
   simp only at lb1 lb2 lb3 lb4 lb5
   have hcnt:CntT base bm n c b1 b2 b3 18 c1 10 c2 bs p1 p2 D A A1 A2 vs ps css (F1.ck (fr+1)) (118 :: (be 8 16 ++ [116])) We:=by
    refine⟨⟨⟨HKB.out.map.upd hne (fun _ _=>id),q3,q4,q5,?_⟩,?_⟩,q1,q2,HKB.out.sto.upd hne id⟩
    · obtain⟨_,_,_,e,hb,h⟩:=q6
      cases e
      exact hb
    · obtain⟨_,_,_,e,hb,h⟩:=q7
      cases e
      exact hb
   obtain⟨hW0,hW1,hW2,hW3,hW4,hW5⟩:=HWS.out
   have hpe:We.cell? ⟨W.heap.size,0,none⟩=some (.func (.yield l) #[] #[]):=((HB.out.2.trans hne).cell (a:=⟨W.heap.size,0,none⟩) (by show W.heap.size<WA.heap.size;omega) id).trans HPY.out
   have hKe:=HKB.out.new hne
   have hUe:New W We:=(HAL.out.trans HB.out.2).trans hne
   have HCN:=zqH hcnt;have HKW:=zqH hKe;have HPE:=zqH hpe;have HUE:=zqH hUe;have HFA:=zqH hfa
   clear hcnt hKe hpe hUe hfa hne q1 q2 q3 q4 q5 q6 q7 HE HB HKB HKP HC HD HPY HAL HKA
   have hnp:∀Z b,b<We.heap.size->b≠bs->¬Priv (fun b=>b=bs) We.heap.size Z b:=fun Z b hb hn h=>h.elim hn (fun h=>by omega)
   have hnf:∀Z b,foot bm D A n c vs b->¬Priv (fun b=>b=bs) We.heap.size Z b:=fun Z b hb=>hnp Z b (by have:=HFL.out b hb;omega) (fun e=>HFB.out (e▸hb))
   have hni:∀b,foot bm D A n c vs b->¬b=We.heap.size:=fun b hb e=>by have:=HFL.out b hb;omega
   have HNP:=zqH hnp;have HNF:=zqH hnf
   clear hnp hnf
   refine zbb (gf:=234) (lb:=#[.pointer (some ⟨p1,0,none⟩),.pointer (some ⟨p2,0,none⟩)]) rfl (fun args w=>zas 234 Tryz.func234 (by kernel_rfl) (by kernel_rfl) args w)
    (countedT_gives (base:=base) (bm:=bm) (n:=n) (c:=c) (b1:=b1) (b2:=b2) (b3:=b3) (nf:=18) (cf:=c1) (nt:=10) (ct:=c2) (bs:=bs) (p1:=p1) (p2:=p2) (D:=D) (A:=A) (Af:=A1) (At:=A2) (vs:=vs) (ps:=ps) (css:=css) (fk:=F1.ck (fr+1)) (tk:=118 :: (be 8 16 ++ [116])) (by decide) HL.out HSZ.out HFB.out ⟨by omega,by omega,by omega,by omega,by omega⟩ ⟨fun a ha h0=>by have:=HFA.out.1 a ha h0;omega,fun a ha h0=>by have:=HFA.out.2 a ha h0;omega⟩)
    (fun x _ _ vals he=>by obtain⟨_,_,_,_,_,_,e,_⟩:=he;rw[e];rfl) (fun b h=>by omega)
    (fun P Q hk hu=>hk.upd hu (fun b hb=>by have:=HFL.out b hb;omega) (by omega) (by omega) (by omega) (fun a ha h0=>by have:=HFA.out.1 a ha h0;omega) (fun a ha h0=>by have:=HFA.out.2 a ha h0;omega) (by omega) (by omega) (hk.sto.upd hu (by omega))) HCN.out
    (fun x W0 P Q vals hz he hu=>hu.elim (fun hu=>he.upd hu (fun _ _=>id)) (fun hu=>he.upd hu (fun b hb=>by omega)))
    (fun Z (pre:List Ent) V=>J Z (M.take pre.length) V/\V.cell? ⟨fp,0,none⟩=some (.int .u64 (fr:Int))/\V.cell? ⟨lp,0,none⟩=some (.int .u64 (la:Int))/\V.cell? ⟨ip,0,none⟩=some (.int .u64 16)/\V.cell? ⟨sp,0,none⟩=some (.pointer (some ⟨bs,0,none⟩))/\V.cell? ⟨W.heap.size,0,none⟩=some (.func (.yield l) #[] #[]))
    (fun Z cd (pre:List Ent) V=>cd=.ret/\Jx Z (M.take pre.length) V)
    (fun Z hZ s P Q hs hu=>⟨HJ.out Z _ P Q hs.1 (hu.mono (fun b _ hb=>hb.elim .inl (fun h=>.inr ⟨by omega,h.2⟩))),(hu.cell (a:=⟨fp,0,none⟩) (zqB P _ hs.2.1) (HNP.out Z fp (by omega) HNE.out.1)).trans hs.2.1,(hu.cell (a:=⟨lp,0,none⟩) (zqB P _ hs.2.2.1) (HNP.out Z lp (by omega) HNE.out.2.1)).trans hs.2.2.1,(hu.cell (a:=⟨ip,0,none⟩) (zqB P _ hs.2.2.2.1) (HNP.out Z ip (by omega) HNE.out.2.2.1)).trans hs.2.2.2.1,(hu.cell (a:=⟨sp,0,none⟩) (zqB P _ hs.2.2.2.2.1) (HNP.out Z sp (by omega) HNE.out.2.2.2)).trans hs.2.2.2.2.1,(hu.cell (a:=⟨W.heap.size,0,none⟩) (zqB P _ hs.2.2.2.2.2) (HNP.out Z W.heap.size (by omega) (by omega))).trans hs.2.2.2.2.2⟩)
    (fun Z cd hZ s P Q hs hu=>⟨hs.1,HJX.out Z _ P Q hs.2 (hu.mono (fun b _ hb=>hb.elim .inl (fun h=>.inr ⟨by omega,h.2⟩)))⟩)
    (fun Z hZ=>⟨(HJ.out Z) _ _ _ (H0.out Z) (HUE.out.mono (fun _ _ h=>h.elim)),HKW.out.b1,HKW.out.b2,HKW.out.b3,HKW.out.b4,HPE.out⟩)
    (fun W0 vals a' V=>∃k1 n1 e1 k2 n2 e2,vals=#[.slice k1 n1 e1,.slice k2 n2 e2]/\a' = { tmps:=#[.func (.yield l) #[] #[],.pointer (some ⟨fp,0,none⟩),.pointer (some ⟨lp,0,none⟩),.pointer (some ⟨ip,0,none⟩),.pointer (some ⟨sp,0,none⟩),.pointer (some ⟨W.heap.size,0,none⟩),.slice Ah 10 ch,.int .i64 0,.slice k1 n1 e1,.slice k2 n2 e2,undef,undef,undef,undef,.int .u64 (fr:Int),.int .u64 (la:Int),.bool false,.tuple #[.slice Ah 10 ch,.int .i64 0],.int .u64 16,.tuple #[.slice Ah 10 ch,.int .i64 0],.slice Ah 10 ch,.int .i64 0,.pointer (some ⟨bs,0,none⟩),.int .u64 16,.int .u64 (fr:Int),.int .u64 ((fr:Int)+1),.slice Ak 18 ck,.slice Ah 10 ch,.slice At 10 ct,.func (.func 234) #[] #[.pointer (some ⟨p1,0,none⟩),.pointer (some ⟨p2,0,none⟩)],.slice k1 n1 e1,.slice k2 n2 e2,undef,undef,undef,undef,undef,undef,undef,undef,undef,undef,undef,undef,undef,undef,undef,undef,undef,undef,undef,undef,undef,undef],defers:=[] })
    (fun W0 vals a' P Q hs hu=>hs)
    ?assign ?body ?done ?stop
   case assign=>
    rintro l2 x W0 V vals K ⟨pre,post,hx⟩ hz hz0 ⟨A1,n1,e1,A2,n2,e2,rfl,g1,g2⟩ hk hK'
    gi_wp2
    exact hK' _ _ (Upd.refl _ _) ⟨A1,n1,e1,A2,n2,e2,rfl,rfl⟩
   case body=>
    rintro Z pre x W0 V vals a' ⟨post,hx⟩ hZ1 hZ2 ⟨hi,g1,g2,g3,g4,g5⟩ hu0 hcp ⟨k1,n1,e1,k2,n2,e2,rfl,rfl⟩ hk
    rw[HBT.out]at hx
    obtain⟨y,rest,rfl,hMy,hMt⟩:=cuts_pick hx
    obtain⟨y1,y2,y3⟩:=y
    have hyM:=HMV.out (y1,y2,y3) (by rw[hMy];simp)
    obtain⟨hy0,hy1,hyl,hy2,hy3⟩:=hyM
    simp only at hy0 hy1 hyl hy2 hy3
    obtain⟨A1',n1',c1',A2',n2',c2',e,gk,gv⟩:=hcp
    cases e
    obtain⟨_,_,_,e,hbk,_⟩:=gk
    cases e
    obtain⟨_,_,_,e,hbv,_⟩:=gv
    cases e
    have hn18:n1=18:=by have:=hbk.len;simp[F1.entC,F1.ck,zah]at this;omega
    subst hn18
    have t1:=(hu0.cell (a:=⟨fp,0,none⟩) (zqB W0 _ g1) (HNP.out Z fp (by omega) HNE.out.1)).trans g1
    have t2:=(hu0.cell (a:=⟨lp,0,none⟩) (zqB W0 _ g2) (HNP.out Z lp (by omega) HNE.out.2.1)).trans g2
    have t3:=(hu0.cell (a:=⟨ip,0,none⟩) (zqB W0 _ g3) (HNP.out Z ip (by omega) HNE.out.2.2.1)).trans g3
    have t4:=(hu0.cell (a:=⟨sp,0,none⟩) (zqB W0 _ g4) (HNP.out Z sp (by omega) HNE.out.2.2.2)).trans g4
    have t5:=(hu0.cell (a:=⟨W.heap.size,0,none⟩) (zqB W0 _ g5) (HNP.out Z W.heap.size (by omega) (by omega))).trans g5
    have hkV:CutM base bm n c bs fp lp ip sp fr la D A vs ps css V:=⟨hk.wlk.map,hk.sto,t1,t2,t3,t4⟩
    have h118:=read_c hbk hy1
    have hlp:decide ((y1:Int) > (la:Int))=false:=by simp;omega
    have HKV:=zqH hkV;have HK2:=zqH hk;have HT5:=zqH t5;have HU0:=zqH hu0;have HI:=zqH hi;have HBV:=zqH hbv;have HMY:=zqH (And.intro hMy hMt);have HYS:=zqH (And.intro hy2 hy3)
    have HYF:Hid (∀V2,New V V2->YieldAt FW 0 Tryz.prog l #[.int .u64 (y1:Int),.agg #[.int .u64 (y2:Int),.int .u64 (y3:Int)]] V2 fun e W'=>Kept W.heap.size Z W0.heap.size V2 W'/\CutM base bm n c bs fp lp ip sp fr la D A vs ps css W'/\((e=.returned (.bool true)/\J Z (M.take (pre ++ [F1.entC (y1,y2,y3)]).length) W')\/(e=.returned (.bool false)/\Jx Z (M.take (pre ++ [F1.entC (y1,y2,y3)]).length) W'))):=zqH (fun V2 hn2=>by
     rw[HMY.out.2]
     exact HY.out Z (M.take pre.length) (y1,y2,y3) W0 V2 _ ⟨rest,HMY.out.1⟩ (by omega) hZ2 HI.out ((HU0.out.mono (fun b _ hb=>hb.elim .inl (fun h=>.inr ⟨by omega,h.2⟩))).trans (hn2.mono (fun _ _ h=>h.elim))) rfl (HKV.out.new hn2))
    clear hkV hk t1 t2 t3 t4 t5 hu0 hi hbk hbv g1 g2 g3 g4 g5 hx hMy hMt hy2 hy3 hy0 hy1
    gi_wp2_with (first
     | (refine⟨trivial,rfl,?_⟩;gi_at_call 118;refine(CallsIn.inRound _ (callsIn_wide.2 h118)).mono ?_;rintro e V2 ⟨rfl,hn2⟩;have H2:=zqH hn2;clear hn2 h118)
     | (refine⟨trivial,rfl,?_⟩;gi_at_call 119
        have hn3:New V2 (V2.alloc (.cells #[.int .i64 8,.int .u64 16,.int .u64 (y1:Int)] 133)):=Upd.alloc _ _ _
        refine(CallsIn.inRound _ (callsIn_wide.2 (rcut_c ((HBV.out.new H2.out).new hn3) HYS.out.1 HYS.out.2))).mono ?_
        rintro e V4 ⟨rfl,hn4⟩
        have hb3:=Ex.alloc_new V2 (.cells #[.int .i64 8,.int .u64 16,.int .u64 (y1:Int)] 133)
        have hl3:=(zqA.1 hb3).1
        have hn5:New V4 (V4.alloc (.cells #[.int .u64 (y2:Int),.int .u64 (y3:Int)] 127)):=Upd.alloc _ _ _
        have hb5:=Ex.alloc_new V4 (.cells #[.int .u64 (y2:Int),.int .u64 (y3:Int)] 127)
        have hk5:=((hn4.trans hn5).block _ hl3 id).trans hb3
        have c5:=zaa hk5 2 _ rfl
        have d5:=zaa hb5 0 _ rfl
        have d6:=zaa hb5 1 _ rfl
        have hn:New V (V4.alloc (.cells #[.int .u64 (y2:Int),.int .u64 (y3:Int)] 127)):=((H2.out.trans hn3).trans hn4).trans hn5
        have cl:=(HKV.out.new hn).b2
        have cy:=(hn.cell (a:=⟨W.heap.size,0,none⟩) (zqB V _ HT5.out) id).trans HT5.out
        have HN:=zqH hn
        obtain⟨fn,tmps,asg,bdy,hy,hR⟩:=HYF.out _ hn
        have HR:=zqH hR
        clear hn hR hk5 hb5 hn5 hl3 hb3 hn4 hn3))
    refine⟨rfl,HR.out.mono ?_⟩
    rintro e V6 ⟨hk6,hc6,h4⟩
    obtain⟨r,rfl,h5⟩:∃r,e=.returned (.bool r)/\((r=true/\J Z (M.take (pre ++ [F1.entC (y1,y2,y3)]).length) V6)\/(r=false/\Jx Z (M.take (pre ++ [F1.entC (y1,y2,y3)]).length) V6)):=h4.elim (fun h=>⟨true,h.1,.inl ⟨rfl,h.2⟩⟩) (fun h=>⟨false,h.1,.inr ⟨rfl,h.2⟩⟩)
    have hns:=HN.out.size
    have hy6:V6.cell? ⟨W.heap.size,0,none⟩=some (.func (.yield l) #[] #[]):=(World.cell?_of_block (a:=⟨W.heap.size,0,none⟩) (hk6.2 W.heap.size (.inl ⟨Nat.le_refl _,by omega⟩))).trans cy
    have hlZ:Z<=V.heap.size:=Nat.le_trans hZ2 HU0.out.size
    have hold:∀b,(W.heap.size<=b/\b<Z)\/(W0.heap.size<=b/\b<V.heap.size)->V6.heap[b]?=V.heap[b]?:=fun b hb=>(hk6.2 b (hb.imp id (fun h=>⟨h.1,zqL h.2 hns⟩))).trans (HN.out.block b (by omega) id)
    have hkept:V6.heap[We.heap.size]?=V.heap[We.heap.size]?/\V6.heap[We.heap.size+1]?=V.heap[We.heap.size+1]?/\Kept (We.heap.size+2) Z W0.heap.size V V6:=
     ⟨hold _ (.inl ⟨by omega,by omega⟩),hold _ (.inl ⟨by omega,by omega⟩),Nat.le_trans hns hk6.1,fun k hk=>hold k (hk.imp (fun h=>⟨by omega,h.2⟩) id)⟩
    have hcn6:=HK2.out.via (T:=fun b=>b<W.heap.size\/Z<=b) (Nat.le_trans hns hk6.1) (fun b hb hn=>hold b (.inl ⟨by omega,by omega⟩)) hc6.map hc6.sto (by omega) (by omega) (by omega) (fun a ha h0=>by have:=HFA.out.1 a ha h0;omega) (fun a ha h0=>by have:=HFA.out.2 a ha h0;omega) (by omega) (by omega)
    have HKE:=zqH hkept;have HC6:=zqH hc6;have H5:=zqH h5;have HY6:=zqH hy6;have HCN6:=zqH hcn6
    clear hkept hc6 h5 h4 hk6 hy6 hy HR hold hcn6 cl cy c5 d5 d6 hlZ
    cases r with
    | true=>
      gi_wp2
      exact⟨HKE.out,HCN6.out,H5.out.elim (fun h=>h.2) (fun h=>by cases h.1),HC6.out.b1,HC6.out.b2,HC6.out.b3,HC6.out.b4,HY6.out⟩
    | false=>
      gi_wp2
      exact⟨HKE.out,HCN6.out,rfl,H5.out.elim (fun h=>by cases h.1) (fun h=>h.2)⟩
   case done=>
    rintro Z V hZ1 hZ2 ⟨hj,g1,g2,g3,g4,g5⟩ hd hwk
    gi_wp2
    refine⟨by simp,.inl ⟨_,_,rfl,run_takeDeferred hd,?_⟩⟩
    have hput:Upd (fun b=>b=We.heap.size) V (V.putObj We.heap.size (.deferred none)):=Upd.putObj V _ rfl
    rw[HBT.out,List.length_map,List.take_length]at hj
    have hkV:CutM base bm n c bs fp lp ip sp fr la D A vs ps css V:=⟨hwk.wlk.map,hwk.sto,g1,g2,g3,g4⟩
    exact⟨_,results_none rfl _ _ _,⟨_,rfl⟩,Z,by omega,by simpa using hZ2,.inl ⟨HJ.out Z _ _ _ hj (hput.mono (fun b _ e=>.inr ⟨by have e:b=We.heap.size:=e;omega,by have e:b=We.heap.size:=e;omega⟩)),hkV.upd hput (fun b hb=>hni b hb) (hkV.sto.upd hput (by omega)) (by omega) (by omega) (by omega) (by omega)⟩⟩
   case stop=>
    rintro Z cd pre x post V hZ1 hZ2 hx ⟨rfl,hjx⟩ hd
    gi_wp2
    refine⟨by simp,.inl ⟨_,_,rfl,run_takeDeferred hd,?_⟩⟩
    rw[HBT.out]at hx
    obtain⟨y,rest,hy,hMy,hMt⟩:=cuts_pick hx
    rw[hMt]at hjx
    refine⟨_,results_none rfl _ _ _,⟨_,rfl⟩,Z,by omega,by simpa using hZ2,.inr ⟨_,y,rest,hMy,?_⟩⟩
    exact HJX.out Z _ _ _ hjx (Upd.putObj _ _ (.inr ⟨by omega,by omega⟩))
end Go.Proofs.YtbhnjkegkadodaaGreatDoor
namespace F1
open Gl
structure Clm where
 x:Nat
 y:Nat
 z:Nat
 k:Nat
def earn (S:Sta) (p:Nat) (s:Clm):Clm:=⟨s.x+s.y*((hist S p).1-s.z) / 10 ^ 36,s.y,(hist S p).1,s.k⟩
def cutS (S:Sta) (s:Clm) (c:Rec):Clm:=⟨s.x+s.y*((hist S c.1).1-s.z) / 10 ^ 36,s.y*(c.2.2*10 ^ 36) / (c.2.1*10 ^ 36),(hist S c.1).1,s.k+1⟩
structure EarnOk (B:Nat) (S:Sta) (p:Nat) (s:Clm):Prop where
 b1:s.y*((hist S p).1-s.z)<B
 b2:s.x+s.y*((hist S p).1-s.z) / 10 ^ 36<B
structure CutOk (B:Nat) (S:Sta) (s:Clm) (c:Rec):Prop extends EarnOk B S c.1 s where
 b3:s.y*(c.2.2*10 ^ 36)<B
def RunOk (B:Nat) (S:Sta) (q:Nat):List Rec->Clm->Prop
 | [],s=>EarnOk B S q s
 | c :: C,s=>CutOk B S s c/\RunOk B S q C (cutS S s c)
theorem RunOk.at {B:Nat} {S:Sta} {q:Nat} {c:Rec} {post:List Rec}:∀ {pre:List Rec} {s:Clm},RunOk B S q (pre ++ c :: post) s->CutOk B S (pre.foldl (cutS S) s) c
 | [],_,h=>h.1
 | _ :: pre,_,h=>RunOk.at (pre:=pre) h.2
theorem RunOk.last {B:Nat} {S:Sta} {q:Nat}:∀ {C:List Rec} {s:Clm},RunOk B S q C s->EarnOk B S q (C.foldl (cutS S) s)
 | [],_,h=>h
 | _ :: C,_,h=>RunOk.last (C:=C) h.2
theorem fold_k (S:Sta):∀(C:List Rec) (s:Clm),(C.foldl (cutS S) s).k=s.k+C.length
 | [],_=>rfl
 | c :: C,s=>by rw[List.foldl_cons,fold_k S C];simp[cutS];omega
end F1
namespace Go.Proofs.YtbhnjkegkadodaaGreatDoor
open Go Go.RowKit Go.Proofs Gl
structure ClmI (bs sb ib gb rb kb nb tb fb:Nat) (Q:Nat->Prop) (s:F1.Clm) (V:World):Prop where
 es:V.heap[sb]?=some (.cells #[.pointer (some ⟨bs,0,none⟩)] 34 (0,0))
 ei:V.heap[ib]?=some (.cells #[.int .u64 16] 22 (0,0))
 eg:V.heap[gb]?=some (.cells #[.slice none 0 0] 26 (0,0))
 en:V.heap[nb]?=some (.cells #[.int .i64 (s.k:Int)] 3 (0,0))
 ef:V.heap[fb]?=some (.cells #[.func (.func 59) #[] #[.pointer (some ⟨sb,0,none⟩),.pointer (some ⟨ib,0,none⟩),.pointer (some ⟨rb,0,none⟩),.pointer (some ⟨kb,0,none⟩),.pointer (some ⟨tb,0,none⟩)]] 122 (0,0))
 er:∃R m d,V.heap[rb]?=some (.cells #[.slice R m d] 26 (0,0))/\LQ Q V R m d s.x
 ek:∃R m d,V.heap[kb]?=some (.cells #[.slice R m d] 26 (0,0))/\LQ Q V R m d s.y
 et:∃R m d,V.heap[tb]?=some (.cells #[.slice R m d] 26 (0,0))/\LQ Q V R m d s.z
theorem ClmI.upd {bs sb ib gb rb kb nb tb fb:Nat} {Q T:Nat->Prop} {s:F1.Clm} {V V':World} (h:ClmI bs sb ib gb rb kb nb tb fb Q s V) (hu:Upd T V V') (hq:∀b,Q b->¬T b) (hn:∀b,b=sb\/b=ib\/b=gb\/b=rb\/b=kb\/b=nb\/b=tb\/b=fb->¬T b):ClmI bs sb ib gb rb kb nb tb fb Q s V':=by
 have kp:∀b o,(b=sb\/b=ib\/b=gb\/b=rb\/b=kb\/b=nb\/b=tb\/b=fb)->V.heap[b]?=some o->V'.heap[b]?=some o:=fun b o hb he=>(hu.block b (zqA.1 he).1 (hn b hb)).trans he
 obtain⟨R1,m1,d1,e1,l1⟩:=h.er
 obtain⟨R2,m2,d2,e2,l2⟩:=h.ek
 obtain⟨R3,m3,d3,e3,l3⟩:=h.et
 exact⟨kp _ _ (by simp) h.es,kp _ _ (by simp) h.ei,kp _ _ (by simp) h.eg,kp _ _ (by simp) h.en,kp _ _ (by simp) h.ef,⟨R1,m1,d1,kp _ _ (by simp) e1,l1.upd hu hq⟩,⟨R2,m2,d2,kp _ _ (by simp) e2,l2.upd hu hq⟩,⟨R3,m3,d3,kp _ _ (by simp) e3,l3.upd hu hq⟩⟩
def ClaimR (F:Nat->Prop) (bs:Nat) (w:World) (L:List Ent) (x:Nat) (k:Int) (e:Ending) (w':World):Prop:=∃R m d,e=.returned (.tuple #[.agg #[.slice R m d],.int .i64 k])/\SF F bs w' L/\Upd (fun b=>b=bs) w w'/\LN (NB w) w' R m d x
end Go.Proofs.YtbhnjkegkadodaaGreatDoor
namespace Go.Proofs.YtbhnjkegkadodaaGreatDoor
open Go Go.RowKit Go.Proofs Gl Go.Shelf
attribute [local go_sem] Oper.semAt_some
structure PfxK (base bm n c bs sp pp np cp:Nat) (D:Nat->Prop) (A Ap:Option Addr) (vs:List Value) (ps:List (List Ent)) (css:List (List Value)) (pk:Bs) (W:World):Prop where
 map:MapC 182 251 base W bm D A n c vs ps css
 sto:StoB W bs bm
 b1:W.cell? ⟨sp,0,none⟩=some (.pointer (some ⟨bs,0,none⟩))
 b2:W.cell? ⟨pp,0,none⟩=some (.slice Ap np cp)
 by_:By W Ap np cp pk
end Go.Proofs.YtbhnjkegkadodaaGreatDoor
namespace Go.Proofs.YtbhnjkegkadodaaGreatDoor
open Go Go.RowKit Go.Proofs Gl Go.Shelf
attribute [local go_sem] Oper.semAt_some
section
variable {base bm n c bs sp pp np cp:Nat} {D T:Nat->Prop} {A Ap:Option Addr} {vs:List Value} {ps:List (List Ent)} {css:List (List Value)} {pk:Bs} {W W':World}
theorem PfxK.upd (h:PfxK base bm n c bs sp pp np cp D A Ap vs ps css pk W) (hu:Upd T W W') (hf:∀b,foot bm D A n c vs b->¬T b) (hs:StoB W' bs bm) (n1:¬T sp) (n2:¬T pp) (n3:∀a,Ap=some a → 0<np->¬T a.block):PfxK base bm n c bs sp pp np cp D A Ap vs ps css pk W':=
 ⟨h.map.upd hu hf,hs,(hu.cell (a:=⟨sp,0,none⟩) (zqB W _ h.b1) n1).trans h.b1,(hu.cell (a:=⟨pp,0,none⟩) (zqB W _ h.b2) n2).trans h.b2,h.by_.upd hu n3⟩
theorem PfxK.new (h:PfxK base bm n c bs sp pp np cp D A Ap vs ps css pk W) (hu:New W W'):PfxK base bm n c bs sp pp np cp D A Ap vs ps css pk W':=h.upd hu (fun _ _=>id) (h.sto.upd hu id) id id (fun _ _ _=>id)
end
end Go.Proofs.YtbhnjkegkadodaaGreatDoor
namespace Go.Proofs.YtbhnjkegkadodaaGreatDoor
open Go Go.RowKit Go.Proofs Gl Go.Shelf
attribute [local go_sem] Oper.semAt_some
def prefixed (pk:Bs) (L:List Ent):List Ent:=(L.filter (fun e=>!blt e.1 pk)).takeWhile (fun e=>decide (pk <+: e.1))
theorem twp_mid {p:Ent->Bool} {x:Ent} {B:List Ent}:∀ {A:List Ent},(∀e ∈ A,p e=true)->p x=true → (A ++ x :: B).takeWhile p=A ++ x :: B.takeWhile p
 | [],_,hx=>by rw[List.nil_append,List.takeWhile_cons,hx];rfl
 | a :: A,h,hx=>by rw[List.cons_append,List.takeWhile_cons,h a List.mem_cons_self,if_pos rfl,twp_mid (A:=A) (fun e he=>h e (List.mem_cons_of_mem a he)) hx];rfl
theorem twp_all {p:Ent->Bool}:∀ {A:List Ent},(∀e ∈ A,p e=true)->A.takeWhile p=A
 | [],_=>rfl
 | a :: A,h=>by rw[List.takeWhile_cons,h a List.mem_cons_self,if_pos rfl,twp_all (A:=A) (fun e he=>h e (List.mem_cons_of_mem a he))]
theorem twp_cut {p:Ent->Bool} {x:Ent} {B:List Ent}:∀ {A:List Ent},(∀e ∈ A,p e=true)->p x=false → (A ++ x :: B).takeWhile p=A
 | [],_,hx=>by rw[List.nil_append,List.takeWhile_cons,hx];rfl
 | a :: A,h,hx=>by rw[List.cons_append,List.takeWhile_cons,h a List.mem_cons_self,if_pos rfl,twp_cut (A:=A) (fun e he=>h e (List.mem_cons_of_mem a he)) hx]
theorem prefix1_gives {base bm n c bs sp pp np cp:Nat} {D:Nat->Prop} {A Ap:Option Addr} {vs:List Value} {ps:List (List Ent)} {css:List (List Value)} {pk:Bs} (hnp:np<=1073741824) (hlen:ps.flatten.length<=1000000) (hsz:∀e ∈ ps.flatten,e.1.length<=1073741824/\e.2.length<=1073741824):
 Gives Tryz.prog 189 #[.pointer (some ⟨sp,0,none⟩),.pointer (some ⟨pp,0,none⟩)] Copies (fun _=>False) (PfxK base bm n c bs sp pp np cp D A Ap vs ps css pk) (prefixed pk ps.flatten):=by
 intro l J Jx W hJ hJx hK h0 hY
 have l1:=zqB W _ hK.b1
 have l2:=zqB W _ hK.b2
 simp only at l1 l2
 have l5:bs<W.heap.size:=hK.sto.lt
 have hflW:∀b,foot bm D A n c vs b->b<W.heap.size:=fun b hb=>hK.map.map.toMapRaw.foot_lt hb
 have hap:∀a,Ap=some a → 0<np->a.block<W.heap.size:=fun a ha h0=>by
  obtain⟨_,_,_,e,_,h⟩:=BV.of hK.by_
  cases e
  exact h a ha h0
 obtain⟨WA,hWA⟩:∃WA,WA=W.alloc (.cells #[.func (.yield l) #[] #[]] 112):=⟨_,rfl⟩
 have hal:New W WA:=by rw[hWA];exact Upd.alloc _ _ _
 have hWAs:WA.heap.size=W.heap.size+1:=by rw[hWA];show(W.heap.push _).size=_;simp
 have hpy:WA.cell? ⟨W.heap.size,0,none⟩=some (.func (.yield l) #[] #[]):=by rw[hWA];exact zaa (Ex.alloc_new W _) 0 _ rfl
 have hKA:=hK.new hal
 have k1:=hKA.b1;have k2:=hKA.b2
 have k3:WA.cell? ⟨bs,0,none⟩=some (.pointer (some ⟨bm,0,none⟩)):=zaa (Classical.choose_spec hKA.sto) 0 _ rfl
 have HY:=zqH hY;have HJ:=zqH hJ;have HJX:=zqH hJx;have H0:=zqH h0;have HL:=zqH hlen;have HSZ:=zqH hsz;have HKA:=zqH hKA;have HAL:=zqH hal;have HFL:=zqH hflW;have HAP:=zqH hap;have HPY:=zqH hpy
 have HWS:=zqH (And.intro hWAs (And.intro l1 (And.intro l2 l5)));have HNP:=zqH hnp
 have HS:=zqH (fun W' (hn:New WA W')=>(⟨(hn.cell (a:=⟨sp,0,none⟩) (zqB WA _ k1) id).trans k1,(hn.cell (a:=⟨pp,0,none⟩) (zqB WA _ k2) id).trans k2,(hn.cell (a:=⟨bs,0,none⟩) (zqB WA _ k3) id).trans k3⟩:W'.cell? ⟨sp,0,none⟩=some (.pointer (some ⟨bs,0,none⟩))/\W'.cell? ⟨pp,0,none⟩=some (.slice Ap np cp)/\W'.cell? ⟨bs,0,none⟩=some (.pointer (some ⟨bm,0,none⟩))))
 clear hY hJ hJx hK h0 hlen hsz hal hKA hflW hap hpy hnp hWAs l1 l2 l5
 refine(callsIn_wide (n:=0)).1 ?_
 refine callsIn_of_wp_marks Tryz.func189 rfl trivial ?_ rfl
 simp only[Tryz.ntmps189,List.size_toArray,List.length_cons,List.length_nil,Nat.reduceAdd,Nat.reduceSub,Array.replicate_succ,Array.replicate_zero,List.push_toArray,List.append_toArray,List.nil_append,List.cons_append]
 refine wpIn_mono (Q:=noPanic _) ?_ (fun e a w h=>noPanic_of h)
 refine(wpIn_wide (n:=0)).2 ?_
 go_upto_region 1 with fail
 rw[<-hWA]
 clear hWA
 have hS0:=HS.out WA.drew ((Upd.refl _ WA).drew)
 refine beginK 5 (fun w'=>w'.cell? ⟨sp,0,none⟩=some (.pointer (some ⟨bs,0,none⟩))/\w'.cell? ⟨pp,0,none⟩=some (.slice Ap np cp)/\w'.cell? ⟨bs,0,none⟩=some (.pointer (some ⟨bm,0,none⟩))) (by kernel_rfl) (fun hcl=>?_)
 refine takeK 0 [3,2,1,0] (oi:=⟨some 6,.load 34 (.tmp 1),34,"kv.go:96",#[],none⟩) rfl (by kernel_rfl) (by kernel_rfl) (by kernel_rfl) (by kernel_rfl) hcl (fun _ _ _ h=>h) (v:=.pointer (some ⟨bs,0,none⟩)) (Or.inl ⟨by rfl,?_⟩) hS0 (fun hcl2=>?_)
 · rintro w' ⟨y1,y2,y3⟩
   go_simp
 simp only[Act.put,zqP]
 replace hcl:=hcl2
 clear hcl2
 refine takeK 1 [3,2,1] (oi:=⟨some 7,.nilCheck (.tmp 6),0,"kv.go:96",#[⟨0,.data⟩],none⟩) rfl (by kernel_rfl) (by kernel_rfl) (by kernel_rfl) (by kernel_rfl) hcl (fun _ _ _ h=>h) (v:=.pointer (some ⟨bs,0,none⟩)) (Or.inl ⟨by rfl,?_⟩) hS0 (fun hcl2=>?_)
 · rintro w' ⟨y1,y2,y3⟩
   go_simp
 simp only[Act.put,zqP]
 replace hcl:=hcl2
 clear hcl2
 refine takeK 2 [3,2] (oi:=⟨some 8,.fieldAddr 102 (.tmp 7) 0,0,"kv.go:96",#[⟨1,.data⟩],none⟩) rfl (by kernel_rfl) (by kernel_rfl) (by kernel_rfl) (by kernel_rfl) hcl (fun _ _ _ h=>h) (v:=.pointer (some ⟨bs,0,none⟩)) (Or.inl ⟨by rfl,?_⟩) hS0 (fun hcl2=>?_)
 · rintro w' ⟨y1,y2,y3⟩
   go_simp
 simp only[Act.put,zqP]
 replace hcl:=hcl2
 clear hcl2
 refine takeK 3 [3] (oi:=⟨some 9,.load 93 (.tmp 8),93,"kv.go:96",#[⟨2,.data⟩],none⟩) rfl (by kernel_rfl) (by kernel_rfl) (by kernel_rfl) (by kernel_rfl) hcl (fun _ _ _ h=>h) (v:=.pointer (some ⟨bm,0,none⟩)) (Or.inl ⟨by rfl,?_⟩) hS0 (fun hcl2=>?_)
 · rintro w' ⟨y1,y2,y3⟩
   go_simp
 simp only[Act.put,zqP]
 replace hcl:=hcl2
 clear hcl2
 refine takeK 4 [4] (oi:=⟨some 10,.load 113 (.tmp 2),113,"kv.go:96",#[],none⟩) rfl (by kernel_rfl) (by kernel_rfl) (by kernel_rfl) (by kernel_rfl) hcl (fun _ _ _ h=>h) (v:=.slice Ap np cp) (Or.inl ⟨by rfl,?_⟩) hS0 (fun hcl2=>?_)
 · rintro w' ⟨y1,y2,y3⟩
   go_simp
 simp only[Act.put,zqP]
 replace hcl:=hcl2
 clear hcl2
 refine oneK 5 (o:=⟨some 11,.call { callee:=.value (.func 57),args:=#[.tmp 9,.tmp 10,.const (.slice none 0 0)],argTypes:=#[93,113,113] },117,"kv.go:96",#[⟨3,.data⟩,⟨4,.data⟩],none⟩) rfl (by kernel_rfl) hcl (by rfl) (fun K hK=>?_)
 go_simp
 refine(walkft_c (HKA.out.by_.new ((Upd.refl _ WA).drew)) (By.nil _) HNP.out (by decide)).mono ?_
 rintro e We ⟨b1,b2,b3,A1,c1,A2,c2,rfl,hne,hge,q3,q4,q5,q6,q7⟩
 have ne:New WA We:=(Upd.refl _ WA).drew.trans hne
 refine hK _ _ (fun h=>absurd rfl h) (fun _=>?_)
 have HE:=zqH (And.intro ne (And.intro hge (And.intro q3 (And.intro q4 (And.intro q5 (And.intro q6 q7))))))
 clear ne hne hge q3 q4 q5 q6 q7 hcl hK K
 try simp only[Act.put,zqP]
 refine doneK (by kernel_rfl) ?_ _
 go_wp2
 refine(wpIn_wide (n:=0)).1 ?_
 obtain⟨ne,⟨g1,g2,g3⟩,q3,q4,q5,q6,q7⟩:=HE.out
 obtain⟨hW0,hW1,hW2,hW5⟩:=HWS.out
 have hsb:=ne.size
 have hBp:By We A1 np c1 pk/\∀a,A1=some a → 0<np->WA.heap.size<=a.block/\a.block<We.heap.size:=by
   obtain⟨_,_,_,e,hb,h'⟩:=q6
   cases e
   obtain⟨_,_,_,e,_,h⟩:=BV.of hb
   cases e
   exact⟨hb,fun a ha h0=>⟨by have h':WA.drew.heap.size<=a.block:=h' a ha h0;exact h',h a ha h0⟩⟩
 have g1:WA.heap.size<=b1:=g1
 have g2:WA.heap.size<=b2:=g2
 have g3:WA.heap.size<=b3:=g3
 have lb1:=zqB We _ q3
 have lb2:=zqB We _ q4
 have lb3:=zqB We _ q5
 simp only at lb1 lb2 lb3
 have hKe:=HKA.out.new ne
 have hwlk:WlkK base bm n c b1 b2 b3 np c1 0 c2 D A A1 A2 vs ps css pk We:=⟨hKe.map,q3,q4,q5,hBp.1⟩
 have hpe:We.cell? ⟨W.heap.size,0,none⟩=some (.func (.yield l) #[] #[]):=(ne.cell (a:=⟨W.heap.size,0,none⟩) (by show W.heap.size<WA.heap.size;omega) id).trans HPY.out
 have HWK:=zqH hwlk;have HKE:=zqH hKe;have HPE:=zqH hpe;have HUE:=zqH (HAL.out.trans ne);have HFA:=zqH hBp.2
 clear hwlk hKe hpe hBp ne q3 q4 q5 q6 q7 HE HPY HAL HKA k1 k2 k3 HS hS0
 refine zbb (gf:=108) (lb:=#[.pointer (some ⟨b1,0,none⟩),.pointer (some ⟨b2,0,none⟩),.pointer (some ⟨b3,0,none⟩)]) rfl (fun args w=>zas 108 Tryz.func108 (by kernel_rfl) (by kernel_rfl) args w)
   (walkKN_gives (base:=base) (bm:=bm) (n:=n) (c:=c) (b1:=b1) (b2:=b2) (b3:=b3) (nf:=np) (cf:=c1) (ct:=c2) (At:=A2) (D:=D) (A:=A) (Af:=A1) (vs:=vs) (ps:=ps) (css:=css) (fk:=pk) HL.out HSZ.out)
   (fun x _ _ vals he=>by obtain⟨_,_,_,_,_,_,e,_⟩:=he;rw[e];rfl) (fun b h=>h.elim)
   (fun P Q hk hu=>hk.upd hu (fun b hb=>by have:=HFL.out b hb;omega) (by omega) (by omega) (by omega) (fun a ha h0=>by have:=HFA.out a ha h0;omega)) HWK.out
   (fun x W0 P Q vals hz he hu=>hu.elim (fun hu=>he.upd hu (fun _ _=>id)) (fun hu=>he.upd hu (fun b hb=>by omega)))
   (fun Z (pre:List Ent) V=>((J Z pre V/\∀e ∈ pre,pk <+: e.1)/\PfxK base bm n c bs sp pp np cp D A Ap vs ps css pk V)/\V.cell? ⟨W.heap.size,0,none⟩=some (.func (.yield l) #[] #[]))
   (fun Z cd (pre:List Ent) V=>cd=.ret/\((Jx Z pre V/\∀e ∈ pre,pk <+: e.1)\/∃pre' x,pre=pre' ++ [x]/\(∀e ∈ pre',pk <+: e.1)/\¬pk <+: x.1/\J Z pre' V/\PfxK base bm n c bs sp pp np cp D A Ap vs ps css pk V))
   (fun Z hZ s P Q hs hu=>⟨⟨⟨HJ.out Z _ P Q hs.1.1.1 (hu.mono (fun b _ hb=>hb.imp id (fun h=>⟨by omega,h.2⟩))),hs.1.1.2⟩,hs.1.2.upd hu (fun b hb h=>by have:=HFL.out b hb;exact h.elim id (fun h=>by omega)) (hs.1.2.sto.upd hu (fun h=>h.elim id (fun h=>by omega))) (fun h=>h.elim id (fun h=>by omega)) (fun h=>h.elim id (fun h=>by omega)) (fun a ha h0 h=>by have:=HAP.out a ha h0;exact h.elim id (fun h=>by omega))⟩,(hu.cell (a:=⟨W.heap.size,0,none⟩) (zqB P _ hs.2) (fun h=>h.elim id (fun h=>by simp only at h;omega))).trans hs.2⟩)
   (fun Z cd hZ s P Q hs hu=>⟨hs.1,hs.2.imp (fun h=>⟨HJX.out Z _ P Q h.1 (hu.mono (fun b _ hb=>hb.imp id (fun h=>⟨by omega,h.2⟩))),h.2⟩) (fun⟨pre',x,e,h1,h2,h3,h4⟩=>⟨pre',x,e,h1,h2,HJ.out Z _ P Q h3 (hu.mono (fun b _ hb=>hb.imp id (fun h=>⟨by omega,h.2⟩))),h4.upd hu (fun b hb h=>by have:=HFL.out b hb;exact h.elim id (fun h=>by omega)) (h4.sto.upd hu (fun h=>h.elim id (fun h=>by omega))) (fun h=>h.elim id (fun h=>by omega)) (fun h=>h.elim id (fun h=>by omega)) (fun a ha h0 h=>by have:=HAP.out a ha h0;exact h.elim id (fun h=>by omega))⟩)⟩)
   (fun Z hZ=>⟨⟨⟨(HJ.out Z) _ _ _ (H0.out Z) (HUE.out.mono (fun _ _ h=>h.elim)),fun e he=>(by cases he)⟩,HKE.out⟩,HPE.out⟩)
   (fun W0 vals a' V=>∃k1 n1 e1 k2 n2 e2,vals=#[.slice k1 n1 e1,.slice k2 n2 e2]/\a' = { tmps:=#[.func (.yield l) #[] #[],.pointer (some ⟨sp,0,none⟩),.pointer (some ⟨pp,0,none⟩),.pointer (some ⟨W.heap.size,0,none⟩),.slice k1 n1 e1,.slice k2 n2 e2,.pointer (some ⟨bs,0,none⟩),.pointer (some ⟨bs,0,none⟩),.pointer (some ⟨bs,0,none⟩),.pointer (some ⟨bm,0,none⟩),.slice Ap np cp,.func (.func 108) #[] #[.pointer (some ⟨b1,0,none⟩),.pointer (some ⟨b2,0,none⟩),.pointer (some ⟨b3,0,none⟩)],.slice k1 n1 e1,.slice k2 n2 e2,undef,undef,undef,undef,undef,undef,undef,undef,undef,undef,undef],defers:=[] })
   (fun W0 vals a' P Q hs hu=>hs)
   ?assign ?body ?done ?stop
 case assign=>
   rintro l2 x W0 V vals K ⟨pre,post,hx⟩ hz hz0 ⟨A1,n1,e1,A2,n2,e2,rfl,g1,g2⟩ hk hK'
   gi_wp2
   exact hK' _ _ (Upd.refl _ _) ⟨A1,n1,e1,A2,n2,e2,rfl,rfl⟩
 case body=>
   rintro Z pre x W0 V vals a' ⟨post,hx⟩ hZ1 hZ2 ⟨⟨⟨hi,hpx⟩,hpk⟩,hyb⟩ hu0 hcp ⟨k1,n1,e1,k2,n2,e2,rfl,rfl⟩ hk
   have hkV:=hpk.upd hu0 (fun b hb h=>by have:=HFL.out b hb;exact h.elim id (fun h=>by omega)) (hpk.sto.upd hu0 (fun h=>h.elim id (fun h=>by omega))) (fun h=>h.elim id (fun h=>by omega)) (fun h=>h.elim id (fun h=>by omega)) (fun a ha h0 h=>by have:=HAP.out a ha h0;exact h.elim id (fun h=>by omega))
   have vy:V.cell? ⟨W.heap.size,0,none⟩=some (.func (.yield l) #[] #[]):=(hu0.cell (a:=⟨W.heap.size,0,none⟩) (zqB W0 _ hyb) (fun h=>h.elim id (fun h=>by simp only at h;omega))).trans hyb
   have hbk:By V k1 n1 e1 x.1:=by
    obtain⟨_,_,_,_,_,_,e,gk,_⟩:=hcp
    cases e
    obtain⟨_,_,_,e,hb,_⟩:=gk
    cases e
    exact hb
   have h190:=hasprefix_c hbk hkV.by_
   have v2:=hkV.b2
   have hjV:J Z pre V:=HJ.out Z _ _ _ hi (hu0.mono (fun b _ hb=>hb.imp id (fun h=>⟨by omega,h.2⟩)))
   by_cases hpf:pk <+: x.1
   · rw[decide_eq_true hpf]at h190
     have hL:prefixed pk ps.flatten=pre ++ x :: post.takeWhile (fun e=>decide (pk <+: e.1)):=by
      unfold prefixed
      rw[hx]
      exact twp_mid (fun e he=>decide_eq_true (hpx e he)) (decide_eq_true hpf)
     have hyl:=HY.out Z pre x W0 V _ ⟨_,hL⟩ (by omega) hZ2 hi (hu0.mono (fun b _ hb=>hb.imp id (fun h=>⟨by omega,h.2⟩))) hcp hkV
     obtain⟨fn,tmps,asg,bdy,hy,hR⟩:=hyl
     have HR:=zqH hR;have H190:=zqH h190;have HU0:=zqH hu0;have HKW:=zqH hk;have HPX:=zqH (And.intro hpx hpf);have HVY:=zqH vy
     clear hkV hbk h190 hjV hpf hL hR hu0 hk hpx hcp hi hpk hyb hx
     gi_wp2_with (refine⟨trivial,rfl,?_⟩;gi_at_call 190;refine(CallsIn.inRound _ (callsIn_wide.2 H190.out)).mono ?_;rintro e V2 ⟨rfl,rfl⟩)
     refine⟨rfl,HR.out.mono ?_⟩
     rintro e V3 ⟨hk3,hc3,h4⟩
     obtain⟨r,rfl,h5⟩:∃r,e=.returned (.bool r)/\((r=true/\J Z (pre ++ [x]) V3)\/(r=false/\Jx Z (pre ++ [x]) V3)):=h4.elim (fun h=>⟨true,h.1,.inl ⟨rfl,h.2⟩⟩) (fun h=>⟨false,h.1,.inr ⟨rfl,h.2⟩⟩)
     have hlZ:Z<=V2.heap.size:=Nat.le_trans hZ2 HU0.out.size
     have hold:=fun b (hb:W.heap.size<=b) (hb2:b<Z)=>hk3.2 b (.inl ⟨hb,hb2⟩)
     have hy3:V3.cell? ⟨W.heap.size,0,none⟩=some (.func (.yield l) #[] #[]):=(World.cell?_of_block (a:=⟨W.heap.size,0,none⟩) (hold W.heap.size (Nat.le_refl _) (by omega))).trans HVY.out
     have hkept:V3.heap[We.heap.size]?=V2.heap[We.heap.size]?/\V3.heap[We.heap.size+1]?=V2.heap[We.heap.size+1]?/\Kept (We.heap.size+2) Z W0.heap.size V2 V3:=
      ⟨hold _ (by omega) (by omega),hold _ (by omega) (by omega),hk3.1,fun k hk=>hk3.2 k (hk.imp (fun h=>⟨by omega,h.2⟩) id)⟩
     have hw3:WlkK base bm n c b1 b2 b3 np c1 0 c2 D A A1 A2 vs ps css pk V3:=
      ⟨hc3.map,(World.cell?_of_block (a:=⟨b1,0,none⟩) (hold b1 (by omega) (by omega))).trans HKW.out.box1,(World.cell?_of_block (a:=⟨b2,0,none⟩) (hold b2 (by omega) (by omega))).trans HKW.out.box2,(World.cell?_of_block (a:=⟨b3,0,none⟩) (hold b3 (by omega) (by omega))).trans HKW.out.box3,by_same (T:=fun b=>b<W.heap.size\/Z<=b) HKW.out.from_ hk3.1 (fun b hb hn=>hold b (by omega) (by omega)) (fun a ha h0=>by have:=HFA.out a ha h0;omega)⟩
     have hall:∀e ∈ pre ++ [x],pk <+: e.1:=fun e he=>(List.mem_append.1 he).elim (HPX.out.1 e) (fun h=>by rw[List.mem_singleton.1 h];exact HPX.out.2)
     have HKP:=zqH hkept;have HC3:=zqH hc3;have H5:=zqH h5;have HY3:=zqH hy3;have HW3:=zqH hw3;have HAL:=zqH hall
     clear hkept hc3 h5 h4 hk3 hy3 hy HR hold hw3 hall hlZ v2 vy
     cases r with
     | true=>
       gi_wp2
       exact⟨HKP.out,HW3.out,⟨⟨H5.out.elim (fun h=>h.2) (fun h=>by cases h.1),HAL.out⟩,HC3.out⟩,HY3.out⟩
     | false=>
       gi_wp2
       exact⟨HKP.out,HW3.out,rfl,.inl ⟨H5.out.elim (fun h=>by cases h.1) (fun h=>h.2),HAL.out⟩⟩
   · rw[decide_eq_false hpf]at h190
     have H190:=zqH h190;have HKW:=zqH hk;have HX:=zqH (And.intro hpx (And.intro hpf (And.intro hjV hkV)))
     clear hkV hbk h190 hjV hpf hu0 hk hpx hcp hi hpk hyb hx
     gi_wp2_with (refine⟨trivial,rfl,?_⟩;gi_at_call 190;refine(CallsIn.inRound _ (callsIn_wide.2 H190.out)).mono ?_;rintro e V2 ⟨rfl,rfl⟩)
     refine⟨fun f hf=>(by cases hf),?_⟩
     gi_wp2
     obtain⟨hpx,hpf,hjV,hkV⟩:=HX.out
     exact⟨⟨rfl,rfl,Nat.le_refl _,fun _ _=>rfl⟩,HKW.out,rfl,.inr ⟨pre,x,rfl,hpx,hpf,hjV,hkV⟩⟩
 case done=>
   rintro Z V hZ1 hZ2 ⟨⟨⟨hj,hall⟩,hpk⟩,hyb⟩ hd hwk
   gi_wp2
   refine⟨by simp,.inl ⟨_,_,rfl,run_takeDeferred hd,?_⟩⟩
   have hput:Upd (fun b=>b=We.heap.size) V (V.putObj We.heap.size (.deferred none)):=Upd.putObj V _ rfl
   have hL:prefixed pk ps.flatten=(ps.flatten).filter (fun e=>!blt e.1 pk):=by
    unfold prefixed
    exact twp_all fun e he=>decide_eq_true (hall e he)
   rw[hL]
   exact⟨_,results_none rfl _ _ _,⟨_,rfl⟩,Z,by omega,by simpa using hZ2,.inl ⟨HJ.out Z _ _ _ hj (hput.mono (fun b _ e=>.inr ⟨by have e:b=We.heap.size:=e;omega,by have e:b=We.heap.size:=e;omega⟩)),hpk.upd hput (fun b hb e=>by have:=HFL.out b hb;have e:b=We.heap.size:=e;omega) (hpk.sto.upd hput (by omega)) (by omega) (by omega) (fun a ha h0 e=>by have:=HAP.out a ha h0;have e:a.block=We.heap.size:=e;omega)⟩⟩
 case stop=>
   rintro Z cd pre x post V hZ1 hZ2 hx ⟨rfl,hjx⟩ hd
   gi_wp2
   refine⟨by simp,.inl ⟨_,_,rfl,run_takeDeferred hd,?_⟩⟩
   have hput:Upd (fun b=>b=We.heap.size) V (V.putObj We.heap.size (.deferred none)):=Upd.putObj V _ rfl
   have hpr:Upd (Priv (fun _=>False) W.heap.size Z) V (V.putObj We.heap.size (.deferred none)):=hput.mono (fun b _ e=>.inr ⟨by have e:b=We.heap.size:=e;omega,by have e:b=We.heap.size:=e;omega⟩)
   rcases hjx with⟨hjx,hall⟩|⟨pre',x',he,hall,hnp,hj,hpk⟩
   · refine⟨_,results_none rfl _ _ _,⟨_,rfl⟩,Z,by omega,by simpa using hZ2,.inr ⟨pre,x,post.takeWhile (fun e=>decide (pk <+: e.1)),?_,HJX.out Z _ _ _ hjx hpr⟩⟩
     unfold prefixed
     rw[hx]
     exact twp_mid (fun e he=>decide_eq_true (hall e (List.mem_append_left _ he))) (decide_eq_true (hall x (List.mem_append_right _ (List.mem_singleton.2 rfl))))
   · obtain⟨rfl,hxx⟩:=List.append_inj' he rfl
     cases hxx
     have hL:prefixed pk ps.flatten=pre:=by
      unfold prefixed
      rw[hx]
      exact twp_cut (fun e he=>decide_eq_true (hall e he)) (decide_eq_false hnp)
     rw[hL]
     exact⟨_,results_none rfl _ _ _,⟨_,rfl⟩,Z,by omega,by simpa using hZ2,.inl ⟨HJ.out Z _ _ _ hj hpr,hpk.upd hput (fun b hb e=>by have:=HFL.out b hb;have e:b=We.heap.size:=e;omega) (hpk.sto.upd hput (by omega)) (by omega) (by omega) (fun a ha h0 e=>by have:=HAP.out a ha h0;have e:a.block=We.heap.size:=e;omega)⟩⟩
end Go.Proofs.YtbhnjkegkadodaaGreatDoor
namespace Go.Proofs.YtbhnjkegkadodaaGreatDoor
open Go Go.RowKit Go.Proofs Gl
theorem clonebb_c {w:World} {g o m c:Nat} {bs:Bs} (h:By w (some ⟨g,o,none⟩) m c bs) (hm:0<m) (hn:m<=1048576):
 Calls Tryz.prog 188 #[.slice (some ⟨g,o,none⟩) m c] w fun e w'=>∃g' c',e=.returned (.slice (some ⟨g',0,none⟩) m c')/\w.heap.size<=g'/\w'.ownsRow w.heap.size 5 1 (.slice (some ⟨g',0,none⟩) m c') m (bs.map Gl.u8)/\New w w':=by
 obtain⟨i0,hi0,hz0,hz1,hz2⟩:=info_parts info5
 have hu:New w (w.alloc (.cells #[] 5)):=Upd.alloc _ _ _
 have hsrc:Gl.Src (w.alloc (.cells #[] 5)) (some ⟨g,o,none⟩) m (bs.map Gl.u8):=Gl.Src.of_sl (h.new hu).sl
 have hown:(w.alloc (.cells #[] 5)).ownsRow w.heap.size 5 1 (.slice (some ⟨w.heap.size,0,none⟩) 0 0) 0 []:=World.ownsRow_made w #[] 0 (Nat.le_refl _) (by simp[maxLen]) (by simp)
 have hlen:=h.len
 have hnil:=Lib.run_eql_slice_nil (P:=Tryz.prog) w 113 5 (some ⟨g,o,none⟩) m c 0 0 Tryz.underlying113
 have HN:=zqH hn;have HS:=zqH hsrc;have HO:=zqH hown;have HL:=zqH hlen;have HM:=zqH hm;have HU:=zqH hu
 clear h hm hn hu hsrc hown hlen
 go_enter Tryz.func188,Tryz.ntmps188
 go_wp2_with (at_builtin
              refine wpList_append_src _ rfl _ _ _ rfl w.heap.size 5 i0 _ 1 1 Tryz.underlying113 hi0 hz0 hz1 hz2 rfl (by omega) (.slice (some ⟨w.heap.size,0,none⟩) 0 0) 0 [] rfl HO.out _ _ _ (bs.map Gl.u8) rfl (by simp[HL.out]) HS.out (zar _) (by have:=HN.out;simp only[maxLen];omega) (by have:=HN.out;omega) (by show _<=(w.heap.push _).size;simp) ?_
              intro A' c' w1 hown1 hg1 hat1)
 go_ret
 simp only[Nat.zero_add,List.nil_append]at hown1 hat1
 have hM:=HM.out
 obtain⟨g',cap,cur,e,h2,_⟩:∃g cap cur,Value.slice A' m c'=.slice (some ⟨g,0,none⟩) m cap/\w.heap.size<=g/\w1.heap[g]?=some (.cells cur 5 (0,0)):=by
  rcases hown1.2 with⟨_,h0⟩|⟨g,cap,cur,e,h2,h3,_⟩
  · omega
  · exact⟨g,cap,cur,e,h2,h3⟩
 injection e with e1 e2 e3
 subst e1 e3
 refine⟨g',c',by simp,h2,hown1,HU.out.then (Upd.of_grown (S:=fun b=>b=w.heap.size) hg1 (fun c hc=>by simpa[Value.ownBlock] using hc.symm)) (fun c hc e=>by omega)⟩
theorem prefix_c {w:World} {bs np cp:Nat} {Ap:Option Addr} {pk:Bs} (hp:By w Ap np cp pk) (h0:0<np) (hnp:np<=1048576):
 Calls Tryz.prog 129 #[.pointer (some ⟨bs,0,none⟩),.slice Ap np cp] w fun e w'=>∃p1 p2 sp pp A1 c1,e=.returned (.func (.func 234) #[] #[.pointer (some ⟨p1,0,none⟩),.pointer (some ⟨p2,0,none⟩)])/\New w w'/\(w.heap.size<=p1/\w.heap.size<=p2/\w.heap.size<=sp/\w.heap.size<=pp) /\
  w'.cell? ⟨p1,0,none⟩=some (.pointer (some ⟨bs,0,none⟩))/\w'.cell? ⟨p2,0,none⟩=some (.func (.func 189) #[] #[.pointer (some ⟨sp,0,none⟩),.pointer (some ⟨pp,0,none⟩)])/\w'.cell? ⟨sp,0,none⟩=some (.pointer (some ⟨bs,0,none⟩))/\w'.cell? ⟨pp,0,none⟩=some (.slice A1 np c1)/\BV (fun b=>w.heap.size<=b) w' (.slice A1 np c1) pk:=by
 obtain⟨g,o,rfl,_⟩:=hp.addr h0
 obtain⟨W1,hW1⟩:∃W1,W1=w.alloc (.cells #[.pointer (some ⟨bs,0,none⟩)] 34):=⟨_,rfl⟩
 obtain⟨W2,hW2⟩:∃W2,W2=W1.alloc (.cells #[.slice (some ⟨g,o,none⟩) np cp] 113):=⟨_,rfl⟩
 have s1:W1.heap.size=w.heap.size+1:=by rw[hW1];exact zad _ _
 have s2:W2.heap.size=w.heap.size+1+1:=by rw[hW2,zad,s1]
 have n1:New w W1:=by rw[hW1];exact Upd.alloc _ _ _
 have n2:New W1 W2:=by rw[hW2];exact Upd.alloc _ _ _
 have k1:=Ex.alloc_new w (.cells #[.pointer (some ⟨bs,0,none⟩)] 34)
 rw[<-hW1]at k1
 replace k1:=(n2.block w.heap.size (by omega) id).trans k1
 have k2:=Ex.alloc_new W1 (.cells #[.slice (some ⟨g,o,none⟩) np cp] 113)
 rw[<-hW2,s1]at k2
 have c2:=zaa k2 0 _ rfl
 have HB:=zqH (And.intro k1 (And.intro k2 (And.intro (n1.trans n2) s2)));have HP:=zqH (hp.new (n1.trans n2));have HNP:=zqH (And.intro h0 hnp)
 clear k1 k2 n1 n2 s1 s2 hp hnp h0
 go_enter Tryz.func129,Tryz.ntmps129
 go_upto_region 1 with fail
 rw[<-hW1,<-hW2]
 clear hW1 hW2
 go_upto_region 2 with(go_at_call 188
                       refine(clonebb_c HP.out HNP.out.1 HNP.out.2).mono ?_
                       rintro e w3 ⟨g',c',rfl,hg,hown,hn3⟩
                       have k2:=(hn3.block _ (zqA.1 HB.out.2.1).1 id).trans HB.out.2.1
                       have d2:=zaa k2 0 _ rfl
                       have z2:=zac k2 0
                       have H3:=zqH (And.intro hg (And.intro hown (And.intro hn3 k2)))
                       clear hg hown hn3 k2)
 obtain⟨W4,hW4⟩:∃W4,W4=w3.setCell ⟨w.heap.size+1,0,none⟩ (.slice (some ⟨g',0,none⟩) np c'):=⟨_,rfl⟩
 rw[<-hW4]
 obtain⟨hg,hown,hn3,k2⟩:=H3.out
 obtain⟨b1,b2,nb,sb⟩:=HB.out
 have hst:Upd (fun x=>x=w.heap.size+1) w3 W4:=by rw[hW4];exact Upd.setCell w3 _ rfl
 have k4:W4.heap[w.heap.size+1]?=some (.cells #[.slice (some ⟨g',0,none⟩) np c'] 113 (0,0)):=by rw[hW4,zab k2];rfl
 have hz3:=hn3.size
 have k1:=(hst.block w.heap.size (by omega) (by omega)).trans ((hn3.block w.heap.size (by omega) id).trans b1)
 have hby:By w3 (some ⟨g',0,none⟩) np c' pk:=By.of_own hown HP.out.small
 have hbv:BV (fun b=>w.heap.size<=b) W4 (.slice (some ⟨g',0,none⟩) np c') pk:=⟨_,_,_,rfl,hby.upd hst (fun a ha _ e=>by cases ha;have e:g'=w.heap.size+1:=e;omega),fun a ha _=>by cases ha;show w.heap.size<=g';omega⟩
 have e1:=zaa k1 0 _ rfl
 have H4:=zqH (And.intro k1 (And.intro k4 (And.intro hbv (And.intro ((nb.trans hn3).then hst (fun x hx e=>by have e:x=w.heap.size+1:=e;omega):New w W4) (show w.heap.size+2<=W4.heap.size from by have:=hst.size;omega)))))
 clear hg hown hn3 k2 b1 b2 nb sb hst k4 hz3 k1 hby hbv hW4 d2 z2 c2
 go_wp2_with (go_at_call 175;refine counted_c.mono ?_;rintro e w5 ⟨p1,p2,rfl,hn5,hp1,hp2,hl1,hl2,hc1,hc2⟩;have H5:=zqH (And.intro hn5 (And.intro hp1 (And.intro hp2 (And.intro hc1 hc2))));clear hn5 hp1 hp2 hl1 hl2 hc1 hc2)
 go_ret
 obtain⟨k1,k4,hbv,nw,hz⟩:=H4.out
 obtain⟨hn5,hp1,hp2,hc1,hc2⟩:=H5.out
 exact⟨p1,p2,w.heap.size,w.heap.size+1,some ⟨g',0,none⟩,c',rfl,nw.trans hn5,⟨by omega,by omega,Nat.le_refl _,by omega⟩,hc1,hc2,zaa ((hn5.block _ (by omega) id).trans k1) 0 _ rfl,zaa ((hn5.block _ (by omega) id).trans k4) 0 _ rfl,hbv.upd hn5 (fun _ _=>id)⟩
end Go.Proofs.YtbhnjkegkadodaaGreatDoor

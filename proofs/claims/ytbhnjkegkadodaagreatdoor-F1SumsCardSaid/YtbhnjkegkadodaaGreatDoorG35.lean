/- Part of the proof. -/
import Derived.Test.YtbhnjkegkadodaaGreatDoorG33
import Derived.Test.YtbhnjkegkadodaaGreatDoorCuD
set_option linter.all false
set_option maxRecDepth 100000
set_option maxHeartbeats 8000000
namespace Gz
open Go Go.RowKit Go.Proofs Gl Go.Shelf
attribute [local go_sem] Oper.semAt_some
theorem between_cuts {S:F1.Sta} (hS:F1.Fine S) {fr:Nat} (hfr:fr+1<18446744073709551616):between (F1.ck (fr+1)) (118 :: (be 8 16 ++ [116])) (F1.ents S)=(S.c.filter (fun x=>decide (fr<x.1))).map F1.entC:=by
 unfold between F1.ents;rw[List.filter_append];have h1:(S.h.map F1.entH).filter (fun e=>!blt e.1 (F1.ck (fr+1)))=[]:=List.filter_eq_nil_iff.2 fun e he=>by
  obtain⟨x,_,rfl⟩:=List.mem_map.1 he;simp[F1.entH,F1.blt_hc]
 have h2:(S.c.map F1.entC).filter (fun e=>!blt e.1 (F1.ck (fr+1)))=(S.c.filter (fun x=>decide (fr<x.1))).map F1.entC:=by
  rw[List.filter_map]
  congr 1
  refine List.filter_congr fun x hx=>?_
  show(!blt (F1.ck x.1) (F1.ck (fr+1)))=_
  rw[F1.blt_cc (hS.c x hx) hfr];by_cases h:x.1<fr+1
  · have:¬fr<x.1:=(by omega);simp[h,this]
  · have:fr<x.1:=(by omega);simp[h,this]
 rw[h1,h2,List.nil_append];refine tw_all fun e he=>?_
 obtain⟨x,_,rfl⟩:=List.mem_map.1 he;show blt (F1.ck x.1) _=true;unfold F1.ck;rw[F1.blt_self_cons,F1.blt_pre];simp[blt]
structure CutM (base bm n c bs fp lp ip sp fr la:Nat) (D:Nat->Prop) (A:Option Addr) (vs:List Value) (ps:List (List Ent)) (css:List (List Value)) (W:World):Prop where
 map:MapC 182 251 base W bm D A n c vs ps css
 sto:StoB W bs bm
 b1:W.cell? ⟨fp,0,none⟩=some (.int .u64 (fr:Int))
 b2:W.cell? ⟨lp,0,none⟩=some (.int .u64 (la:Int))
 b3:W.cell? ⟨ip,0,none⟩=some (.int .u64 16)
 b4:W.cell? ⟨sp,0,none⟩=some (.pointer (some ⟨bs,0,none⟩))
end Gz
namespace Gz
open Go Go.RowKit Go.Proofs Gl Go.Shelf
attribute [local go_sem] Oper.semAt_some
section
variable {base bm n c bs fp lp ip sp fr la:Nat} {D T:Nat->Prop} {A:Option Addr} {vs:List Value} {ps:List (List Ent)} {css:List (List Value)} {W W':World}
theorem CutM.upd (h:CutM base bm n c bs fp lp ip sp fr la D A vs ps css W) (hu:Upd T W W') (hf:∀b,foot bm D A n c vs b->¬T b) (hs:StoB W' bs bm) (n1:¬T fp) (n2:¬T lp) (n3:¬T ip) (n4:¬T sp):CutM base bm n c bs fp lp ip sp fr la D A vs ps css W':=
 ⟨h.map.upd hu hf,hs,(hu.cell (a:=⟨fp,0,none⟩) (zqB W _ h.b1) n1).trans h.b1,(hu.cell (a:=⟨lp,0,none⟩) (zqB W _ h.b2) n2).trans h.b2,(hu.cell (a:=⟨ip,0,none⟩) (zqB W _ h.b3) n3).trans h.b3,(hu.cell (a:=⟨sp,0,none⟩) (zqB W _ h.b4) n4).trans h.b4⟩
theorem CutM.new (h:CutM base bm n c bs fp lp ip sp fr la D A vs ps css W) (hu:New W W'):CutM base bm n c bs fp lp ip sp fr la D A vs ps css W':=h.upd hu (fun _ _=>id) (h.sto.upd hu id) id id id id
end
end Gz
namespace Gz
open Go Go.RowKit Go.Proofs Gl Go.Shelf
attribute [local go_sem] Oper.semAt_some
theorem by_same {w w':World} {A:Option Addr} {n c:Nat} {bs:Bs} {T:Nat->Prop} (h:By w A n c bs) (hz:w.heap.size<=w'.heap.size) (hb:∀b,b<w.heap.size->¬T b->w'.heap[b]?=w.heap[b]?) (hn:∀a,A=some a → 0<n->¬T a.block):By w' A n c bs:=by
 obtain⟨W2,e⟩:∃W2,W2 = { w with heap:=w'.heap }:=⟨_,rfl⟩
 have hu:Upd T w W2:=by rw[e];exact⟨rfl,rfl,rfl,hz,hb⟩
 have h2:=h.upd hu hn;rw[e]at h2;exact⟨⟨h2.sl.len,h2.sl.le,h2.sl.max,fun h0=>let ⟨b,off,e,hr⟩:=h2.sl.row h0;⟨b,off,e,hr.1,hr.2⟩,h2.sl.nil⟩,h2.small⟩
theorem CntT.via {base bm n c b1 b2 b3 nf cf nt ct bs p1 p2:Nat} {D T:Nat->Prop} {A Af At:Option Addr} {vs:List Value} {ps:List (List Ent)} {css:List (List Value)} {fk tk:Bs} {W W':World} (h:CntT base bm n c b1 b2 b3 nf cf nt ct bs p1 p2 D A Af At vs ps css fk tk W) (hz:W.heap.size<=W'.heap.size) (hb:∀b,b<W.heap.size->¬T b->W'.heap[b]?=W.heap[b]?) (hm:MapC 182 251 base W' bm D A n c vs ps css) (hs:StoB W' bs bm) (h1:¬T b1) (h2:¬T b2) (h3:¬T b3) (h4:∀a,Af=some a → 0<nf->¬T a.block) (h4':∀a,At=some a → 0<nt->¬T a.block) (h5:¬T p1) (h6:¬T p2):CntT base bm n c b1 b2 b3 nf cf nt ct bs p1 p2 D A Af At vs ps css fk tk W':=by
 have hc:∀(p:Nat) (v:Value),¬T p->W.cell? ⟨p,0,none⟩=some v->W'.cell? ⟨p,0,none⟩=some v:=fun p v hp hv=>(World.cell?_of_block (a:=⟨p,0,none⟩) (hb p (zqB W _ hv) hp)).trans hv;exact⟨⟨⟨hm,hc _ _ h1 h.wlk.box1,hc _ _ h2 h.wlk.box2,hc _ _ h3 h.wlk.box3,by_same h.wlk.from_ hz hb h4⟩,by_same h.wlk.to_ hz hb h4'⟩,hc _ _ h5 h.box1,hc _ _ h6 h.box2,hs⟩
def CutV (x:F1.Rec) (_ _:World) (vals:Array Value):Prop:=vals=#[.int .u64 (x.1:Int),.agg #[.int .u64 (x.2.1:Int),.int .u64 (x.2.2:Int)]]
theorem cuts_pick {M:List F1.Rec} {pre post:List Ent} {x:Ent} (h:M.map F1.entC=pre ++ x :: post):∃y rest,F1.entC y=x/\M=M.take pre.length ++ y :: rest/\M.take (pre ++ [x]).length=M.take pre.length ++ [y]:=by
 obtain⟨M1,M2,hM,h1,h2⟩:=List.map_eq_append_iff.1 h;obtain⟨y,M3,a1,h3,h4⟩:=List.map_eq_cons_iff.1 h2;have hl:pre.length=M1.length:=by rw[<-h1];simp
 refine⟨y,M3,h3,?_,?_⟩
 · rw[hl,hM,List.take_left,a1]
 · have e1:M=(M1 ++ [y]) ++ M3:=by rw[hM,a1];simp
   have e2:(pre ++ [x]).length=(M1 ++ [y]).length:=by simp[hl]
   rw[e2,hl]
   conv=>lhs;rw[e1,List.take_left]
   rw[hM,List.take_left]
theorem cuts1_gives {base bm n c bs fp lp ip sp fr la:Nat} {D:Nat->Prop} {A:Option Addr} {vs:List Value} {ps:List (List Ent)} {css:List (List Value)} {S:F1.Sta} (hS:Okay S) (hps:ps.flatten=F1.ents S) (hsz:∀e ∈ ps.flatten,e.1.length<=1073741824/\e.2.length<=1073741824) (hfr:fr+1<18446744073709551616) (hcv:∀x ∈ S.c,x.1<18446744073709551616/\x.1<=la/\x.2.1<18446744073709551616/\x.2.2<18446744073709551616)
 (hfb:¬foot bm D A n c vs bs) (hne:fp≠bs/\lp≠bs/\ip≠bs/\sp≠bs):
 Gives Tryz.prog 114 #[.pointer (some ⟨fp,0,none⟩),.pointer (some ⟨lp,0,none⟩),.pointer (some ⟨ip,0,none⟩),.pointer (some ⟨sp,0,none⟩)] CutV (fun b=>b=bs) (CutM base bm n c bs fp lp ip sp fr la D A vs ps css) (S.c.filter (fun x=>decide (fr<x.1))):=by
 intro l J Jx W hJ hJx hK h0 hY;obtain⟨M,hM⟩:=zE (S.c.filter (fun x=>decide (fr<x.1)));have l6:between (F1.ck (fr+1)) (118 :: (be 8 16 ++ [116])) ps.flatten=M.map F1.entC:=by rw[hps,hM];exact between_cuts hS.fine hfr
 have l7:∀x ∈ M,fr<x.1/\x.1<18446744073709551616/\x.1<=la/\x.2.1<18446744073709551616/\x.2.2<18446744073709551616:=fun x hx=>by
  rw[hM]at hx;obtain⟨h1,h2⟩:=List.mem_filter.1 hx;exact⟨of_decide_eq_true h2,hcv x h1⟩
 rw[<-hM]at hY ⊢;have e8:ps.flatten.length<=1000000:=by rw[hps];exact hS.len
 have l1:=zqB W _ hK.b1;have l2:=zqB W _ hK.b2;have l3:=zqB W _ hK.b3;have l4:=zqB W _ hK.b4;simp only at l1 l2 l3 l4;have l5:bs<W.heap.size:=hK.sto.lt;have e9:∀b,foot bm D A n c vs b->b<W.heap.size:=fun b hb=>hK.map.map.toMapRaw.foot_lt hb;obtain⟨WA,b7⟩:=zE (W.alloc (.cells #[.func (.yield l) #[] #[]] 188));have f9:New W WA:=by rw[b7];exact zU _ _ _
 have f0:WA.heap.size=W.heap.size+1:=by rw[b7];show(W.heap.push _).size=_;simp
 have l8:WA.cell? ⟨W.heap.size,0,none⟩=some (.func (.yield l) #[] #[]):=by rw[b7];exact zaa (zX W _) 0 _ rfl
 have a4:=hK.new f9;have k1:=a4.b1;have k2:=a4.b2;have k3:=a4.b3;have k4:=a4.b4;have HY:=zqH hY;have HJ:=zqH hJ;have m0:=zqH hJx;have HK:=zqH hK;have H0:=zqH h0;have HL:=zqH e8;have t8:=zqH hsz;have g0:=zqH a4;have m2:=zqH hfb;have a2:=zqH hne;have g6:=zqH f9;have g7:=zqH e9;have g8:=zqH l6;have m5:=zqH l7;have m6:=zqH hfr;have g9:=zqH (zN f0 (zN l1 (zN l2 (zN l3 (zN l4 l5)))));have m7:=zqH l8;clear hY hJ hJx hK h0 e8 hsz f9 a4 hfb e9 l6 l7 hfr hne hS hps hcv hM f0 l1 l2 l3 l4 l5 l8;refine(callsIn_wide (n:=0)).1 ?_
 refine callsIn_of_wp_marks Tryz.func114 rfl trivial ?_ rfl;simp only[Tryz.ntmps114,List.size_toArray,List.length_cons,List.length_nil,Nat.reduceAdd,Nat.reduceSub,Array.replicate_succ,Array.replicate_zero,List.push_toArray,List.append_toArray,List.nil_append,List.cons_append];refine wpIn_mono (Q:=noPanic _) ?_ (fun e a w h=>noPanic_of h)
 refine(wpIn_wide (n:=0)).2 ?_
 go_upto_region 1 with fail
 rw[<-b7];clear b7;by_cases hge:la<=fr
 · have hg:decide ((fr:Int) ≥ (la:Int))=true:=by simp;omega
   have t9:M=[]:=List.eq_nil_iff_forall_not_mem.2 fun x hx=>by have:=m5.out x hx;omega
   subst t9;go_wp2;exact⟨_,results_none rfl _ _ _,⟨_,rfl⟩,W.heap.size,zR _,by have:=g9.out.1;omega,.inl ⟨HJ.out _ _ _ _ (H0.out _) (g6.out.mono (fun _ _ h=>h.elim)),g0.out⟩⟩
 · have hg:decide ((fr:Int) ≥ (la:Int))=false:=by simp;omega
   have m8:=zqH (fun W=>under_c (w:=W) 8 118 115 16 form8 (by decide) (by decide) (by decide) (by decide));have e0:=zqH (fun W=>keyC (w:=W) (fr+1) m6.out);have z3:IntKind.u64.wrap ((fr:Int)+1)=((fr+1:Nat):Int):=by have:=m6.out;rw[IntKind.wrap_u64];omega
   go_upto_region 3 with(go_at_call 115;refine(m8.out WA).mono ?_;rintro e Wb ⟨Ah,ch,rfl,q8,q9,r1⟩;have HB:=zqH (zN q8 q9);clear m8 q8 q9 r1)
   have a8:=g0.out.new HB.out.2;have m1:=a8.b1;have m3:=a8.b3;have m4:=a8.b4;have a3:=zqH a8;have a9:∀W',New Wb W'->W'.cell? ⟨sp,0,none⟩=some (.pointer (some ⟨bs,0,none⟩))/\W'.cell? ⟨ip,0,none⟩=some (.int .u64 16)/\W'.cell? ⟨fp,0,none⟩=some (.int .u64 (fr:Int)):=fun W' hn=>⟨(a3.out.new hn).b4,(a3.out.new hn).b3,(a3.out.new hn).b1⟩
   have e3:=zqH a9;clear a9 a8
   go_region_held (fun w'=>w'.cell? ⟨sp,0,none⟩=some (.pointer (some ⟨bs,0,none⟩))/\w'.cell? ⟨ip,0,none⟩=some (.int .u64 16)/\w'.cell? ⟨fp,0,none⟩=some (.int .u64 (fr:Int))) (go_keep) (first
    | (go_at_call 78
       refine(e0.out _).mono ?_
       rintro e Wc ⟨Ak,ck,rfl,hk,r2,w5⟩;have nc:New Wb Wc:=(Upd.refl _ Wb).drew.trans r2;obtain⟨f1,f2,f3⟩:=e3.out _ nc;have HC:=zqH (zN hk nc);clear hk r2 nc w5)
    | (go_at_call 117
       refine(next_c (HB.out.1.new HC.out.2) (y:=115) (by rfl) (by decide)).mono ?_
       rintro e Wd ⟨At,ct,rfl,ht,j0⟩;have nd:New Wb Wd:=HC.out.2.trans j0;obtain⟨i1,i2,i3⟩:=e3.out _ nd;have HD:=zqH (zN ht (zN nd (HC.out.1.new j0)));clear ht j0 nd)
    | (go_at_call 116
       refine(kwalkft_c (a3.out.sto.upd HD.out.2.1 id) HD.out.2.2 HD.out.1 (by decide) (by decide)).mono ?_
       rintro e We ⟨p1,p2,b1,b2,b3,A1,c1,A2,c2,rfl,hne,f8,q1,q2,q3,q4,q5,q6,q7⟩;have ne:New Wb We:=HD.out.2.1.trans hne;obtain⟨j1,j2,j3⟩:=e3.out _ ne;have HE:=zqH (zN ne (zN f8 (zN q1 (zN q2 (zN q3 (zN q4 (zN q5 (zN q6 (zN HD.out.2.1.size q7)))))))));clear ne hne f8 q1 q2 q3 q4 q5 q6 q7))
   clear f1 f2 f3 i1 i2 i3 j1 j2 j3 m1 m3 m4;go_wp2;refine(wpIn_wide (n:=0)).1 ?_
   obtain⟨hne,⟨h1,h2,h3,h4,h5⟩,q1,q2,q3,q4,q5,q6,am,q7⟩:=HE.out;have z7:W.heap.size+1<=Wb.heap.size:=by have:=HB.out.2.size;have:=g9.out.1;omega
   have z8:=hne.size;have m9:(∀a,A1=some a → 0<18->Wb.heap.size<=a.block/\a.block<We.heap.size)/\∀a,A2=some a → 0<10->Wb.heap.size<=a.block/\a.block<We.heap.size:=by
    refine⟨fun a ha h0=>?_,fun a ha h0=>?_⟩
    · obtain⟨_,_,_,e2,hb,h'⟩:=q6;cases e2;obtain⟨_,_,_,e,_,h⟩:=BV.of hb;cases e;exact⟨by have:=h' a ha h0;omega,h a ha h0⟩
    · obtain⟨_,_,_,e2,hb,h'⟩:=q7;cases e2;obtain⟨_,_,_,e,_,h⟩:=BV.of hb;cases e;exact⟨by have:=h' a ha h0;omega,h a ha h0⟩
   have u1:=zqB We _ q1;have u2:=zqB We _ q2;have u3:=zqB We _ q3;have u4:=zqB We _ q4;have u5:=zqB We _ q5;simp only at u1 u2 u3 u4 u5;have f4:CntT base bm n c b1 b2 b3 18 c1 10 c2 bs p1 p2 D A A1 A2 vs ps css (F1.ck (fr+1)) (118 :: (be 8 16 ++ [116])) We:=by
    refine⟨⟨⟨a3.out.map.upd hne (fun _ _=>id),q3,q4,q5,?_⟩,?_⟩,q1,q2,a3.out.sto.upd hne id⟩
    · obtain⟨_,_,_,e,hb,h⟩:=q6;cases e;exact hb
    · obtain⟨_,_,_,e,hb,h⟩:=q7;cases e;exact hb
   obtain⟨an,ao,ap,ar,au,av⟩:=g9.out;have o0:We.cell? ⟨W.heap.size,0,none⟩=some (.func (.yield l) #[] #[]):=((HB.out.2.trans hne).cell (a:=⟨W.heap.size,0,none⟩) (by show W.heap.size<WA.heap.size;omega) id).trans m7.out;have o1:=a3.out.new hne;have o2:New W We:=(g6.out.trans HB.out.2).trans hne;have u6:=zqH f4;have e4:=zqH o1;have u7:=zqH o0;have u9:=zqH o2;have a5:=zqH m9;clear f4 o1 o0 o2 m9 hne q1 q2 q3 q4 q5 q6 q7 HE HB a3 e3 HC HD m7 g6 g0;have h6:∀Z b,b<We.heap.size->b≠bs->¬Priv (fun b=>b=bs) We.heap.size Z b:=fun Z b hb hn h=>h.elim hn (fun h=>by omega);have o3:∀Z b,foot bm D A n c vs b->¬Priv (fun b=>b=bs) We.heap.size Z b:=fun Z b hb=>h6 Z b (by have:=g7.out b hb;omega) (fun e=>m2.out (e▸hb));have v0:∀b,foot bm D A n c vs b->¬b=We.heap.size:=fun b hb e=>by have:=g7.out b hb;omega
   have a1:=zqH h6;have z9:=zqH o3;clear h6 o3;refine zbd (gf:=234) (lb:=#[.pointer (some ⟨p1,0,none⟩),.pointer (some ⟨p2,0,none⟩)]) rfl (fun args w=>zaw 234 Tryz.func234 (by kernel_rfl) (by kernel_rfl) args w)
    (countedT_gives (base:=base) (bm:=bm) (n:=n) (c:=c) (b1:=b1) (b2:=b2) (b3:=b3) (nf:=18) (cf:=c1) (nt:=10) (ct:=c2) (bs:=bs) (p1:=p1) (p2:=p2) (D:=D) (A:=A) (Af:=A1) (At:=A2) (vs:=vs) (ps:=ps) (css:=css) (fk:=F1.ck (fr+1)) (tk:=118 :: (be 8 16 ++ [116])) (by decide) HL.out t8.out m2.out ⟨by omega,by omega,by omega,by omega,by omega⟩ ⟨fun a ha h0=>by have:=a5.out.1 a ha h0;omega,fun a ha h0=>by have:=a5.out.2 a ha h0;omega⟩)
    (fun x _ _ vals he=>by obtain⟨_,_,_,_,_,_,e,_⟩:=he;rw[e];rfl) (fun b h=>by omega)
    (fun P Q hk hu=>hk.upd hu (fun b hb=>by have:=g7.out b hb;omega) (by omega) (by omega) (by omega) (fun a ha h0=>by have:=a5.out.1 a ha h0;omega) (fun a ha h0=>by have:=a5.out.2 a ha h0;omega) (by omega) (by omega) (hk.sto.upd hu (by omega))) u6.out
    (fun x W0 P Q vals hz he hu=>hu.elim (fun hu=>he.upd hu (fun _ _=>id)) (fun hu=>he.upd hu (fun b hb=>by omega)))
    (fun Z (pre:List Ent) V=>J Z (M.take pre.length) V/\V.cell? ⟨fp,0,none⟩=some (.int .u64 (fr:Int))/\V.cell? ⟨lp,0,none⟩=some (.int .u64 (la:Int))/\V.cell? ⟨ip,0,none⟩=some (.int .u64 16)/\V.cell? ⟨sp,0,none⟩=some (.pointer (some ⟨bs,0,none⟩))/\V.cell? ⟨W.heap.size,0,none⟩=some (.func (.yield l) #[] #[]))
    (fun Z cd (pre:List Ent) V=>cd=.ret/\Jx Z (M.take pre.length) V)
    (fun Z hZ s P Q hs hu=>⟨HJ.out Z _ P Q hs.1 (hu.mono (fun b _ hb=>hb.elim .inl (fun h=>.inr ⟨by omega,h.2⟩))),(hu.cell (a:=⟨fp,0,none⟩) (zqB P _ hs.2.1) (a1.out Z fp (by omega) a2.out.1)).trans hs.2.1,(hu.cell (a:=⟨lp,0,none⟩) (zqB P _ hs.2.2.1) (a1.out Z lp (by omega) a2.out.2.1)).trans hs.2.2.1,(hu.cell (a:=⟨ip,0,none⟩) (zqB P _ hs.2.2.2.1) (a1.out Z ip (by omega) a2.out.2.2.1)).trans hs.2.2.2.1,(hu.cell (a:=⟨sp,0,none⟩) (zqB P _ hs.2.2.2.2.1) (a1.out Z sp (by omega) a2.out.2.2.2)).trans hs.2.2.2.2.1,(hu.cell (a:=⟨W.heap.size,0,none⟩) (zqB P _ hs.2.2.2.2.2) (a1.out Z W.heap.size (by omega) (by omega))).trans hs.2.2.2.2.2⟩)
    (fun Z cd hZ s P Q hs hu=>⟨hs.1,m0.out Z _ P Q hs.2 (hu.mono (fun b _ hb=>hb.elim .inl (fun h=>.inr ⟨by omega,h.2⟩)))⟩)
    (fun Z hZ=>⟨(HJ.out Z) _ _ _ (H0.out Z) (u9.out.mono (fun _ _ h=>h.elim)),e4.out.b1,e4.out.b2,e4.out.b3,e4.out.b4,u7.out⟩)
    (fun W0 vals a' V=>∃k1 n1 e1 k2 n2 e2,vals=#[.slice k1 n1 e1,.slice k2 n2 e2]/\a' = { tmps:=#[.func (.yield l) #[] #[],.pointer (some ⟨fp,0,none⟩),.pointer (some ⟨lp,0,none⟩),.pointer (some ⟨ip,0,none⟩),.pointer (some ⟨sp,0,none⟩),.pointer (some ⟨W.heap.size,0,none⟩),.slice Ah 10 ch,.int .i64 0,.slice k1 n1 e1,.slice k2 n2 e2,undef,undef,undef,undef,.int .u64 (fr:Int),.int .u64 (la:Int),.bool false,.tuple #[.slice Ah 10 ch,.int .i64 0],.int .u64 16,.tuple #[.slice Ah 10 ch,.int .i64 0],.slice Ah 10 ch,.int .i64 0,.pointer (some ⟨bs,0,none⟩),.int .u64 16,.int .u64 (fr:Int),.int .u64 ((fr:Int)+1),.slice Ak 18 ck,.slice Ah 10 ch,.slice At 10 ct,.func (.func 234) #[] #[.pointer (some ⟨p1,0,none⟩),.pointer (some ⟨p2,0,none⟩)],.slice k1 n1 e1,.slice k2 n2 e2,undef,undef,undef,undef,undef,undef,undef,undef,undef,undef,undef,undef,undef,undef,undef,undef,undef,undef,undef,undef,undef,undef],defers:=[] })
    (fun W0 vals a' P Q hs hu=>hs)
    ?assign ?body ?done ?stop
   case assign=>
    rintro l2 x W0 V vals K ⟨pre,post,hx⟩ hz hz0 ⟨A1,n1,e1,A2,n2,e2,rfl,g1,g2⟩ hk hK'
    gi_wp2
    exact hK' _ _ (Upd.refl _ _) ⟨A1,n1,e1,A2,n2,e2,rfl,rfl⟩
   case body=>
    rintro Z pre x W0 V vals a' ⟨post,hx⟩ hZ1 hZ2 ⟨hi,g1,g2,g3,g4,g5⟩ hu0 hcp ⟨k1,n1,e1,k2,n2,e2,rfl,rfl⟩ hk;rw[g8.out]at hx;obtain⟨y,rest,rfl,b8,e6⟩:=cuts_pick hx;obtain⟨y1,y2,y3⟩:=y;have v1:=m5.out (y1,y2,y3) (by rw[b8];simp);obtain⟨p8,i5,w0,i6,i7⟩:=v1;simp only at p8 i5 w0 i6 i7;obtain⟨aw,ax,ay,az,ba,bb,e,gk,gv⟩:=hcp;cases e;obtain⟨_,_,_,e,i9,_⟩:=gk;cases e;obtain⟨_,_,_,e,p9,_⟩:=gv;cases e;have o4:n1=18:=(by have:=i9.len;simp[F1.entC,F1.ck,zah]at this;omega);subst o4;have t1:=(hu0.cell (a:=⟨fp,0,none⟩) (zqB W0 _ g1) (a1.out Z fp (by omega) a2.out.1)).trans g1;have t2:=(hu0.cell (a:=⟨lp,0,none⟩) (zqB W0 _ g2) (a1.out Z lp (by omega) a2.out.2.1)).trans g2;have t3:=(hu0.cell (a:=⟨ip,0,none⟩) (zqB W0 _ g3) (a1.out Z ip (by omega) a2.out.2.2.1)).trans g3;have t4:=(hu0.cell (a:=⟨sp,0,none⟩) (zqB W0 _ g4) (a1.out Z sp (by omega) a2.out.2.2.2)).trans g4;have t5:=(hu0.cell (a:=⟨W.heap.size,0,none⟩) (zqB W0 _ g5) (a1.out Z W.heap.size (by omega) (by omega))).trans g5;have b0:CutM base bm n c bs fp lp ip sp fr la D A vs ps css V:=⟨hk.wlk.map,hk.sto,t1,t2,t3,t4⟩
    have f5:=read_c i9 i5;have aa:decide ((y1:Int) > (la:Int))=false:=(by simp;omega);have o5:=zqH b0;have v2:=zqH hk;have o6:=zqH t5;have o7:=zqH hu0;have HI:=zqH hi;have v3:=zqH p9;have o8:=zqH (zN b8 e6);have o9:=zqH (zN i6 i7);have v4:Hid (∀V2,New V V2->YieldAt FW 0 Tryz.prog l #[.int .u64 (y1:Int),.agg #[.int .u64 (y2:Int),.int .u64 (y3:Int)]] V2 fun e W'=>Kept W.heap.size Z W0.heap.size V2 W'/\CutM base bm n c bs fp lp ip sp fr la D A vs ps css W'/\((e=.returned (.bool true)/\J Z (M.take (pre ++ [F1.entC (y1,y2,y3)]).length) W')\/(e=.returned (.bool false)/\Jx Z (M.take (pre ++ [F1.entC (y1,y2,y3)]).length) W'))):=zqH (fun V2 b9=>by
     rw[o8.out.2];exact HY.out Z (M.take pre.length) (y1,y2,y3) W0 V2 _ ⟨rest,o8.out.1⟩ (by omega) hZ2 HI.out ((o7.out.mono (fun b _ hb=>hb.elim .inl (fun h=>.inr ⟨by omega,h.2⟩))).trans (b9.mono (fun _ _ h=>h.elim))) rfl (o5.out.new b9))
    clear b0 hk t1 t2 t3 t4 t5 hu0 hi i9 p9 g1 g2 g3 g4 g5 hx b8 e6 i6 i7 p8 i5
    gi_wp2_with (first
     | (refine⟨trivial,rfl,?_⟩;gi_at_call 118;refine(CallsIn.inRound _ (callsIn_wide.2 f5)).mono ?_;rintro e V2 ⟨rfl,b9⟩;have H2:=zqH b9;clear b9 f5)
     | (refine⟨trivial,rfl,?_⟩;gi_at_call 119
        have h7:New V2 (V2.alloc (.cells #[.int .i64 8,.int .u64 16,.int .u64 (y1:Int)] 133)):=zU _ _ _;refine(CallsIn.inRound _ (callsIn_wide.2 (rcut_c ((v3.out.new H2.out).new h7) o9.out.1 o9.out.2))).mono ?_
        rintro e V4 ⟨rfl,j4⟩;have h8:=zX V2 (.cells #[.int .i64 8,.int .u64 16,.int .u64 (y1:Int)] 133);have p0:=(zqA.1 h8).1;have h9:New V4 (V4.alloc (.cells #[.int .u64 (y2:Int),.int .u64 (y3:Int)] 127)):=zU _ _ _;have i0:=zX V4 (.cells #[.int .u64 (y2:Int),.int .u64 (y3:Int)] 127);have p5:=((j4.trans h9).block _ p0 id).trans h8;have c5:=zaa p5 2 _ rfl;have d5:=zaa i0 0 _ rfl;have d6:=zaa i0 1 _ rfl;have hn:New V (V4.alloc (.cells #[.int .u64 (y2:Int),.int .u64 (y3:Int)] 127)):=((H2.out.trans h7).trans j4).trans h9;have cl:=(o5.out.new hn).b2;have cy:=(hn.cell (a:=⟨W.heap.size,0,none⟩) (zqB V _ o6.out) id).trans o6.out;have HN:=zqH hn;obtain⟨fn,tmps,bf,bh,hy,hR⟩:=v4.out _ hn;have HR:=zqH hR;clear hn hR p5 i0 h9 p0 h8 j4 h7))
    refine⟨rfl,HR.out.mono ?_⟩;rintro e V6 ⟨c6,e7,h4⟩;obtain⟨r,rfl,h5⟩:∃r,e=.returned (.bool r)/\((r=true/\J Z (M.take (pre ++ [F1.entC (y1,y2,y3)]).length) V6)\/(r=false/\Jx Z (M.take (pre ++ [F1.entC (y1,y2,y3)]).length) V6)):=h4.elim (fun h=>⟨true,h.1,.inl ⟨rfl,h.2⟩⟩) (fun h=>⟨false,h.1,.inr ⟨rfl,h.2⟩⟩);have i4:=HN.out.size;have p6:V6.cell? ⟨W.heap.size,0,none⟩=some (.func (.yield l) #[] #[]):=(World.cell?_of_block (a:=⟨W.heap.size,0,none⟩) (c6.2 W.heap.size (.inl ⟨zR _,by omega⟩))).trans cy;have v5:Z<=V.heap.size:=zT hZ2 o7.out.size;have hold:∀b,(W.heap.size<=b/\b<Z)\/(W0.heap.size<=b/\b<V.heap.size)->V6.heap[b]?=V.heap[b]?:=fun b hb=>(c6.2 b (hb.imp id (fun h=>⟨h.1,zqL h.2 i4⟩))).trans (HN.out.block b (by omega) id);have b5:V6.heap[We.heap.size]?=V.heap[We.heap.size]?/\V6.heap[We.heap.size+1]?=V.heap[We.heap.size+1]?/\Kept (We.heap.size+2) Z W0.heap.size V V6:=
     ⟨hold _ (.inl ⟨by omega,by omega⟩),hold _ (.inl ⟨by omega,by omega⟩),zT i4 c6.1,fun k hk=>hold k (hk.imp (fun h=>⟨by omega,h.2⟩) id)⟩
    have f6:=v2.out.via (T:=fun b=>b<W.heap.size\/Z<=b) (zT i4 c6.1) (fun b hb hn=>hold b (.inl ⟨by omega,by omega⟩)) e7.map e7.sto (by omega) (by omega) (by omega) (fun a ha h0=>by have:=a5.out.1 a ha h0;omega) (fun a ha h0=>by have:=a5.out.2 a ha h0;omega) (by omega) (by omega);have e0:=zqH b5;have e5:=zqH e7;have H5:=zqH h5;have v6:=zqH p6;have f7:=zqH f6;clear b5 e7 h5 h4 c6 p6 hy HR hold f6 cl cy c5 d5 d6 v5;cases r with
    | true=>
      gi_wp2
      exact⟨e0.out,f7.out,H5.out.elim (fun h=>h.2) (fun h=>by cases h.1),e5.out.b1,e5.out.b2,e5.out.b3,e5.out.b4,v6.out⟩
    | false=>
      gi_wp2
      exact⟨e0.out,f7.out,rfl,H5.out.elim (fun h=>by cases h.1) (fun h=>h.2)⟩
   case done=>
    rintro Z V hZ1 hZ2 ⟨hj,g1,g2,g3,g4,g5⟩ hd hwk
    gi_wp2
    refine⟨by simp,.inl ⟨_,_,rfl,run_takeDeferred hd,?_⟩⟩;have b6:Upd (fun b=>b=We.heap.size) V (V.putObj We.heap.size (.deferred none)):=Upd.putObj V _ rfl;rw[g8.out,List.length_map,List.take_length]at hj;have b0:CutM base bm n c bs fp lp ip sp fr la D A vs ps css V:=⟨hwk.wlk.map,hwk.sto,g1,g2,g3,g4⟩
    exact⟨_,results_none rfl _ _ _,⟨_,rfl⟩,Z,by omega,by simpa using hZ2,.inl ⟨HJ.out Z _ _ _ hj (b6.mono (fun b _ e=>.inr ⟨by have e:b=We.heap.size:=e;omega,by have e:b=We.heap.size:=e;omega⟩)),b0.upd b6 (fun b hb=>v0 b hb) (b0.sto.upd b6 (by omega)) (by omega) (by omega) (by omega) (by omega)⟩⟩
   case stop=>
    rintro Z cd pre x post V hZ1 hZ2 hx ⟨rfl,r6⟩ hd
    gi_wp2
    refine⟨by simp,.inl ⟨_,_,rfl,run_takeDeferred hd,?_⟩⟩;rw[g8.out]at hx;obtain⟨y,rest,hy,b8,e6⟩:=cuts_pick hx;rw[e6]at r6;refine⟨_,results_none rfl _ _ _,⟨_,rfl⟩,Z,by omega,by simpa using hZ2,.inr ⟨_,y,rest,b8,?_⟩⟩;exact m0.out Z _ _ _ r6 (Upd.putObj _ _ (.inr ⟨by omega,by omega⟩))
end Gz
namespace F1
open Gl
structure Clm where
 x:Nat
 y:Nat
 z:Nat
 k:Nat
def earn (S:Sta) (p:Nat) (s:Clm):Clm:=⟨s.x+s.y*((hist S p).1-s.z) / 10 ^ 36,s.y,(hist S p).1,s.k⟩
def cutS (S:Sta) (s:Clm) (c:Rec):Clm:=⟨s.x+s.y*((hist S c.1).1-s.z) / 10 ^ 36,s.y*(c.2.2*10 ^ 36) / (c.2.1*10 ^ 36),(hist S c.1).1,s.k+1⟩
structure EarnOk (B:Nat) (S:Sta) (p:Nat) (s:Clm):Prop where
 b1:s.y*((hist S p).1-s.z)<B
 b2:s.x+s.y*((hist S p).1-s.z) / 10 ^ 36<B
structure CutOk (B:Nat) (S:Sta) (s:Clm) (c:Rec):Prop extends EarnOk B S c.1 s where
 b3:s.y*(c.2.2*10 ^ 36)<B
def RunOk (B:Nat) (S:Sta) (q:Nat):List Rec->Clm->Prop
 | [],s=>EarnOk B S q s
 | c :: C,s=>CutOk B S s c/\RunOk B S q C (cutS S s c)
theorem RunOk.at {B:Nat} {S:Sta} {q:Nat} {c:Rec} {post:List Rec}:∀ {pre:List Rec} {s:Clm},RunOk B S q (pre ++ c :: post) s->CutOk B S (pre.foldl (cutS S) s) c
 | [],_,h=>h.1
 | _ :: pre,_,h=>RunOk.at (pre:=pre) h.2
theorem RunOk.last {B:Nat} {S:Sta} {q:Nat}:∀ {C:List Rec} {s:Clm},RunOk B S q C s->EarnOk B S q (C.foldl (cutS S) s)
 | [],_,h=>h
 | _ :: C,_,h=>RunOk.last (C:=C) h.2
theorem fold_k (S:Sta):∀(C:List Rec) (s:Clm),(C.foldl (cutS S) s).k=s.k+C.length
 | [],_=>rfl
 | c :: C,s=>by rw[List.foldl_cons,fold_k S C];simp[cutS];omega
end F1
namespace Gz
open Go Go.RowKit Go.Proofs Gl
structure ClmI (bs sb ib gb rb kb nb tb fb:Nat) (Q:Nat->Prop) (s:F1.Clm) (V:World):Prop where
 es:V.heap[sb]?=some (.cells #[.pointer (some ⟨bs,0,none⟩)] 34 (0,0))
 ei:V.heap[ib]?=some (.cells #[.int .u64 16] 22 (0,0))
 eg:V.heap[gb]?=some (.cells #[.slice none 0 0] 26 (0,0))
 en:V.heap[nb]?=some (.cells #[.int .i64 (s.k:Int)] 3 (0,0))
 ef:V.heap[fb]?=some (.cells #[.func (.func 59) #[] #[.pointer (some ⟨sb,0,none⟩),.pointer (some ⟨ib,0,none⟩),.pointer (some ⟨rb,0,none⟩),.pointer (some ⟨kb,0,none⟩),.pointer (some ⟨tb,0,none⟩)]] 122 (0,0))
 er:∃R m d,V.heap[rb]?=some (.cells #[.slice R m d] 26 (0,0))/\LQ Q V R m d s.x
 ek:∃R m d,V.heap[kb]?=some (.cells #[.slice R m d] 26 (0,0))/\LQ Q V R m d s.y
 et:∃R m d,V.heap[tb]?=some (.cells #[.slice R m d] 26 (0,0))/\LQ Q V R m d s.z
theorem ClmI.upd {bs sb ib gb rb kb nb tb fb:Nat} {Q T:Nat->Prop} {s:F1.Clm} {V V':World} (h:ClmI bs sb ib gb rb kb nb tb fb Q s V) (hu:Upd T V V') (hq:∀b,Q b->¬T b) (hn:∀b,b=sb\/b=ib\/b=gb\/b=rb\/b=kb\/b=nb\/b=tb\/b=fb->¬T b):ClmI bs sb ib gb rb kb nb tb fb Q s V':=by
 have kp:∀b o,(b=sb\/b=ib\/b=gb\/b=rb\/b=kb\/b=nb\/b=tb\/b=fb)->V.heap[b]?=some o->V'.heap[b]?=some o:=fun b o hb he=>(hu.block b (zqA.1 he).1 (hn b hb)).trans he;obtain⟨R1,m1,d1,e1,l1⟩:=h.er;obtain⟨R2,m2,d2,e2,l2⟩:=h.ek;obtain⟨R3,m3,d3,e3,l3⟩:=h.et;exact⟨kp _ _ (by simp) h.es,kp _ _ (by simp) h.ei,kp _ _ (by simp) h.eg,kp _ _ (by simp) h.en,kp _ _ (by simp) h.ef,⟨R1,m1,d1,kp _ _ (by simp) e1,l1.upd hu hq⟩,⟨R2,m2,d2,kp _ _ (by simp) e2,l2.upd hu hq⟩,⟨R3,m3,d3,kp _ _ (by simp) e3,l3.upd hu hq⟩⟩
def ClaimR (F:Nat->Prop) (bs:Nat) (w:World) (L:List Ent) (x:Nat) (k:Int) (e:Ending) (w':World):Prop:=∃R m d,e=.returned (.tuple #[.agg #[.slice R m d],.int .i64 k])/\SF F bs w' L/\Upd (fun b=>b=bs) w w'/\LN (NB w) w' R m d x
end Gz
namespace F1
open Gl
def up (f:Nat->Nat) (p c:Nat):Nat->Nat:=fun x=>if x=p then c else f x
theorem up_same (f:Nat->Nat) (p c:Nat):up f p c p=c:=if_pos rfl
theorem up_ne {f:Nat->Nat} {p c x:Nat} (h:x≠p):up f p c x=f x:=if_neg h
abbrev Srt (l:List Rec):Prop:=l.Pairwise fun a b=>a.1<b.1
theorem mem_putR {l:List Rec} {x y:Rec}:y ∈ putR l x↔y=x\/(y ∈ l/\y.1≠x.1):=by
 simp only[putR,List.mem_append,List.mem_cons,List.mem_filter,decide_eq_true_eq]
 constructor
 · rintro(⟨h,h2⟩|h|⟨h,h2⟩)
   · exact .inr ⟨h,by omega⟩
   · exact .inl h
   · exact .inr ⟨h,by omega⟩
 · rintro(h|⟨h,h2⟩)
   · exact .inr (.inl h)
   · rcases Nat.lt_or_gt_of_ne h2 with h3|h3
     · exact .inl ⟨h,h3⟩
     · exact .inr (.inr ⟨h,h3⟩)
theorem mem_delR {l:List Rec} {p:Nat} {y:Rec}:y ∈ delR l p↔y ∈ l/\y.1≠p:=by
 simp[delR]
theorem srt_put {l:List Rec} (h:Srt l) (x:Rec):Srt (putR l x):=by
 unfold putR;refine List.pairwise_append.2 ⟨h.filter _,List.pairwise_cons.2 ⟨fun y hy=>?_,h.filter _⟩,fun a ha b hb=>?_⟩
 · exact of_decide_eq_true (List.mem_filter.1 hy).2
 · have h1:=of_decide_eq_true (List.mem_filter.1 ha).2;rcases List.mem_cons.1 hb with rfl|hb
   · exact h1
   · have h2:=of_decide_eq_true (List.mem_filter.1 hb).2;omega
theorem srt_del {l:List Rec} (h:Srt l) (p:Nat):Srt (delR l p):=h.filter _
theorem find_srt:∀ {l:List Rec} {x:Rec},Srt l->x ∈ l->findR l x.1=some x
 | [],_,_,h=>by cases h
 | y :: l,x,hs,h=>by
   have hs:=List.pairwise_cons.1 hs;unfold findR;rw[List.find?_cons];rcases List.mem_cons.1 h with rfl|h
   · simp
   · have:=hs.1 x h;have e:(y.1 == x.1)=false:=(by simp;omega);rw[e];exact find_srt hs.2 h
structure Bk (S:Sta) (q:Nat) (f R:Nat->Nat):Prop where
 srt:Srt S.h
 mem:∀x,x ∈ S.h↔x.1<=q/\0<f x.1/\x.2=(R x.1,f x.1)
theorem Bk.his {S:Sta} {q p:Nat} {f R:Nat->Nat} (h:Bk S q f R) (hp:p<=q) (hf:0<f p):hist S p=(R p,f p):=by
 have:=find_srt h.srt ((h.mem (p,R p,f p)).2 ⟨hp,hf,rfl⟩);unfold hist;rw[show findR S.h p=some (p,R p,f p) from this];rfl
theorem Bk.ext {S:Sta} {q:Nat} {f R f' R':Nat->Nat} (h:Bk S q f R) (hf:∀p,p<=q->f' p=f p) (hR:∀p,p<=q → 0<f p->R' p=R p):Bk S q f' R':=
 ⟨h.srt,fun x=>(h.mem x).trans ⟨fun⟨a,b,c⟩=>⟨a,by rw[hf _ a];exact b,by rw[hf _ a,hR _ a b];exact c⟩,fun⟨a,b,c⟩=>by rw[hf _ a]at b c;rw[hR _ a b]at c;exact⟨a,b,c⟩⟩⟩
theorem Bk.put {S:Sta} {q p r c:Nat} {f R:Nat->Nat} (h:Bk S q f R) (hp:p<=q) (hc:0<c):Bk { S with h:=putR S.h (p,r,c) } q (up f p c) (up R p r):=by
 refine⟨srt_put h.srt _,fun x=>mem_putR.trans ?_⟩;by_cases e:x.1=p
 · rw[e,up_same,up_same]
   constructor
   · rintro(h1|⟨_,h1⟩)
     · rw[h1];exact⟨hp,hc,rfl⟩
     · exact absurd rfl h1
   · rintro⟨_,_,h1⟩;exact .inl (Prod.ext e h1)
 · rw[up_ne e,up_ne e,<-h.mem x]
   constructor
   · rintro(h1|⟨h1,_⟩)
     · exact absurd (by rw[h1]) e
     · exact h1
   · exact fun h1=>.inr ⟨h1,e⟩
theorem Bk.add {S:Sta} {q r:Nat} {f R:Nat->Nat} (h:Bk S q f R):Bk { S with h:=putR S.h (q+1,r,1) } (q+1) (up f (q+1) 1) (up R (q+1) r):=by
 refine⟨srt_put h.srt _,fun x=>mem_putR.trans ?_⟩;by_cases e:x.1=q+1
 · rw[e,up_same,up_same]
   constructor
   · rintro(h1|⟨_,h1⟩)
     · rw[h1];exact⟨zR _,by decide,rfl⟩
     · exact absurd rfl h1
   · rintro⟨_,_,h1⟩;exact .inl (Prod.ext e h1)
 · rw[up_ne e,up_ne e];have h2:=h.mem x
   constructor
   · rintro(h1|⟨h1,_⟩)
     · exact absurd (by rw[h1]) e
     · have:=h2.1 h1;exact⟨by omega,this.2⟩
   · exact fun h1=>.inr ⟨h2.2 ⟨by omega,h1.2⟩,e⟩
theorem Bk.del {S:Sta} {q p:Nat} {f R:Nat->Nat} (h:Bk S q f R):Bk { S with h:=delR S.h p } q (up f p 0) R:=by
 refine⟨srt_del h.srt _,fun x=>mem_delR.trans ?_⟩;by_cases e:x.1=p
 · rw[e,up_same];exact⟨fun h1=>absurd rfl h1.2,fun h1=>absurd h1.2.1 (by omega)⟩
 · rw[up_ne e,<-h.mem x];exact⟨fun h1=>h1.1,fun h1=>⟨h1,e⟩⟩
theorem Bk.free {S:Sta} {q p:Nat} {f R:Nat->Nat} (h:Bk S q f R) (hp:p<=q) (hf:0<f p):Bk (free S p) q (up f p (f p-1)) R:=by
 unfold F1.free;rw[h.his hp hf];simp only;rw[if_neg (by omega)]
 split
 · rename_i e
   rw[show f p-1=0 from by omega];exact h.del
 · refine(h.put (r:=R p) (c:=f p-1) hp (by omega)).ext (fun _ _=>rfl) (fun x _ _=>?_);unfold up;split
   · rename_i e;rw[e]
   · rfl
theorem Bk.refer {S:Sta} {q p:Nat} {f R:Nat->Nat} (h:Bk S q f R) (hp:p<=q) (hf:0<f p):Bk (refer S p) q (up f p (f p+1)) R:=by
 unfold F1.refer;rw[h.his hp hf];refine(h.put (r:=R p) (c:=f p+1) hp (by omega)).ext (fun _ _=>rfl) (fun x _ _=>?_);unfold up;split
 · rename_i e;rw[e]
 · rfl
theorem Bk.close {S:Sta} {q n g:Nat} {f R:Nat->Nat} (h:Bk S q f R) (hf:0<f q) (hn:0<n):Bk (close S (q+1) n g) (q+1) (up (up f (q+1) 1) q (f q-1)) (up R (q+1) (R q+g / n)):=by
 unfold F1.close;rw[Nat.add_sub_cancel,h.his (zR _) hf,if_neg (by omega)];have h1:=(h.add (r:=R q+g / n)).free (p:=q) (by omega) (by rw[up_ne (by omega)];exact hf)
 rwa [up_ne (show q≠q+1 by omega)]at h1
def tot {α:Type} (g:α->Nat) (l:List α):Nat:=(l.map g).sum
theorem zap {α:Type} (g:α->Nat) (a:α) (l:List α):tot g (a :: l)=g a+tot g l:=by simp[tot]
theorem tot_set {α:Type} (g:α->Nat) (y:α):∀ {l:List α} {i:Nat} {x:α},l[i]?=some x->tot g (l.set i y)+g x=tot g l+g y
 | [],_,_,h=>by simp at h
 | a :: l,0,x,h=>by
   simp at h;subst h;rw[List.set_cons_zero,zap,zap];omega
 | a :: l,i+1,x,h=>by
   rw[List.set_cons_succ,zap,zap];have:=tot_set g y (l:=l) (i:=i) (x:=x) (by simpa using h);omega
theorem tot_le {α:Type} {g g':α->Nat}:∀ {l:List α},(∀x ∈ l,g x<=g' x)->tot g l<=tot g' l
 | [],_=>zR _
 | a :: l,h=>by
   rw[zap,zap];have h1:=h a List.mem_cons_self;have h2:=tot_le (l:=l) fun x hx=>h x (List.mem_cons_of_mem a hx);omega
theorem tot_mul {α:Type} (g:α->Nat) (k:Nat):∀(l:List α),tot (fun x=>g x*k) l=tot g l*k
 | []=>by simp[tot]
 | a :: l=>by rw[zap,zap,tot_mul g k l,Nat.add_mul]
theorem tot_add {α:Type} (g g':α->Nat):∀(l:List α),tot (fun x=>g x+g' x) l=tot g l+tot g' l
 | []=>rfl
 | a :: l=>by rw[zap,zap,zap,tot_add g g' l];omega
theorem le_tot {α:Type} (g:α->Nat):∀ {l:List α} {x:α},x ∈ l->g x<=tot g l
 | a :: l,x,h=>by
   rw[zap];rcases List.mem_cons.1 h with rfl|h
   · omega
   · have:=le_tot g h;omega
structure Del where
 on:Bool
 sh:Nat
 per:Nat
 stk:Nat
structure Rn where
 n:Nat
 n0:Nat
 q:Nat
 cur:Nat
 giv:Nat
 fre:Nat
 all:Nat
 R:Nat->Nat
 ds:List Del
 C:List Rec
def U36:Nat:=10 ^ 36
theorem U36_pos:0<U36:=by unfold U36;decide
def one (b:Bool):Nat:=if b then 1 else 0
def occ (ds:List Del) (p:Nat):Nat:=tot (fun d=>one (d.on && d.per == p)) ds
def coc (C:List Rec) (p:Nat):Nat:=tot (fun c=>one (c.1 == p)) C
def Rn.f (x:Rn):Nat->Nat:=fun p=>one (p == x.q)+occ x.ds p+coc x.C p
def cutR (R:Nat->Nat) (s:Clm) (c:Rec):Clm:=⟨s.x+s.y*(R c.1-s.z) / U36,s.y*(c.2.2*U36) / (c.2.1*U36),R c.1,s.k+1⟩
def cm (R:Nat->Nat) (C:List Rec) (d:Del):Clm:=(C.filter fun c=>decide (d.per<c.1)).foldl (cutR R) ⟨0,d.stk,R d.per,0⟩
def Rn.cm (x:Rn) (d:Del):Clm:=F1.cm x.R x.C d
def Rn.cl (x:Rn) (d:Del):Nat:=(x.cm d).x+(x.cm d).y*(x.R x.q-(x.cm d).z) / U36
def Rn.pot (x:Rn) (d:Del):Nat:=if d.on then(x.cm d).x*U36+(x.cm d).y*(x.R x.q-(x.cm d).z) else 0
def Rn.shs (x:Rn):Nat:=tot (fun d=>if d.on then d.sh else 0) x.ds
structure Gd (x:Rn):Prop where
 n1:1<=x.n
 n2:x.n<=x.n0
 n3:x.n0<=1000000
 per:∀d ∈ x.ds,d.on=true->d.per<=x.q
 ct:∀c ∈ x.C,c.1<=x.q/\0<c.2.2/\c.2.2<=c.2.1/\c.2.1<=x.n0
 csrt:Srt x.C
 rt:∀p,p<=x.q->x.R p<=x.R x.q
 rg:x.R x.q+x.cur<=x.giv
 y:∀d ∈ x.ds,d.on=true → (x.cm d).y*x.n0<=d.sh*x.n
 stk:∀d ∈ x.ds,d.on=true->d.stk<=d.sh
 sum:x.shs+x.fre=x.n0*U36
 main:x.all*U36+x.cur*U36+tot x.pot x.ds<=x.giv*U36
theorem cm_congr {R R':Nat->Nat} {C:List Rec} {d:Del} {q:Nat} (hC:∀c ∈ C,c.1<=q) (hd:d.per<=q) (h:∀p,p<=q->R' p=R p):cm R' C d=cm R C d:=by
 have key:∀(l:List Rec) (s:Clm),(∀c ∈ l,c.1<=q)->l.foldl (cutR R') s=l.foldl (cutR R) s:=by
  intro l
  induction l with
  | nil=>intro s _;rfl
  | cons c l ih=>
    intro s hl;rw[List.foldl_cons,List.foldl_cons,ih _ fun x hx=>hl x (List.mem_cons_of_mem c hx)]
    congr 1
    unfold cutR;rw[h _ (hl c List.mem_cons_self)]
 unfold cm;rw[key _ _ fun c hc=>hC c (List.mem_filter.1 hc).1,h _ hd]
theorem cm_cut {R:Nat->Nat} {C:List Rec} {d:Del} {c:Rec} (h:d.per<c.1):cm R (C ++ [c]) d=cutR R (cm R C d) c:=by
 unfold cm;rw[List.filter_append,List.filter_cons_of_pos (by simpa using h),List.filter_nil,List.foldl_append];rfl
theorem cm_new {R:Nat->Nat} {C:List Rec} {d:Del} (h:∀c ∈ C,c.1<=d.per):cm R C d=⟨0,d.stk,R d.per,0⟩:=by
 unfold cm;rw[List.filter_eq_nil_iff.2 fun c hc=>by simpa using h c hc];rfl
theorem cm_z {R:Nat->Nat} {C:List Rec} {d:Del} {q:Nat} (hC:∀c ∈ C,c.1<=q) (hd:d.per<=q):∃p,p<=q/\(cm R C d).z=R p:=by
 have key:∀(l:List Rec) (s:Clm),(∀c ∈ l,c.1<=q) → (∃p,p<=q/\s.z=R p)->∃p,p<=q/\(l.foldl (cutR R) s).z=R p:=by
  intro l
  induction l with
  | nil=>intro s _ h;exact h
  | cons c l ih=>
    intro s hl _;rw[List.foldl_cons];exact ih _ (fun x hx=>hl x (List.mem_cons_of_mem c hx)) ⟨c.1,hl c List.mem_cons_self,rfl⟩
 exact key _ _ (fun c hc=>hC c (List.mem_filter.1 hc).1) ⟨d.per,hd,rfl⟩
theorem Gd.z {x:Rn} (h:Gd x) {d:Del} (hd:d ∈ x.ds) (ho:d.on=true):(x.cm d).z<=x.R x.q:=by
 obtain⟨p,hp,e⟩:=cm_z (R:=x.R) (C:=x.C) (fun c hc=>(h.ct c hc).1) (h.per d hd ho);unfold Rn.cm;rw[e];exact h.rt p hp
theorem Rn.cl_le (x:Rn) {d:Del} (ho:d.on=true):x.cl d*U36<=x.pot d:=by
 unfold Rn.cl Rn.pot;rw[if_pos ho,Nat.add_mul];have:=Nat.div_mul_le_self ((x.cm d).y*(x.R x.q-(x.cm d).z)) (U36);omega
def Rn.giv' (x:Rn) (r:Nat):Rn:={ x with cur:=x.cur+r,giv:=x.giv+r }
def Rn.clo (x:Rn):Rn:={ x with q:=x.q+1,cur:=0,R:=up x.R (x.q+1) (x.R x.q+x.cur / x.n) }
def Rn.frd (x:Rn) (i:Nat) (d:Del):Rn:={ x with all:=x.all+x.cl d,fre:=x.fre+d.sh,ds:=x.ds.set i { d with on:=false } }
def Rn.hol (x:Rn) (i z:Nat):Rn:={ x with fre:=x.fre-z,ds:=x.ds.set i ⟨true,z,x.q,z*(x.n*U36) / (x.n0*U36)⟩ }
def Rn.ctt (x:Rn) (a:Nat):Rn:={ x with n:=a,C:=x.C ++ [(x.q,x.n,a)] }
theorem Gd.giv' {x:Rn} (h:Gd x) (r:Nat):Gd (x.giv' r):=by
 refine⟨h.n1,h.n2,h.n3,h.per,h.ct,h.csrt,h.rt,?_,h.y,h.stk,h.sum,?_⟩
 · show x.R x.q+(x.cur+r)<=x.giv+r
   have:=h.rg;omega
 · show x.all*U36+(x.cur+r)*U36+tot x.pot x.ds<=(x.giv+r)*U36
   have:=h.main;rw[Nat.add_mul,Nat.add_mul];omega
theorem Gd.clo {x:Rn} (h:Gd x):Gd x.clo:=by
 have hR:∀p,p<=x.q->up x.R (x.q+1) (x.R x.q+x.cur / x.n) p=x.R p:=fun p hp=>up_ne (by omega);have a1:∀d ∈ x.ds,d.on=true->x.clo.cm d=x.cm d:=fun d hd ho=>cm_congr (fun c hc=>(h.ct c hc).1) (h.per d hd ho) hR;have hq:x.clo.R x.clo.q=x.R x.q+x.cur / x.n:=up_same _ _ _;have a5:x.cur / x.n<=x.cur:=Nat.div_le_self _ _;refine⟨h.n1,h.n2,h.n3,fun d hd ho=>Nat.le_succ_of_le (h.per d hd ho),fun c hc=>⟨Nat.le_succ_of_le (h.ct c hc).1,(h.ct c hc).2⟩,h.csrt,fun p hp=>?_,?_,fun d hd ho=>?_,h.stk,h.sum,?_⟩
 · rw[hq];show up x.R (x.q+1) _ p<=_;by_cases e:p=x.q+1
   · rw[e,up_same];exact zR _
   · rw[up_ne e];have h1:p<=x.q:=(by have:p<=x.q+1:=hp;omega);exact zT (h.rt p h1) (Nat.le_add_right _ _)
 · rw[hq];show x.R x.q+x.cur / x.n+0<=x.giv;have:=h.rg;omega
 · rw[a1 d hd ho];exact h.y d hd ho
 · show x.all*U36+0*U36+tot x.clo.pot x.ds<=x.giv*U36
   have hm:=h.main;have hp:tot x.clo.pot x.ds<=tot (fun d=>x.pot d+(if d.on then(x.cm d).y else 0)*(x.cur / x.n)) x.ds:=tot_le fun d hd=>by
    show(if d.on=true then _ else _)<=(if d.on=true then _ else _)+_
    by_cases ho:d.on=true
    · rw[if_pos ho,if_pos ho,if_pos ho,a1 d hd ho,hq];have hz:=h.z hd ho;rw[Nat.sub_add_comm hz,Nat.mul_add,Nat.add_assoc];exact zR _
    · rw[if_neg ho];exact Nat.zero_le _
   rw[tot_add,tot_mul]at hp;have hy:tot (fun d=>if d.on then(x.cm d).y else 0) x.ds*x.n0<=x.n0*U36*x.n:=by
    rw[<-tot_mul];refine zT (tot_le (g':=fun d=>(if d.on then d.sh else 0)*x.n) fun d hd=>?_) ?_
    · by_cases ho:d.on=true
      · rw[if_pos ho,if_pos ho];exact h.y d hd ho
      · rw[if_neg ho,Nat.zero_mul];exact Nat.zero_le _
    · rw[tot_mul];refine Nat.mul_le_mul_right _ ?_
      have:=h.sum;unfold Rn.shs at this;omega
   have h0:0<x.n0:=zqL h.n1 h.n2;have a3:tot (fun d=>if d.on then(x.cm d).y else 0) x.ds<=U36*x.n:=by
    refine Nat.le_of_mul_le_mul_right ?_ h0;rw[show U36*x.n*x.n0=x.n0*U36*x.n from by rw[Nat.mul_comm (U36*x.n),Nat.mul_assoc]];exact hy
   have h3:tot (fun d=>if d.on then(x.cm d).y else 0) x.ds*(x.cur / x.n)<=x.cur*U36:=by
    refine zT (Nat.mul_le_mul_right _ a3) ?_
    rw[Nat.mul_assoc,Nat.mul_comm (U36)];exact Nat.mul_le_mul_right _ (Nat.mul_div_le _ _)
   omega
theorem pot_off {x:Rn} {d:Del} (h:d.on=false):x.pot d=0:=by unfold Rn.pot;rw[h];rfl
theorem Gd.frd {x:Rn} (h:Gd x) {i:Nat} {d:Del} (hi:x.ds[i]?=some d) (ho:d.on=true):Gd (x.frd i d):=by
 have hm:∀e ∈ x.ds.set i { d with on:=false },e.on=true->e ∈ x.ds:=fun e he heo=>by
  rcases List.mem_or_eq_of_mem_set he with he|rfl
  · exact he
  · exact absurd heo (by simp)
 have hd:=List.mem_of_getElem? hi;refine⟨h.n1,h.n2,h.n3,fun e he heo=>h.per e (hm e he heo) heo,h.ct,h.csrt,h.rt,h.rg,fun e he heo=>h.y e (hm e he heo) heo,fun e he heo=>h.stk e (hm e he heo) heo,?_,?_⟩
 · show tot _ (x.ds.set i _)+(x.fre+d.sh)=_
   have h1:=tot_set (fun d:Del=>if d.on then d.sh else 0) { d with on:=false } hi;have h2:=h.sum;unfold Rn.shs at h2;simp only[ho,if_true]at h1;simp only[Bool.false_eq_true,if_false]at h1;show tot _ (x.ds.set i _)+(x.fre+d.sh)=x.n0*U36;omega
 · show(x.all+x.cl d)*U36+x.cur*U36+tot x.pot (x.ds.set i _)<=x.giv*U36
   have h1:=tot_set x.pot { d with on:=false } hi;rw[pot_off (x:=x) (d:={ d with on:=false }) rfl]at h1;have h2:=h.main;have h3:=x.cl_le ho;rw[Nat.add_mul];omega
theorem Gd.hol {x:Rn} (h:Gd x) {i z:Nat} {d:Del} (hi:x.ds[i]?=some d) (ho:d.on=false) (hz:z<=x.fre):Gd (x.hol i z):=by
 obtain⟨nd,a1⟩:∃nd:Del,nd=⟨true,z,x.q,z*(x.n*U36) / (x.n0*U36)⟩:=⟨_,rfl⟩
 have hU:=U36_pos;have h0:0<x.n0:=zqL h.n1 h.n2;have a4:x.cm nd=⟨0,nd.stk,x.R x.q,0⟩:=by
  unfold Rn.cm;rw[cm_new (d:=nd) (fun c hc=>by rw[a1];exact(h.ct c hc).1),a1]
 have a2:nd.stk*x.n0<=z*x.n:=by
  rw[a1];show z*(x.n*U36) / (x.n0*U36)*x.n0<=_;rw[<-Nat.mul_assoc,Nat.mul_div_mul_right _ _ hU];exact Nat.div_mul_le_self _ _
 have hm:∀e ∈ x.ds.set i nd,e.on=true->e ∈ x.ds\/e=nd:=fun e he _=>List.mem_or_eq_of_mem_set he;have a3:nd.sh=z:=by rw[a1]
 have a5:nd.on=true:=by rw[a1]
 unfold Rn.hol;rw[<-a1];refine⟨h.n1,h.n2,h.n3,fun e he heo=>?_,h.ct,h.csrt,h.rt,h.rg,fun e he heo=>?_,fun e he heo=>?_,?_,?_⟩
 · rcases hm e he heo with he|rfl
   · exact h.per e he heo
   · rw[a1];exact zR _
 · rcases hm e he heo with he|rfl
   · exact h.y e he heo
   · show(x.cm e).y*x.n0<=e.sh*x.n
     rw[a4,a3];exact a2
 · rcases hm e he heo with he|rfl
   · exact h.stk e he heo
   · rw[a3];refine Nat.le_of_mul_le_mul_right (zT a2 (Nat.mul_le_mul_left _ h.n2)) h0
 · show tot _ (x.ds.set i nd)+(x.fre-z)=x.n0*U36
   have h1:=tot_set (fun d:Del=>if d.on then d.sh else 0) nd hi;have h2:=h.sum;unfold Rn.shs at h2;simp only[ho,a5,a3,Bool.false_eq_true,if_false,if_true]at h1;omega
 · show x.all*U36+x.cur*U36+tot x.pot (x.ds.set i nd)<=x.giv*U36
   have h1:=tot_set x.pot nd hi;rw[pot_off ho]at h1;have e:x.pot nd=0:=by
    unfold Rn.pot;rw[if_pos a5,a4];simp
   have h2:=h.main;omega
theorem Gd.ctt {x:Rn} (h:Gd x) {a:Nat} (ha:0<a) (hb:a<=x.n) (hq:∀d ∈ x.ds,d.on=true->d.per<x.q) (hc:∀c ∈ x.C,c.1<x.q):Gd (x.ctt a):=by
 have hU:=U36_pos;have a1:∀d ∈ x.ds,d.on=true → (x.ctt a).cm d=cutR x.R (x.cm d) (x.q,x.n,a):=fun d hd ho=>cm_cut (hq d hd ho);refine⟨ha,zT hb h.n2,h.n3,h.per,fun c hc2=>?_,?_,h.rt,h.rg,fun d hd ho=>?_,h.stk,h.sum,?_⟩
 · rcases List.mem_append.1 hc2 with hc2|hc2
   · exact h.ct c hc2
   · have:c=(x.q,x.n,a):=(by simpa using hc2);subst this;exact⟨zR _,ha,hb,h.n2⟩
 · refine List.pairwise_append.2 ⟨h.csrt,List.pairwise_singleton _ _,fun c hc2 b hb2=>?_⟩;have:b=(x.q,x.n,a):=by simpa using hb2
   subst this;exact hc c hc2
 · rw[a1 d hd ho];show(x.cm d).y*(a*U36) / (x.n*U36)*x.n0<=d.sh*a;rw[<-Nat.mul_assoc,Nat.mul_div_mul_right _ _ hU];have hy:=h.y d hd ho;have h1:=h.n1;refine Nat.le_of_mul_le_mul_right (c:=x.n) ?_ h1;have h2:=Nat.div_mul_le_self ((x.cm d).y*a) x.n
   calc (x.cm d).y*a / x.n*x.n0*x.n=(x.cm d).y*a / x.n*x.n*x.n0:=Nat.mul_right_comm _ _ _
    _<=(x.cm d).y*a*x.n0:=Nat.mul_le_mul_right _ h2
    _=(x.cm d).y*x.n0*a:=Nat.mul_right_comm _ _ _
    _<=d.sh*x.n*a:=Nat.mul_le_mul_right _ hy
    _=d.sh*a*x.n:=Nat.mul_right_comm _ _ _
 · show x.all*U36+x.cur*U36+tot (x.ctt a).pot x.ds<=x.giv*U36
   have h1:tot (x.ctt a).pot x.ds<=tot x.pot x.ds:=tot_le fun d hd=>by
    by_cases ho:d.on=true
    · show(if d.on=true then _ else _)<=(if d.on=true then _ else _)
      rw[if_pos ho,if_pos ho,a1 d hd ho];show((x.cm d).x+(x.cm d).y*(x.R x.q-(x.cm d).z) / U36)*U36+_*(x.R x.q-x.R x.q)<=_;rw[Nat.sub_self,Nat.mul_zero,Nat.add_zero,Nat.add_mul];have:=Nat.div_mul_le_self ((x.cm d).y*(x.R x.q-(x.cm d).z)) (U36);omega
    · have e:d.on=false:=(by simpa using ho);rw[pot_off (x:=x.ctt a) e];exact Nat.zero_le _
   have:=h.main;omega
theorem Gd.sums {x:Rn} (h:Gd x):x.all+x.cur+tot (fun d=>if d.on then x.cl d else 0) x.ds<=x.giv:=by
 have hU:=U36_pos;refine Nat.le_of_mul_le_mul_right (c:=U36) ?_ hU;rw[Nat.add_mul,Nat.add_mul,<-tot_mul];refine zT (Nat.add_le_add_left (tot_le fun d hd=>?_) _) h.main;show(if d.on=true then _ else _)*U36<=_;by_cases ho:d.on=true
 · rw[if_pos ho];exact x.cl_le ho
 · rw[if_neg ho,Nat.zero_mul];exact Nat.zero_le _
theorem Gd.all_le {x:Rn} (h:Gd x):x.all<=x.giv/\x.cur<=x.giv:=by
 have:=h.sums;omega
structure Bks (S:Sta) (x:Rn):Prop where
 bk:Bk S x.q x.f x.R
 c:S.c=x.C
theorem f_q (x:Rn):0<x.f x.q:=by
 unfold Rn.f one;simp;omega
theorem occ_zero {x:Rn} (h:Gd x) {p:Nat} (hp:x.q<p):occ x.ds p=0:=by
 have h1:occ x.ds p<=tot (fun _=>0) x.ds:=tot_le fun d hd=>by
  unfold one;by_cases ho:(d.on && d.per == p)=true
  · have h2:=Bool.and_eq_true_iff.1 ho;have h3:=h.per d hd h2.1;have h4:d.per=p:=(by simpa using h2.2);omega
  · simp[ho]
 have h2:∀l:List Del,tot (fun _=>0) l=0:=fun l=>by
  induction l with
  | nil=>rfl
  | cons a l ih=>rw[zap,ih]
 rw[h2]at h1;omega
theorem coc_zero {x:Rn} {p:Nat} (h:∀c ∈ x.C,c.1<p):coc x.C p=0:=by
 have h1:coc x.C p<=tot (fun _=>0) x.C:=tot_le fun c hc=>by
  have:=h c hc;have e:(c.1 == p)=false:=by simp;omega
  unfold one;rw[e];simp
 have h2:∀l:List Rec,tot (fun _=>0) l=0:=fun l=>by
  induction l with
  | nil=>rfl
  | cons a l ih=>rw[zap,ih]
 rw[h2]at h1;omega
theorem Bks.giv' {S:Sta} {x:Rn} (h:Bks S x) (r:Nat):Bks S (x.giv' r):=⟨h.bk,h.c⟩
theorem Bks.clo {S:Sta} {x:Rn} (h:Bks S x) (hg:Gd x):Bks (close S (x.q+1) x.n x.cur) x.clo:=by
 refine⟨(h.bk.close (f_q x) hg.n1).ext (fun p hp=>?_) (fun p _ _=>rfl),?_⟩
 · show one (p == x.q+1)+occ x.ds p+coc x.C p=_
   have e1:occ x.ds (x.q+1)=0:=occ_zero hg (Nat.lt_succ_self _);have e2:coc x.C (x.q+1)=0:=coc_zero fun c hc=>by have:=(hg.ct c hc).1;omega
   by_cases h1:p=x.q
   · subst h1;rw[up_same];have e3:(x.q == x.q+1)=false:=(by simp);unfold Rn.f one;rw[e3];simp;omega
   · rw[up_ne h1];by_cases h2:p=x.q+1
     · rw[h2,up_same,e1,e2];simp[one]
     · rw[up_ne h2];have e3:(p == x.q+1)=false:=(by simpa using h2);have e4:(p == x.q)=false:=(by simpa using h1);unfold Rn.f;rw[e3,e4]
 · rw[close_cc];exact h.c
theorem Bks.frd {S:Sta} {x:Rn} (h:Bks S x) (hg:Gd x) {i:Nat} {d:Del} (hi:x.ds[i]?=some d) (ho:d.on=true):Bks (free S d.per) (x.frd i d):=by
 have hd:=List.mem_of_getElem? hi;have hf:0<x.f d.per:=by
  have h1:=le_tot (fun e:Del=>one (e.on && e.per == d.per)) hd;have h2:one (d.on && d.per == d.per)=1:=by rw[ho];simp[one]
  rw[h2]at h1;show 0<_+occ x.ds d.per+_;unfold occ;omega
 refine⟨(h.bk.free (hg.per d hd ho) hf).ext (fun p hp=>?_) (fun p _ _=>rfl),?_⟩
 · show one (p == x.q)+occ (x.ds.set i { d with on:=false }) p+coc x.C p=_
   have h1:=tot_set (fun e:Del=>one (e.on && e.per == p)) { d with on:=false } hi;simp only[Bool.false_and,ho,Bool.true_and]at h1;have h2:one false=0:=rfl;rw[h2]at h1;by_cases e:p=d.per
   · subst e;rw[up_same];have h3:one (d.per == d.per)=1:=(by simp[one]);rw[h3]at h1;unfold Rn.f occ at *
     omega
   · rw[up_ne e];have h3:one (d.per == p)=0:=by
      have:(d.per == p)=false:=(by simp;omega);rw[this];rfl
     rw[h3]at h1;unfold Rn.f occ at *
     omega
 · rw[free_cc];exact h.c
theorem Bks.hol {S:Sta} {x:Rn} (h:Bks S x) {i z:Nat} {d:Del} (hi:x.ds[i]?=some d) (ho:d.on=false):Bks (refer S x.q) (x.hol i z):=by
 refine⟨(h.bk.refer (zR _) (f_q x)).ext (fun p hp=>?_) (fun p _ _=>rfl),h.c⟩;show one (p == x.q)+occ (x.ds.set i _) p+coc x.C p=_;have h1:=tot_set (fun e:Del=>one (e.on && e.per == p)) ⟨true,z,x.q,z*(x.n*U36) / (x.n0*U36)⟩ hi;simp only[ho,Bool.false_and,Bool.true_and]at h1;have h2:one false=0:=rfl;rw[h2]at h1;by_cases e:p=x.q
 · subst e;rw[up_same];have h3:one (x.q == x.q)=1:=by simp[one]
   rw[h3]at h1;unfold Rn.f occ at *
   omega
 · rw[up_ne e];have h3:one (x.q == p)=0:=by
    have:(x.q == p)=false:=(by simp;omega);rw[this];rfl
   rw[h3]at h1;unfold Rn.f occ at *
   omega
theorem put_end {l:List Rec} {c:Rec} (h:∀x ∈ l,x.1<c.1):putR l c=l ++ [c]:=by
 unfold putR;rw[List.filter_eq_self.2 fun x hx=>by simpa using h x hx,List.filter_eq_nil_iff.2 fun x hx=>by have:=h x hx;simp;omega]
theorem Bks.ctt {S:Sta} {x:Rn} {a:Nat} (h:Bks S x) (hc:∀c ∈ x.C,c.1<x.q):Bks (refer { S with c:=putR S.c (x.q,x.n,a) } x.q) (x.ctt a):=by
 have h1:Bk { S with c:=putR S.c (x.q,x.n,a) } x.q x.f x.R:=⟨h.bk.srt,h.bk.mem⟩
 refine⟨(h1.refer (zR _) (f_q x)).ext (fun p hp=>?_) (fun p _ _=>rfl),?_⟩
 · show one (p == x.q)+occ x.ds p+coc (x.C ++ [(x.q,x.n,a)]) p=_
   have h2:coc (x.C ++ [(x.q,x.n,a)]) p=coc x.C p+one (x.q == p):=by
    unfold coc tot;simp
   rw[h2];by_cases e:p=x.q
   · subst e;rw[up_same];have h3:one (x.q == x.q)=1:=(by simp[one]);rw[h3];unfold Rn.f;omega
   · rw[up_ne e];have h3:one (x.q == p)=0:=by
      have:(x.q == p)=false:=(by simp;omega);rw[this];rfl
     rw[h3];unfold Rn.f;omega
 · show putR S.c (x.q,x.n,a)=_
   rw[h.c];exact put_end hc
theorem nodup_len:∀ {l m:List Nat},l.Nodup → (∀x ∈ l,x ∈ m)->l.length<=m.length
 | [],_,_,_=>Nat.zero_le _
 | a :: l,m,hn,h=>by
   have hn:=List.nodup_cons.1 hn;have ha:=h a List.mem_cons_self;have h1:=nodup_len (l:=l) (m:=m.erase a) hn.2 fun x hx=>(List.mem_erase_of_ne (fun e=>hn.1 (by rw[<-e];exact hx))).2 (h x (List.mem_cons_of_mem a hx));rw[List.length_erase_of_mem ha]at h1;have h2:=List.length_pos_of_mem ha;rw[List.length_cons];omega
def Rn.hold (x:Rn):Nat:=tot (fun d=>one d.on) x.ds
theorem len_on:∀l:List Del,(l.filter Del.on).length=tot (fun d=>one d.on) l
 | []=>rfl
 | d :: l=>by
   rw[zap,<-len_on l];by_cases h:d.on=true
   · rw[List.filter_cons_of_pos h,h];simp[one];omega
   · rw[List.filter_cons_of_neg h];have:d.on=false:=(by simpa using h);rw[this];simp[one]
theorem occ_pos {ds:List Del} {p:Nat} (h:0<occ ds p):∃d ∈ ds,d.on=true/\d.per=p:=by
 induction ds with
 | nil=>exact absurd h (by simp[occ,tot])
 | cons d ds ih=>
   unfold occ at h;rw[zap]at h;by_cases e:(d.on && d.per == p)=true
   · have h2:=Bool.and_eq_true_iff.1 e;exact⟨d,List.mem_cons_self,h2.1,by simpa using h2.2⟩
   · have e2:(d.on && d.per == p)=false:=(by simpa using e);rw[e2]at h;obtain⟨d',h1,h2⟩:=ih (by unfold occ;have:one false=0:=rfl;omega);exact⟨d',List.mem_cons_of_mem d h1,h2⟩
theorem coc_pos {C:List Rec} {p:Nat} (h:0<coc C p):∃c ∈ C,c.1=p:=by
 induction C with
 | nil=>exact absurd h (by simp[coc,tot])
 | cons c C ih=>
   unfold coc at h;rw[zap]at h;by_cases e:(c.1 == p)=true
   · exact⟨c,List.mem_cons_self,by simpa using e⟩
   · have e2:(c.1 == p)=false:=(by simpa using e);rw[e2]at h;obtain⟨c',h1,h2⟩:=ih (by unfold coc;have:one false=0:=rfl;omega);exact⟨c',List.mem_cons_of_mem c h1,h2⟩
theorem Bks.counts {S:Sta} {x:Rn} (h:Bks S x):S.c.length=x.C.length/\1<=S.h.length/\S.h.length<=1+x.hold+x.C.length:=by
 refine⟨by rw[h.c],List.length_pos_of_mem ((h.bk.mem (x.q,x.R x.q,x.f x.q)).2 ⟨zR _,f_q x,rfl⟩),?_⟩;have h1:(S.h.map (·.1)).length<=(x.q :: ((x.ds.filter Del.on).map (·.per) ++ x.C.map (·.1))).length:=nodup_len (List.pairwise_map.2 (h.bk.srt.imp fun hab=>by omega)) fun p hp=>by
  obtain⟨y,hy,rfl⟩:=List.mem_map.1 hp;have hf:=((h.bk.mem y).1 hy).2.1;unfold Rn.f at hf;by_cases e:y.1=x.q
  · rw[e];exact List.mem_cons_self
  · refine List.mem_cons_of_mem _ (List.mem_append.2 ?_);have e2:(y.1 == x.q)=false:=(by simpa using e);rw[e2]at hf;by_cases h3:0<occ x.ds y.1
    · obtain⟨d,hd,ho,he⟩:=occ_pos h3;exact .inl (List.mem_map.2 ⟨d,List.mem_filter.2 ⟨hd,ho⟩,he⟩)
    · obtain⟨c,hc,he⟩:=coc_pos (C:=x.C) (p:=y.1) (by have:one false=0:=rfl;omega);exact .inr (List.mem_map.2 ⟨c,hc,he⟩)
 rw[List.length_map,List.length_cons,List.length_append,List.length_map,List.length_map,len_on]at h1;unfold Rn.hold;omega
theorem cutR_eq {S:Sta} {x:Rn} (h:Bks S x) (hg:Gd x) {c:Rec} (hc:c ∈ x.C) (s:Clm):cutS S s c=cutR x.R s c:=by
 have hf:0<x.f c.1:=by
  have h1:=le_tot (fun e:Rec=>one (e.1 == c.1)) hc;have h2:one (c.1 == c.1)=1:=by simp[one]
  rw[h2]at h1;show 0<_+_+coc x.C c.1;unfold coc;omega
 unfold cutS cutR;rw[h.bk.his (hg.ct c hc).1 hf];rfl
theorem fold_eq {S:Sta} {x:Rn} (h:Bks S x) (hg:Gd x):∀(l:List Rec) (s:Clm),(∀c ∈ l,c ∈ x.C)->l.foldl (cutS S) s=l.foldl (cutR x.R) s
 | [],_,_=>rfl
 | c :: l,s,hl=>by rw[List.foldl_cons,List.foldl_cons,cutR_eq h hg (hl c List.mem_cons_self),fold_eq h hg l _ fun y hy=>hl y (List.mem_cons_of_mem c hy)]
theorem run_ok {B Y G:Nat} {S:Sta} {x:Rn} (h:Bks S x) (hg:Gd x) (hG:x.R x.q<=G) (hY2:Y*(1000000*10 ^ 36)<B):∀(l:List Rec) (s:Clm),(∀c ∈ l,c ∈ x.C)->s.y<=Y->s.x+(l.length+1)*(Y*G)<B->RunOk B S x.q l s
 | [],s,_,hy,hx=>by
   have hh:=h.bk.his (zR _) (f_q x);have h1:s.y*((hist S x.q).1-s.z)<=Y*G:=by rw[hh];exact Nat.mul_le_mul hy (zT (Nat.sub_le _ _) hG)
   have h2:=Nat.div_le_self (s.y*((hist S x.q).1-s.z)) (10 ^ 36);simp only[List.length_nil,Nat.zero_add,Nat.one_mul]at hx;exact⟨by omega,by omega⟩
 | c :: l,s,hl,hy,hx=>by
   have hc:=hl c List.mem_cons_self;have a1:=hg.ct c hc;have e:=cutR_eq h hg hc s;have hf:(hist S c.1).1<=G:=by
     have h3:=congrArg Clm.z e;have h3:(hist S c.1).1=x.R c.1:=h3;rw[h3];exact zT (hg.rt c.1 a1.1) hG
   have h1:s.y*((hist S c.1).1-s.z)<=Y*G:=Nat.mul_le_mul hy (zT (Nat.sub_le _ _) hf);have h2:=Nat.div_le_self (s.y*((hist S c.1).1-s.z)) (10 ^ 36);rw[List.length_cons,Nat.add_mul,Nat.one_mul]at hx;have h4:0<=(l.length+1)*(Y*G):=Nat.zero_le _;refine⟨⟨⟨by omega,by omega⟩,?_⟩,run_ok h hg hG hY2 l _ (fun y hy2=>hl y (List.mem_cons_of_mem c hy2)) ?_ ?_⟩
   · refine Nat.lt_of_le_of_lt (Nat.mul_le_mul hy (Nat.mul_le_mul_right _ ?_)) hY2;have:=hg.n3;omega
   · show s.y*(c.2.2*10 ^ 36) / (c.2.1*10 ^ 36)<=Y
     refine zT (Nat.div_le_of_le_mul ?_) hy;rw[Nat.mul_comm];exact Nat.mul_le_mul_right _ (Nat.mul_le_mul_right _ a1.2.2.1)
   · show s.x+s.y*((hist S c.1).1-s.z) / 10 ^ 36+(l.length+1)*(Y*G)<B
     omega
end F1

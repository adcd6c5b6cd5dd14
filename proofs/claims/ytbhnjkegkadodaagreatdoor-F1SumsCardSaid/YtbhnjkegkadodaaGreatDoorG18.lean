/- Part of the proof. -/
import Derived.Test.YtbhnjkegkadodaaGreatDoorG16
import Derived.Test.YtbhnjkegkadodaaGreatDoorG17
set_option linter.all false
set_option maxRecDepth 100000
set_option maxHeartbeats 8000000
namespace Gz
open Go Go.RowKit Go.Proofs Gl Go.Shelf
theorem add_c {w:World} {b o:Nat} {cs:Array Value} {t:TypeId} {k:Int} (h:w.heap[b]?=some (.cells cs t (0,0))) (hk:cs[o]?=some (.int .i64 k)):
 Calls Tryz.prog 132 #[.pointer (some ⟨b,o,none⟩),.int .i64 1] w fun e w'=>(∃v,e=.returned v)/\w'=w.setCell ⟨b,o,none⟩ (.int .i64 (IntKind.i64.wrap (k+1))):=by
 have hc:=zaa h o _ hk;have hf:=zad h o;have hr:(Extern.Atomic.update (Op.intArith .add) .i64 true #[.pointer (some ⟨b,o,none⟩),.int .i64 1]).run Tryz.prog w=.ok (.int .i64 (IntKind.i64.wrap (k+1))) (w.setCell ⟨b,o,none⟩ (.int .i64 (IntKind.i64.wrap (k+1)))):=by
  have a3:∀m,(load ⟨b,o,none⟩ m).run Tryz.prog w=.ok (.int .i64 k) w:=fun m=>by rw[run_load];simp[hc]
  have a4:∀m x,(store ⟨b,o,none⟩ (.int .i64 x) m).run Tryz.prog w=.ok () (w.setCell ⟨b,o,none⟩ (.int .i64 x)):=fun m x=>by rw[run_store Tryz.prog w _ _ _ rfl];simp[hc,hf]
  show(do
   let a <-asAddr (.pointer (some ⟨b,o,none⟩))
   let old <-Extern.Atomic.read (.int .i64) a
   let n <-Op.intArith .add .i64 (<-asInt old) (<-asInt (.int .i64 1))
   store a n .atomic
   pure (if true then n else old):Sem Value).run Tryz.prog w=_
  simp[asAddr,Extern.Atomic.read,asInt,asIntOf,Op.intArith,Result.andThen,a3,a4]
 have hx:(callFunc 193 #[.pointer (some ⟨b,o,none⟩),.int .i64 1]).run Tryz.prog w=.ok (.value (.int .i64 (IntKind.i64.wrap (k+1)))) (w.setCell ⟨b,o,none⟩ (.int .i64 (IntKind.i64.wrap (k+1)))):=add_run 193 rfl _ _ _ _ _ hr;obtain⟨r,a1⟩:=zE (IntKind.i64.wrap (k+1));rw[<-a1]at hx ⊢;clear hr hc hf a1 h hk;go_enter Tryz.func132,Tryz.ntmps132
 go_wp2_with (simp only[hx])
 go_ret
 exact⟨⟨_,rfl⟩,rfl⟩
theorem counted_c {w:World} {bs g:Nat} {lb:Array Value}:
 Calls Tryz.prog 175 #[.pointer (some ⟨bs,0,none⟩),.func (.func g) #[] lb] w fun e w'=>∃b1 b2,e=.returned (.func (.func 234) #[] #[.pointer (some ⟨b1,0,none⟩),.pointer (some ⟨b2,0,none⟩)])/\New w w'/\w.heap.size<=b1/\w.heap.size<=b2/\b1<w'.heap.size/\b2<w'.heap.size/\w'.cell? ⟨b1,0,none⟩=some (.pointer (some ⟨bs,0,none⟩))/\w'.cell? ⟨b2,0,none⟩=some (.func (.func g) #[] lb):=by
 go_enter Tryz.func175,Tryz.ntmps175
 go_wp2
 go_ret
 refine⟨w.heap.size,w.heap.size+1,rfl,(zU _ _ _).trans (zU _ _ _),zR _,by omega,?_,?_,?_,?_⟩
 · show _<((w.heap.push _).push _).size;simp;omega
 · show _<((w.heap.push _).push _).size;simp
 · exact zaa (t:=34) (fr:=(0,0)) (cs:=#[.pointer (some ⟨bs,0,none⟩)]) (by rw[zaj _ (by show _<(w.heap.push _).size;simp)];exact zX w _) 0 _ rfl
 · have e:=zX (w.alloc (.cells #[.pointer (some ⟨bs,0,none⟩)] 34)) (.cells #[.func (.func g) #[] lb] 117);rw[show(w.alloc (.cells #[.pointer (some ⟨bs,0,none⟩)] 34)).heap.size=w.heap.size+1 by show(w.heap.push _).size=_;simp]at e;exact zaa e 0 _ rfl
def StoB (w:World) (bs bm:Nat):Prop:=∃k:Int,w.heap[bs]?=some (.cells #[.pointer (some ⟨bm,0,none⟩),.slice none 0 0,.int .i64 k] 102 (0,0))
end Gz
namespace Gz
open Go Go.RowKit Go.Proofs Gl Go.Shelf
attribute [local go_sem] Oper.semAt_some
structure Cnt (base bm n c b1 b2 b3 bs p1 p2:Nat) (D:Nat->Prop) (A:Option Addr) (vs:List Value) (ps:List (List Ent)) (css:List (List Value)) (W:World):Prop where
 wlk:Wlk base bm n c b1 b2 b3 D A vs ps css W
 box1:W.cell? ⟨p1,0,none⟩=some (.pointer (some ⟨bs,0,none⟩))
 box2:W.cell? ⟨p2,0,none⟩=some (.func (.func 108) #[] #[.pointer (some ⟨b1,0,none⟩),.pointer (some ⟨b2,0,none⟩),.pointer (some ⟨b3,0,none⟩)])
 sto:StoB W bs bm
theorem StoB.lt {w:World} {bs bm:Nat} (h:StoB w bs bm):bs<w.heap.size:=by obtain⟨k,hk⟩:=h;exact(zqA.1 hk).1
theorem StoB.upd {T:Nat->Prop} {w w':World} {bs bm:Nat} (h:StoB w bs bm) (hu:Upd T w w') (hn:¬T bs):StoB w' bs bm:=by
 obtain⟨k,hk⟩:=h;exact⟨k,(hu.block bs (zqA.1 hk).1 hn).trans hk⟩
theorem StoB.count {w:World} {bs bm:Nat} (h:StoB w bs bm):Calls Tryz.prog 132 #[.pointer (some ⟨bs,2,none⟩),.int .i64 1] w fun e w'=>(∃v,e=.returned v)/\StoB w' bs bm/\Upd (fun b=>b=bs) w w':=by
 obtain⟨k,hk⟩:=h;refine(add_c hk (o:=2) rfl).mono fun e w' ⟨hv,hw⟩=>⟨hv,?_,?_⟩
 · rw[hw];exact⟨_,zac hk _ (i:=2)⟩
 · rw[hw];exact Upd.setCell w _ rfl
theorem Cnt.upd {base bm n c b1 b2 b3 bs p1 p2:Nat} {D T:Nat->Prop} {A:Option Addr} {vs:List Value} {ps:List (List Ent)} {css:List (List Value)} {W W':World} (h:Cnt base bm n c b1 b2 b3 bs p1 p2 D A vs ps css W) (hu:Upd T W W') (hf:∀b,foot bm D A n c vs b->¬T b) (h1:¬T b1) (h2:¬T b2) (h3:¬T b3) (h4:¬T p1) (h5:¬T p2) (h6:StoB W' bs bm):Cnt base bm n c b1 b2 b3 bs p1 p2 D A vs ps css W':=
 ⟨h.wlk.upd hu hf h1 h2 h3,(hu.cell (a:=⟨p1,0,none⟩) (zqB W _ h.box1) h4).trans h.box1,(hu.cell (a:=⟨p2,0,none⟩) (zqB W _ h.box2) h5).trans h.box2,h6⟩
theorem Copies.upd {T:Nat->Prop} {x:Ent} {W0 A B:World} {vals:Array Value} (h:Copies x W0 A vals) (hu:Upd T A B) (hT:∀b,W0.heap.size<=b->¬T b):Copies x W0 B vals:=by
 obtain⟨A1,n1,c1,A2,n2,c2,e,h1,h2⟩:=h;exact⟨A1,n1,c1,A2,n2,c2,e,h1.upd hu hT,h2.upd hu hT⟩
theorem walkKN_gives {base bm n c b1 b2 b3 nf cf ct:Nat} {D:Nat->Prop} {A Af At:Option Addr} {vs:List Value} {ps:List (List Ent)} {css:List (List Value)} {fk:Bs} (hlen:ps.flatten.length<=1000000) (hsz:∀e ∈ ps.flatten,e.1.length<=1073741824/\e.2.length<=1073741824):
 Gives Tryz.prog 108 #[.pointer (some ⟨b1,0,none⟩),.pointer (some ⟨b2,0,none⟩),.pointer (some ⟨b3,0,none⟩)] Copies (fun _=>False) (WlkK base bm n c b1 b2 b3 nf cf 0 ct D A Af At vs ps css fk) ((ps.flatten).filter (fun e=>!blt e.1 fk)):=by
 intro l J Jx W hJ hJx hK h0 hY;have d1:=hK.box1;have d2:=hK.box2;have d3:=hK.box3;have l1:=zqB W ⟨b1,0,none⟩ d1;have l2:=zqB W ⟨b2,0,none⟩ d2;have l3:=zqB W ⟨b3,0,none⟩ d3;have f6:∀v,New W (W.alloc (.cells #[v] 112)):=fun v=>zU _ _ _;have k1:(W.alloc (.cells #[.func (.yield l) #[] #[]] 112)).cell? ⟨b1,0,none⟩=_:=((f6 _).cell (a:=⟨b1,0,none⟩) l1 id).trans d1;have k2:(W.alloc (.cells #[.func (.yield l) #[] #[]] 112)).cell? ⟨b2,0,none⟩=_:=((f6 _).cell (a:=⟨b2,0,none⟩) l2 id).trans d2;have m4:b1<W.heap.size:=l1;have m5:b2<W.heap.size:=l2;have m6:b3<W.heap.size:=l3;have HY:=zqH hY;have HJ:=zqH hJ;have h6:=zqH hJx;have HK:=zqH hK;have H0:=zqH h0;have HL:=zqH hlen;have j5:=zqH hsz;have h8:∀a,Af=some a → 0<nf->a.block<W.heap.size:=fun a ha h0=>by
  obtain⟨_,_,_,e,_,h⟩:=BV.of hK.from_;cases e;exact h a ha h0
 have e5:=zqH h8;clear h8 hY hJ hJx hK h0 hlen hsz f6;refine(callsIn_wide (n:=0)).1 ?_
 refine callsIn_of_wp_marks Tryz.func108 rfl trivial ?_ rfl;simp only[Tryz.ntmps108,List.size_toArray,List.length_cons,List.length_nil,Nat.reduceAdd,Nat.reduceSub,Array.replicate_succ,Array.replicate_zero,List.push_toArray,List.append_toArray,List.nil_append,List.cons_append]
 gi_wp2_with (refine⟨trivial,rfl,?_⟩;gi_at_call 109;refine(callsIn_wide.2 rising_c).mono ?_;rintro e w1 ⟨r1,r2,rfl,e9,p1,p5,p6,p7,k9,l0⟩;have d0:=zqH e9;clear e9)
 have o0:W.heap.size+1<=w1.heap.size:=by have:=d0.out.size;have e:(W.alloc (.cells #[.func (.yield l) #[] #[]] 112)).heap.size=W.heap.size+1:=(by show(W.heap.push _).size=_;simp);omega
 have h9:New W w1:=(zU _ _ _).trans d0.out;have j6:w1.cell? ⟨W.heap.size,0,none⟩=some (.func (.yield l) #[] #[]):=(d0.out.cell (a:=⟨W.heap.size,0,none⟩) (by show _<(W.heap.push _).size;simp) id).trans (zaa (zX W _) 0 _ rfl);have f7:=HK.out.new h9;have f8:∀b,foot bm D A n c vs b->b<W.heap.size:=fun b hb=>HK.out.map.map.toMapRaw.foot_lt hb;refine zbd (gf:=167) (lb:=#[.pointer (some ⟨r1,0,none⟩),.pointer (some ⟨r2,0,none⟩)]) rfl (fun args w=>zaw 167 Tryz.func167 (by kernel_rfl) (by kernel_rfl) args w)
  (risingK_all (base:=base) (bm:=bm) (n:=n) (c:=c) (b1:=r1) (b2:=r2) (nf:=nf) (cf:=cf) (D:=D) (A:=A) (Af:=Af) (vs:=vs) (ps:=ps) (css:=css) (fk:=fk) (zT (pages_le HK.out.map.map.good.1) HL.out)) (fun x _ _ vals he=>by rw[he];rfl) (fun b h=>h.elim)
  (fun P Q hk hu=>hk.upd hu (fun b hb=>by have:=f8 b hb;omega) (by omega) (by omega) (fun a ha h0=>by have:=e5.out a ha h0;omega)) ⟨f7.map,k9,l0,f7.from_⟩ (fun x W0 P Q vals _ he _=>he)
  (fun Z (pre:List CE) V=>J Z (entsOf pre) V/\WlkK base bm n c b1 b2 b3 nf cf 0 ct D A Af At vs ps css fk V/\V.cell? ⟨W.heap.size,0,none⟩=some (.func (.yield l) #[] #[]))
  (fun Z cd (pre:List CE) V=>cd=.ret/\Jx Z (entsOf pre) V)
  (fun Z hZ s P Q hs hu=>⟨HJ.out Z _ P Q hs.1 (hu.mono (fun b _ hb=>hb.imp id (fun hb=>⟨by omega,hb.2⟩))),hs.2.1.upd hu (fun b hb h=>by have:=f8 b hb;exact h.elim id (fun h=>by omega)) (fun h=>h.elim id (fun h=>by omega)) (fun h=>h.elim id (fun h=>by omega)) (fun h=>h.elim id (fun h=>by omega)) (fun a ha h0 h=>by have:=e5.out a ha h0;exact h.elim id (fun h=>by omega)),(hu.cell (a:=⟨W.heap.size,0,none⟩) (zqB P _ hs.2.2) (fun h=>h.elim id (fun h=>by simp only at h;omega))).trans hs.2.2⟩)
  (fun Z cd hZ s P Q hs hu=>⟨hs.1,h6.out Z _ P Q hs.2 (hu.mono (fun b _ hb=>hb.imp id (fun hb=>⟨by omega,hb.2⟩)))⟩)
  (fun Z hZ=>⟨(HJ.out Z) _ _ _ (H0.out Z) (h9.mono (fun _ _ h=>h.elim)),f7,j6⟩)
  (fun W0 vals a' V=>∃bx k1 n1 e1 k2 n2 e2,vals=#[.agg #[.slice k1 n1 e1,.slice k2 n2 e2]]/\a' = { tmps:=#[.func (.yield l) #[] #[],.pointer (some ⟨b1,0,none⟩),.pointer (some ⟨b2,0,none⟩),.pointer (some ⟨b3,0,none⟩),.pointer (some ⟨W.heap.size,0,none⟩),.pointer (some ⟨bx,0,none⟩),.pointer (some ⟨bm,0,none⟩),.slice Af nf cf,.func (.func 167) #[] #[.pointer (some ⟨r1,0,none⟩),.pointer (some ⟨r2,0,none⟩)],.agg #[.slice k1 n1 e1,.slice k2 n2 e2],undef,undef,undef,undef,undef,undef,undef,undef,undef,undef,undef,undef,undef,undef,undef,undef,undef,undef,undef,undef,undef],defers:=[] }/\V.heap[bx]?=some (.cells #[.slice k1 n1 e1,.slice k2 n2 e2] 182 (0,0))/\w1.heap.size+2<=bx/\W0.heap.size<=bx)
  (fun W0 vals a' P Q hs hu=>by
    obtain⟨bx,k1,n1,e1,k2,n2,e2,q1,q2,q3,q4⟩:=hs;exact⟨bx,k1,n1,e1,k2,n2,e2,q1,q2,(hu.block bx (zqA.1 q3).1 (by have:=q4.1;omega)).trans q3,q4⟩)
  ?assign ?body ?done ?stop
 case assign=>
  rintro l2 x W0 V vals K ⟨pre,post,hx⟩ hz hz0 rfl hk hK';obtain⟨⟨k1,n1,e1,g1,_⟩,⟨k2,n2,e2,g2,_⟩⟩:=hk.map.all_by x (mem_fromK (fk:=fk) (by rw[hx];simp));obtain⟨xk,xv,xe⟩:=x;simp only at g1 g2;subst g1 g2;unfold encE
  gi_wp2
  exact hK' _ _ (zU _ _ _) ⟨V.heap.size,k1,n1,e1,k2,n2,e2,rfl,rfl,zX V _,hz,hz0⟩
 case body=>
  rintro Z pre x W0 V vals a' ⟨post,hx⟩ hZ1 hZ2 ⟨hi,b6,f0⟩ hu0 rfl ⟨bx,k1,n1,e1,k2,n2,e2,q1,rfl,q3,q4,q5⟩ hk;have j7:=zqH q5;obtain⟨xk,xv,xe⟩:=x;obtain⟨g1,g2⟩:=hk.map.all_by (xk,xv,xe) (mem_fromK (fk:=fk) (by rw[hx];simp));have i0:xe ∈ ps.flatten:=by
   rw[<-hk.map.all_ents];exact List.mem_map_of_mem (f:=fun x:CE=>x.2.2) (a:=(xk,xv,xe)) (mem_fromK (fk:=fk) (by rw[hx];simp))
  have e6:(ps.flatten).filter (fun e=>!blt e.1 fk)=entsOf pre ++ xe :: entsOf post:=by
   have e1:entsOf (fromK fk (ceAll css ps).flatten)=(ps.flatten).filter (fun e=>!blt e.1 fk):=by rw[zbp];exact congrArg _ hk.map.all_ents
   rw[<-e1,hx];simp[entsOf]
  simp only[encE]at q1 g1 g2
  injection q1 with q1
  simp only[List.cons.injEq,Value.agg.injEq,and_true]at q1
  injection q1 with q1
  simp only[List.cons.injEq,and_true]at q1;obtain⟨rfl,rfl⟩:=q1;have d3:=b6.box3;have a9:Upd (Priv (fun _=>False) w1.heap.size Z) W0 V:=hu0;have b0:∀b,b<w1.heap.size->¬Priv (fun _=>False) w1.heap.size Z b:=fun b hb h=>h.elim id (fun h=>by omega);have f9:=b6.upd a9 (fun b hb=>b0 b (by have:=f8 b hb;omega)) (b0 _ (by omega)) (b0 _ (by omega)) (b0 _ (by omega)) (fun a ha h0=>b0 _ (by have:=e5.out a ha h0;omega));have v3:=f9.box3;have vy:V.cell? ⟨W.heap.size,0,none⟩=some (.func (.yield l) #[] #[]):=(a9.cell (a:=⟨W.heap.size,0,none⟩) (zqB W0 _ f0) (b0 W.heap.size (by omega))).trans f0;have e7:=zaa q3 0 (.slice k1 n1 e1) rfl;have g0:=zaa q3 1 (.slice k2 n2 e2) rfl;have g3:=j5.out _ i0;have d5:By V k1 n1 e1 xe.1:=by obtain⟨_,_,_,q,h,_⟩:=g1;cases q;exact h
  have d6:By V k2 n2 e2 xe.2:=by obtain⟨_,_,_,q,h,_⟩:=g2;cases q;exact h
  have f3:∀Vx,New V Vx->Calls Tryz.prog 107 #[.slice k1 n1 e1] Vx fun e w'=>∃A' c',e=.returned (.slice A' n1 c')/\BV (fun b=>Vx.heap.size<=b) w' (.slice A' n1 c') xe.1/\New Vx w':=fun Vx hx=>owned_c (d5.new hx) (by rw[<-d5.len];exact g3.1);have f4:∀Vx,New V Vx->Calls Tryz.prog 107 #[.slice k2 n2 e2] Vx fun e w'=>∃A' c',e=.returned (.slice A' n2 c')/\BV (fun b=>Vx.heap.size<=b) w' (.slice A' n2 c') xe.2/\New Vx w':=fun Vx hx=>owned_c (d6.new hx) (by rw[<-d6.len];exact g3.2);have f5:∃post,(ps.flatten).filter (fun e=>!blt e.1 fk)=entsOf pre ++ xe :: post:=⟨entsOf post,e6⟩
  have i1:∀V2 vals,New V V2->Copies xe W0 V2 vals->YieldAt FW 0 Tryz.prog l vals V2 fun e W'=>Kept W.heap.size Z W0.heap.size V2 W'/\WlkK base bm n c b1 b2 b3 nf cf 0 ct D A Af At vs ps css fk W'/\((e=.returned (.bool true)/\J Z (entsOf pre ++ [xe]) W')\/(e=.returned (.bool false)/\Jx Z (entsOf pre ++ [xe]) W')):=fun V2 vals hn hc=>
   HY.out Z (entsOf pre) xe W0 V2 vals f5 (by omega) hZ2 hi ((a9.mono (fun b _ hb=>hb.imp id (fun hb=>⟨by omega,hb.2⟩))).trans (hn.mono (fun _ _ h=>h.elim))) hc (f9.new hn)
  have i3:∀Vx,New V Vx->Vx.cell? ⟨b3,0,none⟩=some (.slice At 0 ct)/\Vx.cell? ⟨W.heap.size,0,none⟩=some (.func (.yield l) #[] #[])/\Vx.cell? ⟨bx,0,none⟩=some (.slice k1 n1 e1)/\Vx.cell? ⟨bx,1,none⟩=some (.slice k2 n2 e2):=fun Vx hn=>
   ⟨(hn.cell (a:=⟨b3,0,none⟩) (zqB V _ v3) id).trans v3,(hn.cell (a:=⟨W.heap.size,0,none⟩) (zqB V _ vy) id).trans vy,(hn.cell (a:=⟨bx,0,none⟩) (zqB V _ e7) id).trans e7,(hn.cell (a:=⟨bx,1,none⟩) (zqB V _ g0) id).trans g0⟩
  have i4:=zqH i3;clear i3;have a8:=zqH a9.size;have o1:=zqH a9;have HA:=zqH f3;have HB:=zqH f4;have k0:=zqH i1;have o4:=zqH q3;have i5:=zqH hk;clear hx i0 e6 g1 g2 hi b6 f0 hu0 d3 a9 f9 g3 d5 d6 f3 f4 f5 i1 hk q3;have mixed:Tryz.prog.follows .mixedOrders=true:=by kernel_rfl
  gi_wp2
  refine beginS (S:=fun w'=>w'.cell? ⟨b3,0,none⟩=some (.slice At 0 ct)/\w'.cell? ⟨W.heap.size,0,none⟩=some (.func (.yield l) #[] #[])/\w'.cell? ⟨bx,0,none⟩=some (.slice k1 n1 e1)/\w'.cell? ⟨bx,1,none⟩=some (.slice k2 n2 e2)) mixed ?_
  have a1:V.drew.cell? ⟨b3,0,none⟩=some (.slice At 0 ct)/\V.drew.cell? ⟨W.heap.size,0,none⟩=some (.func (.yield l) #[] #[])/\V.drew.cell? ⟨bx,0,none⟩=some (.slice k1 n1 e1)/\V.drew.cell? ⟨bx,1,none⟩=some (.slice k2 n2 e2):=⟨v3,vy,e7,g0⟩
  refine takeS 0 (oi:=⟨some 10,.load 113 (.tmp 3),113,"page.go:156",#[],none⟩) (fun _=>trivial) (by rfl) rfl (by kernel_rfl) (by kernel_rfl) (by kernel_rfl) (fun _ _ _ h=>h) (v:=.slice At 0 ct) (Or.inl ⟨by rfl,?_⟩) a1 ?_
  · rintro w' ⟨y1,y2,y3,y4⟩;go_simp
  simp only[Act.put,zqP];refine takeS 1 (oi:=⟨some 11,.call { callee:=.builtin Builtin.len,args:=#[.tmp 10],argTypes:=#[113] },3,"page.go:156",#[⟨0,.data⟩],none⟩) (fun _=>trivial) (by rfl) rfl (by kernel_rfl) (by kernel_rfl) (by kernel_rfl) (fun _ _ _ h=>h) (v:=.int .i64 0) (Or.inl ⟨by rfl,?_⟩) a1 ?_
  · rintro w' ⟨y1,y2,y3,y4⟩;go_simp
  simp only[Act.put,zqP];refine takeS 2 (oi:=⟨some 12,.binOp .gtr 3 (.tmp 11) (.const (.int .i64 0)) 3,4,"page.go:156",#[⟨1,.data⟩],none⟩) (fun _=>trivial) (by rfl) rfl (by kernel_rfl) (by kernel_rfl) (by kernel_rfl) (fun _ _ _ h=>h) (v:=.bool false) (Or.inl ⟨by rfl,?_⟩) a1 ?_
  · rintro w' ⟨y1,y2,y3,y4⟩;go_simp
  simp only[Act.put,zqP];refine takeS 3 (oi:=⟨some 13,.move (.tmp 12),4,"page.go:156",#[⟨2,.data⟩],none⟩) (fun _=>trivial) (by rfl) rfl (by kernel_rfl) (by kernel_rfl) (by kernel_rfl) (fun _ _ _ h=>h) (v:=.bool false) (Or.inl ⟨by rfl,?_⟩) a1 ?_
  · rintro w' ⟨y1,y2,y3,y4⟩;go_simp
  simp only[Act.put,zqP];refine takeS 4 (oi:=⟨some 14,.fieldAddr 182 (.tmp 5) 0,0,"page.go:156",#[⟨3,.guard⟩],some (3,true)⟩) (fun _=>trivial) (by rfl) rfl (by kernel_rfl) (by kernel_rfl) (by kernel_rfl) (fun _ _ _ h=>h) (v:=undef) (Or.inr ⟨by rfl,rfl⟩) a1 ?_
  simp only[Act.put,zqP];refine takeS 5 (oi:=⟨some 15,.load 113 (.tmp 14),113,"page.go:156",#[⟨4,.data⟩,⟨3,.guard⟩],some (3,true)⟩) (fun _=>trivial) (by rfl) rfl (by kernel_rfl) (by kernel_rfl) (by kernel_rfl) (fun _ _ _ h=>h) (v:=undef) (Or.inr ⟨by rfl,rfl⟩) a1 ?_
  simp only[Act.put,zqP];refine takeS 6 (oi:=⟨some 16,.load 113 (.tmp 3),113,"page.go:156",#[⟨3,.guard⟩],some (3,true)⟩) (fun _=>trivial) (by rfl) rfl (by kernel_rfl) (by kernel_rfl) (by kernel_rfl) (fun _ _ _ h=>h) (v:=undef) (Or.inr ⟨by rfl,rfl⟩) a1 ?_
  simp only[Act.put,zqP];refine takeS 7 (oi:=⟨some 17,.call { callee:=.value (.func 110),args:=#[.tmp 15,.tmp 16],argTypes:=#[113,113] },3,"page.go:156",#[⟨5,.data⟩,⟨6,.data⟩,⟨3,.chain⟩,⟨3,.guard⟩],some (3,true)⟩) (fun _=>trivial) (by rfl) rfl (by kernel_rfl) (by kernel_rfl) (by kernel_rfl) (fun _ _ _ h=>h) (v:=undef) (Or.inr ⟨by rfl,rfl⟩) a1 ?_
  simp only[Act.put,zqP];refine takeS 8 (oi:=⟨some 18,.binOp .geq 3 (.tmp 17) (.const (.int .i64 0)) 3,4,"page.go:156",#[⟨7,.data⟩,⟨3,.guard⟩],some (3,true)⟩) (fun _=>trivial) (by rfl) rfl (by kernel_rfl) (by kernel_rfl) (by kernel_rfl) (fun _ _ _ h=>h) (v:=undef) (Or.inr ⟨by rfl,rfl⟩) a1 ?_
  simp only[Act.put,zqP];refine takeS 9 (oi:=⟨some 19,.pick (.tmp 13) (.tmp 18) (.const (.bool false)),4,"page.go:156",#[⟨3,.data⟩,⟨8,.data⟩],none⟩) (fun _=>trivial) (by rfl) rfl (by kernel_rfl) (by kernel_rfl) (by kernel_rfl) (fun _ _ _ h=>h) (v:=.bool false) (Or.inl ⟨by rfl,?_⟩) a1 ?_
  · rintro w' ⟨y1,y2,y3,y4⟩;go_simp
  simp only[Act.put,zqP];refine takeS 10 (oi:=⟨some 20,.move (.tmp 19),4,"page.go:156",#[⟨9,.data⟩,⟨7,.chain⟩],none⟩) (fun _=>trivial) (by rfl) rfl (by kernel_rfl) (by kernel_rfl) (by kernel_rfl) (fun _ _ _ h=>h) (v:=.bool false) (Or.inl ⟨by rfl,?_⟩) a1 ?_
  · rintro w' ⟨y1,y2,y3,y4⟩;go_simp
  simp only[Act.put,zqP];refine takeS 11 (oi:=⟨some 21,.load 112 (.tmp 4),112,"page.go:156",#[⟨10,.guard⟩],some (10,false)⟩) (fun _=>trivial) (by rfl) rfl (by kernel_rfl) (by kernel_rfl) (by kernel_rfl) (fun _ _ _ h=>h) (v:=.func (.yield l) #[] #[]) (Or.inl ⟨by rfl,?_⟩) a1 ?_
  · rintro w' ⟨y1,y2,y3,y4⟩;go_simp
  simp only[Act.put,zqP];refine takeS 12 (oi:=⟨some 22,.fieldAddr 182 (.tmp 5) 0,0,"page.go:156",#[⟨10,.guard⟩],some (10,false)⟩) (fun _=>trivial) (by rfl) rfl (by kernel_rfl) (by kernel_rfl) (by kernel_rfl) (fun _ _ _ h=>h) (v:=.pointer (some ⟨bx,0,none⟩)) (Or.inl ⟨by rfl,?_⟩) a1 ?_
  · rintro w' ⟨y1,y2,y3,y4⟩;go_simp
  simp only[Act.put,zqP];refine takeS 13 (oi:=⟨some 23,.load 113 (.tmp 22),113,"page.go:156",#[⟨12,.data⟩,⟨10,.guard⟩],some (10,false)⟩) (fun _=>trivial) (by rfl) rfl (by kernel_rfl) (by kernel_rfl) (by kernel_rfl) (fun _ _ _ h=>h) (v:=.slice k1 n1 e1) (Or.inl ⟨by rfl,?_⟩) a1 ?_
  · rintro w' ⟨y1,y2,y3,y4⟩;go_simp
  simp only[Act.put,zqP];refine takeS 15 (oi:=⟨some 25,.fieldAddr 182 (.tmp 5) 1,0,"page.go:156",#[⟨10,.guard⟩],some (10,false)⟩) (fun _=>trivial) (by rfl) rfl (by kernel_rfl) (by kernel_rfl) (by kernel_rfl) (fun _ _ _ h=>h) (v:=.pointer (some ⟨bx,1,none⟩)) (Or.inl ⟨by rfl,?_⟩) a1 ?_
  · rintro w' ⟨y1,y2,y3,y4⟩;go_simp
  simp only[Act.put,zqP];refine takeS 16 (oi:=⟨some 26,.load 113 (.tmp 25),113,"page.go:156",#[⟨15,.data⟩,⟨10,.guard⟩],some (10,false)⟩) (fun _=>trivial) (by rfl) rfl (by kernel_rfl) (by kernel_rfl) (by kernel_rfl) (fun _ _ _ h=>h) (v:=.slice k2 n2 e2) (Or.inl ⟨by rfl,?_⟩) a1 ?_
  · rintro w' ⟨y1,y2,y3,y4⟩;go_simp
  simp only[Act.put,zqP];refine callS 14 (o:=⟨some 24,.call { callee:=.value (.func 107),args:=#[.tmp 23],argTypes:=#[113] },113,"page.go:156",#[⟨13,.data⟩,⟨10,.chain⟩,⟨10,.guard⟩],some (10,false)⟩) rfl (by kernel_rfl) (by rfl) (fun K hK=>?_);go_simp;refine⟨trivial,rfl,(CallsIn.inRound _ (callsIn_wide.2 (HA.out V.drew ((Upd.refl _ V).drew)))).mono ?_⟩;rintro e V1 ⟨A1,c1,rfl,l4,e9⟩;have a3:New V V1:=Upd.of_drew e9;have k3:=i4.out V1 a3;refine hK _ _ ⟨k3,?_⟩;(try simp only[Act.put,zqP]);refine callS 17 (o:=⟨some 27,.call { callee:=.value (.func 107),args:=#[.tmp 26],argTypes:=#[113] },113,"page.go:156",#[⟨16,.data⟩,⟨14,.chain⟩,⟨10,.guard⟩],some (10,false)⟩) rfl (by kernel_rfl) (by rfl) (fun K2 hK2=>?_);go_simp;refine⟨trivial,rfl,(CallsIn.inRound _ (callsIn_wide.2 (HB.out V1 a3))).mono ?_⟩;rintro e V2 ⟨A2,c2,rfl,l5,f2⟩;have e8:=i4.out V2 (a3.trans f2);refine hK2 _ _ ⟨e8,?_⟩;(try simp only[Act.put,zqP]);obtain⟨fn,tmps,o8,o9,hy,hR⟩:=k0.out V2 _ (a3.trans f2) ⟨A1,n1,c1,A2,n2,c2,rfl,(l4.upd f2 (fun _ _=>id)).mono (fun b hb=>zT a8.out hb),l5.mono (fun b hb=>zT (zT a8.out a3.size) hb)⟩;refine callS 18 (o:=⟨some 28,.call { callee:=.value (.tmp 21),args:=#[.tmp 24,.tmp 27],argTypes:=#[113,113] },4,"page.go:156",#[⟨11,.data⟩,⟨14,.data⟩,⟨17,.data⟩,⟨17,.chain⟩,⟨10,.guard⟩],some (10,false)⟩) rfl (by kernel_rfl) (by rfl) (fun K3 hK3=>?_);go_simp;refine⟨rfl,hR.mono ?_⟩;rintro e V3 ⟨g5,e3,h4⟩;obtain⟨r,rfl,h5⟩:∃r,e=.returned (.bool r)/\((r=true/\J Z (entsOf pre ++ [xe]) V3)\/(r=false/\Jx Z (entsOf pre ++ [xe]) V3)):=h4.elim (fun h=>⟨true,h.1,.inl ⟨rfl,h.2⟩⟩) (fun h=>⟨false,h.1,.inr ⟨rfl,h.2⟩⟩);have b5:∀b,(W.heap.size<=b/\b<Z)\/(W0.heap.size<=b/\b<V2.heap.size)->V3.heap[b]?=V2.heap[b]?:=g5.2;have i6:bx<V.heap.size:=zqB V ⟨bx,0,none⟩ e7;have a7:=a3.trans f2;have d7:V3.heap[bx]?=V2.heap[bx]?:=by
    by_cases hb:bx<Z
    · exact b5 bx (.inl ⟨by omega,hb⟩)
    · exact b5 bx (.inr ⟨j7.out,zqL i6 a7.size⟩)
  have d8:V3.cell? ⟨b3,0,none⟩=some (.slice At 0 ct)/\V3.cell? ⟨W.heap.size,0,none⟩=some (.func (.yield l) #[] #[])/\V3.cell? ⟨bx,0,none⟩=some (.slice k1 n1 e1)/\V3.cell? ⟨bx,1,none⟩=some (.slice k2 n2 e2):=
    ⟨e3.box3,(World.cell?_of_block (a:=⟨W.heap.size,0,none⟩) (b5 W.heap.size (.inl ⟨zR _,by omega⟩))).trans e8.2.1,(World.cell?_of_block (a:=⟨bx,0,none⟩) d7).trans e8.2.2.1,(World.cell?_of_block (a:=⟨bx,1,none⟩) d7).trans e8.2.2.2⟩
  refine hK3 _ _ ⟨d8,?_⟩;(try simp only[Act.put,zqP]);refine takeS 19 (oi:=⟨some 29,.unOp .not 4 (.tmp 28),4,"page.go:156",#[⟨18,.data⟩,⟨10,.guard⟩],some (10,false)⟩) (fun _=>trivial) (by rfl) rfl (by kernel_rfl) (by kernel_rfl) (by kernel_rfl) (fun _ _ _ h=>h) (v:=.bool (!r)) (Or.inl ⟨by rfl,?_⟩) d8 ?_
  · rintro w' ⟨y1,y2,y3,y4⟩;go_simp
  refine takeS 20 (oi:=⟨some 30,.pick (.tmp 20) (.const (.bool true)) (.tmp 29),4,"page.go:156",#[⟨10,.data⟩,⟨19,.data⟩],none⟩) (fun _=>trivial) (by rfl) rfl (by kernel_rfl) (by kernel_rfl) (by kernel_rfl) (fun _ _ _ h=>h) (v:=.bool (!r)) (Or.inl ⟨by rfl,?_⟩) d8 ?_
  · rintro w' ⟨y1,y2,y3,y4⟩;go_simp
  refine doneS (by kernel_rfl) ?_ _;have d9:V3.heap[w1.heap.size]?=V.heap[w1.heap.size]?/\V3.heap[w1.heap.size+1]?=V.heap[w1.heap.size+1]?/\Kept (w1.heap.size+2) Z W0.heap.size V V3:=by
    have o5:Z<=V.heap.size:=zT hZ2 a8.out;have hold:∀b,(W.heap.size<=b/\b<Z)\/(W0.heap.size<=b/\b<V.heap.size)->V3.heap[b]?=V.heap[b]?:=fun b hb=>(b5 b (hb.imp id (fun h=>⟨h.1,zqL h.2 a7.size⟩))).trans (a7.block b (by omega) id);exact⟨hold _ (.inl ⟨by omega,by omega⟩),hold _ (.inl ⟨by omega,by omega⟩),zT a7.size g5.1,fun k hk=>hold k (hk.imp (fun h=>⟨by omega,h.2⟩) id)⟩
  have i7:=zqH d9;have k4:=zqH e3;have H5:=zqH h5;have k5:=zqH d8;have e0:RisK base bm n c r1 r2 nf cf D A Af vs ps css fk V3:=by
    have hold:∀b,W.heap.size<=b->b<Z->V3.heap[b]?=V.heap[b]?:=fun b hb1 hb2=>(b5 b (.inl ⟨hb1,hb2⟩)).trans (a7.block b (zqL hb2 (zT hZ2 a8.out)) id);have l8:W.heap.size+1=(W.alloc (.cells #[.func (.yield l) #[] #[]] 112)).heap.size:=(by show _=(W.heap.push _).size;simp);exact⟨e3.map,(World.cell?_of_block (a:=⟨r1,0,none⟩) (hold r1 (by omega) (by omega))).trans i5.out.box1,(World.cell?_of_block (a:=⟨r2,0,none⟩) (hold r2 (by omega) (by omega))).trans i5.out.box2,e3.from_⟩
  have i9:=zqH e0;clear d9 e3 h5 h4 d8 e0 g5 b5 d7 hy hR;cases r with
  | true=>
    simp only[Act.put,zqP,Bool.not_true,Bool.not_false]
    gi_wp2
    refine⟨i7.out,i9.out,?_,k4.out,k5.out.2.1⟩;show J Z (entsOf (pre ++ [(Value.slice k1 n1 e1,Value.slice k2 n2 e2,xe)])) V3;rw[zaq];exact H5.out.elim (fun h=>h.2) (fun h=>by cases h.1)
  | false=>
    simp only[Act.put,zqP,Bool.not_true,Bool.not_false]
    gi_wp2
    refine⟨i7.out,i9.out,rfl,?_⟩;show Jx Z (entsOf (pre ++ [(Value.slice k1 n1 e1,Value.slice k2 n2 e2,xe)])) V3;rw[zaq];exact H5.out.elim (fun h=>by cases h.1) (fun h=>h.2)
 case done=>
  rintro Z V hZ1 hZ2 ⟨hj,b6,f0⟩ hd _;have j0:entsOf (fromK fk (ceAll css ps).flatten)=(ps.flatten).filter (fun e=>!blt e.1 fk):=by rw[zbp];exact congrArg _ b6.map.all_ents
  gi_wp2
  refine⟨by simp,.inl ⟨_,_,rfl,run_takeDeferred hd,?_⟩⟩;refine⟨_,results_none rfl _ _ _,⟨_,rfl⟩,Z,by omega,by simpa using hZ2,.inl ⟨?_,b6.upd (Upd.putObj (S:=fun b=>b=w1.heap.size) V _ rfl) (fun b hb e=>by have h1:=HK.out.map.map.toMapRaw.foot_lt hb;have h2:=d0.out.size;have h3:(W.alloc (.cells #[.func (.yield l) #[] #[]] 112)).heap.size=W.heap.size+1:=(by show(W.heap.push _).size=_;simp);omega) (by omega) (by omega) (by omega) (fun a ha h0 e=>by have:=e5.out a ha h0;have h2:=d0.out.size;have e:a.block=w1.heap.size:=e;omega)⟩⟩;have k6:J Z ((ps.flatten).filter (fun e=>!blt e.1 fk)) V:=by rw[<-j0];exact hj
  exact HJ.out Z _ _ _ k6 (Upd.putObj _ _ (.inr ⟨by omega,by omega⟩))
 case stop=>
  rintro Z cd pre x post V hZ1 hZ2 hx ⟨rfl,j1⟩ hd;have e6:(ps.flatten).filter (fun e=>!blt e.1 fk)=entsOf pre ++ x.2.2 :: entsOf post:=by
   have e1:entsOf (fromK fk (ceAll css ps).flatten)=(ps.flatten).filter (fun e=>!blt e.1 fk):=by rw[zbp];exact congrArg _ HK.out.map.all_ents
   rw[<-e1,hx];simp[entsOf]
  gi_wp2
  refine⟨by simp,.inl ⟨_,_,rfl,run_takeDeferred hd,?_⟩⟩;refine⟨_,results_none rfl _ _ _,⟨_,rfl⟩,Z,by omega,by simpa using hZ2,.inr ⟨entsOf pre,x.2.2,entsOf post,e6,?_⟩⟩;rw[zaq]at j1;exact h6.out Z _ _ _ j1 (Upd.putObj _ _ (.inr ⟨by omega,by omega⟩))
end Gz

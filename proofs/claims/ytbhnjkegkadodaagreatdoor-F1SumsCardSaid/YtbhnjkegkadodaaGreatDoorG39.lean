/- Part of the proof. -/
import Derived.Test.YtbhnjkegkadodaaGreatDoorG35
set_option linter.all false
set_option maxRecDepth 100000
set_option maxHeartbeats 8000000
namespace Gz
open Go Go.RowKit Go.Proofs Gl Go.Shelf
attribute [local go_sem] Oper.semAt_some
structure PfxK (base bm n c bs sp pp np cp:Nat) (D:Nat->Prop) (A Ap:Option Addr) (vs:List Value) (ps:List (List Ent)) (css:List (List Value)) (pk:Bs) (W:World):Prop where
 map:MapC 182 251 base W bm D A n c vs ps css
 sto:StoB W bs bm
 b1:W.cell? ⟨sp,0,none⟩=some (.pointer (some ⟨bs,0,none⟩))
 b2:W.cell? ⟨pp,0,none⟩=some (.slice Ap np cp)
 by_:By W Ap np cp pk
end Gz
namespace Gz
open Go Go.RowKit Go.Proofs Gl Go.Shelf
attribute [local go_sem] Oper.semAt_some
section
variable {base bm n c bs sp pp np cp:Nat} {D T:Nat->Prop} {A Ap:Option Addr} {vs:List Value} {ps:List (List Ent)} {css:List (List Value)} {pk:Bs} {W W':World}
theorem PfxK.upd (h:PfxK base bm n c bs sp pp np cp D A Ap vs ps css pk W) (hu:Upd T W W') (hf:∀b,foot bm D A n c vs b->¬T b) (hs:StoB W' bs bm) (n1:¬T sp) (n2:¬T pp) (n3:∀a,Ap=some a → 0<np->¬T a.block):PfxK base bm n c bs sp pp np cp D A Ap vs ps css pk W':=
 ⟨h.map.upd hu hf,hs,(hu.cell (a:=⟨sp,0,none⟩) (zqB W _ h.b1) n1).trans h.b1,(hu.cell (a:=⟨pp,0,none⟩) (zqB W _ h.b2) n2).trans h.b2,h.by_.upd hu n3⟩
theorem PfxK.new (h:PfxK base bm n c bs sp pp np cp D A Ap vs ps css pk W) (hu:New W W'):PfxK base bm n c bs sp pp np cp D A Ap vs ps css pk W':=h.upd hu (fun _ _=>id) (h.sto.upd hu id) id id (fun _ _ _=>id)
end
end Gz
namespace Gz
open Go Go.RowKit Go.Proofs Gl Go.Shelf
attribute [local go_sem] Oper.semAt_some
def prefixed (pk:Bs) (L:List Ent):List Ent:=(L.filter (fun e=>!blt e.1 pk)).takeWhile (fun e=>decide (pk <+: e.1))
theorem twp_mid {p:Ent->Bool} {x:Ent} {B:List Ent}:∀ {A:List Ent},(∀e ∈ A,p e=true)->p x=true → (A ++ x :: B).takeWhile p=A ++ x :: B.takeWhile p
 | [],_,hx=>by rw[List.nil_append,List.takeWhile_cons,hx];rfl
 | a :: A,h,hx=>by rw[List.cons_append,List.takeWhile_cons,h a List.mem_cons_self,if_pos rfl,twp_mid (A:=A) (fun e he=>h e (List.mem_cons_of_mem a he)) hx];rfl
theorem twp_all {p:Ent->Bool}:∀ {A:List Ent},(∀e ∈ A,p e=true)->A.takeWhile p=A
 | [],_=>rfl
 | a :: A,h=>by rw[List.takeWhile_cons,h a List.mem_cons_self,if_pos rfl,twp_all (A:=A) (fun e he=>h e (List.mem_cons_of_mem a he))]
theorem twp_cut {p:Ent->Bool} {x:Ent} {B:List Ent}:∀ {A:List Ent},(∀e ∈ A,p e=true)->p x=false → (A ++ x :: B).takeWhile p=A
 | [],_,hx=>by rw[List.nil_append,List.takeWhile_cons,hx];rfl
 | a :: A,h,hx=>by rw[List.cons_append,List.takeWhile_cons,h a List.mem_cons_self,if_pos rfl,twp_cut (A:=A) (fun e he=>h e (List.mem_cons_of_mem a he)) hx]
theorem prefix1_gives {base bm n c bs sp pp np cp:Nat} {D:Nat->Prop} {A Ap:Option Addr} {vs:List Value} {ps:List (List Ent)} {css:List (List Value)} {pk:Bs} (hnp:np<=1073741824) (hlen:ps.flatten.length<=1000000) (hsz:∀e ∈ ps.flatten,e.1.length<=1073741824/\e.2.length<=1073741824):
 Gives Tryz.prog 189 #[.pointer (some ⟨sp,0,none⟩),.pointer (some ⟨pp,0,none⟩)] Copies (fun _=>False) (PfxK base bm n c bs sp pp np cp D A Ap vs ps css pk) (prefixed pk ps.flatten):=by
 intro l J Jx W hJ hJx hK h0 hY;have l1:=zqB W _ hK.b1;have l2:=zqB W _ hK.b2;simp only at l1 l2;have l5:bs<W.heap.size:=hK.sto.lt;have d8:∀b,foot bm D A n c vs b->b<W.heap.size:=fun b hb=>hK.map.map.toMapRaw.foot_lt hb;have g4:∀a,Ap=some a → 0<np->a.block<W.heap.size:=fun a ha h0=>by
  obtain⟨_,_,_,e,_,h⟩:=BV.of hK.by_;cases e;exact h a ha h0
 obtain⟨WA,d5⟩:=zE (W.alloc (.cells #[.func (.yield l) #[] #[]] 112));have e4:New W WA:=by rw[d5];exact zU _ _ _
 have d9:WA.heap.size=W.heap.size+1:=by rw[d5];show(W.heap.push _).size=_;simp
 have g5:WA.cell? ⟨W.heap.size,0,none⟩=some (.func (.yield l) #[] #[]):=by rw[d5];exact zaa (zX W _) 0 _ rfl
 have b7:=hK.new e4;have k1:=b7.b1;have k2:=b7.b2;have k3:WA.cell? ⟨bs,0,none⟩=some (.pointer (some ⟨bm,0,none⟩)):=zaa (Classical.choose_spec b7.sto) 0 _ rfl;have HY:=zqH hY;have HJ:=zqH hJ;have g6:=zqH hJx;have H0:=zqH h0;have HL:=zqH hlen;have j7:=zqH hsz;have e5:=zqH b7;have b8:=zqH e4;have b0:=zqH d8;have b9:=zqH g4;have g7:=zqH g5;have j8:=zqH (zN d9 (zN l1 (zN l2 l5)));have j9:=zqH hnp;have HS:=zqH (fun W' (hn:New WA W')=>(⟨(hn.cell (a:=⟨sp,0,none⟩) (zqB WA _ k1) id).trans k1,(hn.cell (a:=⟨pp,0,none⟩) (zqB WA _ k2) id).trans k2,(hn.cell (a:=⟨bs,0,none⟩) (zqB WA _ k3) id).trans k3⟩:W'.cell? ⟨sp,0,none⟩=some (.pointer (some ⟨bs,0,none⟩))/\W'.cell? ⟨pp,0,none⟩=some (.slice Ap np cp)/\W'.cell? ⟨bs,0,none⟩=some (.pointer (some ⟨bm,0,none⟩))));clear hY hJ hJx hK h0 hlen hsz e4 b7 d8 g4 g5 hnp d9 l1 l2 l5;refine(callsIn_wide (n:=0)).1 ?_
 refine callsIn_of_wp_marks Tryz.func189 rfl trivial ?_ rfl;simp only[Tryz.ntmps189,List.size_toArray,List.length_cons,List.length_nil,Nat.reduceAdd,Nat.reduceSub,Array.replicate_succ,Array.replicate_zero,List.push_toArray,List.append_toArray,List.nil_append,List.cons_append];refine wpIn_mono (Q:=noPanic _) ?_ (fun e a w h=>noPanic_of h)
 refine(wpIn_wide (n:=0)).2 ?_
 go_upto_region 1 with fail
 rw[<-d5];clear d5;have b5:=HS.out WA.drew ((Upd.refl _ WA).drew);refine beginK 5 (fun w'=>w'.cell? ⟨sp,0,none⟩=some (.pointer (some ⟨bs,0,none⟩))/\w'.cell? ⟨pp,0,none⟩=some (.slice Ap np cp)/\w'.cell? ⟨bs,0,none⟩=some (.pointer (some ⟨bm,0,none⟩))) (by kernel_rfl) (fun a2=>?_);refine takeK 0 [3,2,1,0] (oi:=⟨some 6,.load 34 (.tmp 1),34,"kv.go:96",#[],none⟩) rfl (by kernel_rfl) (by kernel_rfl) (by kernel_rfl) (by kernel_rfl) a2 (fun _ _ _ h=>h) (v:=.pointer (some ⟨bs,0,none⟩)) (Or.inl ⟨by rfl,?_⟩) b5 (fun hcl2=>?_)
 · rintro w' ⟨y1,y2,y3⟩;go_simp
 simp only[Act.put,zqP];replace a2:=hcl2;clear hcl2;refine takeK 1 [3,2,1] (oi:=⟨some 7,.nilCheck (.tmp 6),0,"kv.go:96",#[⟨0,.data⟩],none⟩) rfl (by kernel_rfl) (by kernel_rfl) (by kernel_rfl) (by kernel_rfl) a2 (fun _ _ _ h=>h) (v:=.pointer (some ⟨bs,0,none⟩)) (Or.inl ⟨by rfl,?_⟩) b5 (fun hcl2=>?_)
 · rintro w' ⟨y1,y2,y3⟩;go_simp
 simp only[Act.put,zqP];replace a2:=hcl2;clear hcl2;refine takeK 2 [3,2] (oi:=⟨some 8,.fieldAddr 102 (.tmp 7) 0,0,"kv.go:96",#[⟨1,.data⟩],none⟩) rfl (by kernel_rfl) (by kernel_rfl) (by kernel_rfl) (by kernel_rfl) a2 (fun _ _ _ h=>h) (v:=.pointer (some ⟨bs,0,none⟩)) (Or.inl ⟨by rfl,?_⟩) b5 (fun hcl2=>?_)
 · rintro w' ⟨y1,y2,y3⟩;go_simp
 simp only[Act.put,zqP];replace a2:=hcl2;clear hcl2;refine takeK 3 [3] (oi:=⟨some 9,.load 93 (.tmp 8),93,"kv.go:96",#[⟨2,.data⟩],none⟩) rfl (by kernel_rfl) (by kernel_rfl) (by kernel_rfl) (by kernel_rfl) a2 (fun _ _ _ h=>h) (v:=.pointer (some ⟨bm,0,none⟩)) (Or.inl ⟨by rfl,?_⟩) b5 (fun hcl2=>?_)
 · rintro w' ⟨y1,y2,y3⟩;go_simp
 simp only[Act.put,zqP];replace a2:=hcl2;clear hcl2;refine takeK 4 [4] (oi:=⟨some 10,.load 113 (.tmp 2),113,"kv.go:96",#[],none⟩) rfl (by kernel_rfl) (by kernel_rfl) (by kernel_rfl) (by kernel_rfl) a2 (fun _ _ _ h=>h) (v:=.slice Ap np cp) (Or.inl ⟨by rfl,?_⟩) b5 (fun hcl2=>?_)
 · rintro w' ⟨y1,y2,y3⟩;go_simp
 simp only[Act.put,zqP];replace a2:=hcl2;clear hcl2;refine oneK 5 (o:=⟨some 11,.call { callee:=.value (.func 57),args:=#[.tmp 9,.tmp 10,.const (.slice none 0 0)],argTypes:=#[93,113,113] },117,"kv.go:96",#[⟨3,.data⟩,⟨4,.data⟩],none⟩) rfl (by kernel_rfl) a2 (by rfl) (fun K hK=>?_);go_simp;refine(walkft_c (e5.out.by_.new ((Upd.refl _ WA).drew)) (By.nil _) j9.out (by decide)).mono ?_
 rintro e We ⟨b1,b2,b3,A1,c1,A2,c2,rfl,i4,i5,q3,q4,q5,q6,q7⟩;have ne:New WA We:=(Upd.refl _ WA).drew.trans i4;refine hK _ _ (fun h=>absurd rfl h) (fun _=>?_);have HE:=zqH (zN ne (zN i5 (zN q3 (zN q4 (zN q5 (zN q6 q7))))));clear ne i4 i5 q3 q4 q5 q6 q7 a2 hK K;(try simp only[Act.put,zqP]);refine doneK (by kernel_rfl) ?_ _;go_wp2;refine(wpIn_wide (n:=0)).1 ?_
 obtain⟨ne,⟨g1,g2,g3⟩,q3,q4,q5,q6,q7⟩:=HE.out;obtain⟨o9,p0,p1,p5⟩:=j8.out;have o6:=ne.size;have e6:By We A1 np c1 pk/\∀a,A1=some a → 0<np->WA.heap.size<=a.block/\a.block<We.heap.size:=by
   obtain⟨_,_,_,e,hb,h'⟩:=q6;cases e;obtain⟨_,_,_,e,_,h⟩:=BV.of hb;cases e;exact⟨hb,fun a ha h0=>⟨by have h':WA.drew.heap.size<=a.block:=h' a ha h0;exact h',h a ha h0⟩⟩
 have g1:WA.heap.size<=b1:=g1;have g2:WA.heap.size<=b2:=g2;have g3:WA.heap.size<=b3:=g3;have k6:=zqB We _ q3;have k7:=zqB We _ q4;have k8:=zqB We _ q5;simp only at k6 k7 k8;have e7:=e5.out.new ne;have e3:WlkK base bm n c b1 b2 b3 np c1 0 c2 D A A1 A2 vs ps css pk We:=⟨e7.map,q3,q4,q5,e6.1⟩
 have g8:We.cell? ⟨W.heap.size,0,none⟩=some (.func (.yield l) #[] #[]):=(ne.cell (a:=⟨W.heap.size,0,none⟩) (by show W.heap.size<WA.heap.size;omega) id).trans g7.out;have k9:=zqH e3;have l0:=zqH e7;have l3:=zqH g8;have l4:=zqH (b8.out.trans ne);have g9:=zqH e6.2;clear e3 e7 g8 e6 ne q3 q4 q5 q6 q7 HE g7 b8 e5 k1 k2 k3 HS b5;refine zbd (gf:=108) (lb:=#[.pointer (some ⟨b1,0,none⟩),.pointer (some ⟨b2,0,none⟩),.pointer (some ⟨b3,0,none⟩)]) rfl (fun args w=>zaw 108 Tryz.func108 (by kernel_rfl) (by kernel_rfl) args w)
   (walkKN_gives (base:=base) (bm:=bm) (n:=n) (c:=c) (b1:=b1) (b2:=b2) (b3:=b3) (nf:=np) (cf:=c1) (ct:=c2) (At:=A2) (D:=D) (A:=A) (Af:=A1) (vs:=vs) (ps:=ps) (css:=css) (fk:=pk) HL.out j7.out)
   (fun x _ _ vals he=>by obtain⟨_,_,_,_,_,_,e,_⟩:=he;rw[e];rfl) (fun b h=>h.elim)
   (fun P Q hk hu=>hk.upd hu (fun b hb=>by have:=b0.out b hb;omega) (by omega) (by omega) (by omega) (fun a ha h0=>by have:=g9.out a ha h0;omega)) k9.out
   (fun x W0 P Q vals hz he hu=>hu.elim (fun hu=>he.upd hu (fun _ _=>id)) (fun hu=>he.upd hu (fun b hb=>by omega)))
   (fun Z (pre:List Ent) V=>((J Z pre V/\∀e ∈ pre,pk <+: e.1)/\PfxK base bm n c bs sp pp np cp D A Ap vs ps css pk V)/\V.cell? ⟨W.heap.size,0,none⟩=some (.func (.yield l) #[] #[]))
   (fun Z cd (pre:List Ent) V=>cd=.ret/\((Jx Z pre V/\∀e ∈ pre,pk <+: e.1)\/∃pre' x,pre=pre' ++ [x]/\(∀e ∈ pre',pk <+: e.1)/\¬pk <+: x.1/\J Z pre' V/\PfxK base bm n c bs sp pp np cp D A Ap vs ps css pk V))
   (fun Z hZ s P Q hs hu=>⟨⟨⟨HJ.out Z _ P Q hs.1.1.1 (hu.mono (fun b _ hb=>hb.imp id (fun h=>⟨by omega,h.2⟩))),hs.1.1.2⟩,hs.1.2.upd hu (fun b hb h=>by have:=b0.out b hb;exact h.elim id (fun h=>by omega)) (hs.1.2.sto.upd hu (fun h=>h.elim id (fun h=>by omega))) (fun h=>h.elim id (fun h=>by omega)) (fun h=>h.elim id (fun h=>by omega)) (fun a ha h0 h=>by have:=b9.out a ha h0;exact h.elim id (fun h=>by omega))⟩,(hu.cell (a:=⟨W.heap.size,0,none⟩) (zqB P _ hs.2) (fun h=>h.elim id (fun h=>by simp only at h;omega))).trans hs.2⟩)
   (fun Z cd hZ s P Q hs hu=>⟨hs.1,hs.2.imp (fun h=>⟨g6.out Z _ P Q h.1 (hu.mono (fun b _ hb=>hb.imp id (fun h=>⟨by omega,h.2⟩))),h.2⟩) (fun⟨pre',x,e,h1,h2,h3,h4⟩=>⟨pre',x,e,h1,h2,HJ.out Z _ P Q h3 (hu.mono (fun b _ hb=>hb.imp id (fun h=>⟨by omega,h.2⟩))),h4.upd hu (fun b hb h=>by have:=b0.out b hb;exact h.elim id (fun h=>by omega)) (h4.sto.upd hu (fun h=>h.elim id (fun h=>by omega))) (fun h=>h.elim id (fun h=>by omega)) (fun h=>h.elim id (fun h=>by omega)) (fun a ha h0 h=>by have:=b9.out a ha h0;exact h.elim id (fun h=>by omega))⟩)⟩)
   (fun Z hZ=>⟨⟨⟨(HJ.out Z) _ _ _ (H0.out Z) (l4.out.mono (fun _ _ h=>h.elim)),fun e he=>(by cases he)⟩,l0.out⟩,l3.out⟩)
   (fun W0 vals a' V=>∃k1 n1 e1 k2 n2 e2,vals=#[.slice k1 n1 e1,.slice k2 n2 e2]/\a' = { tmps:=#[.func (.yield l) #[] #[],.pointer (some ⟨sp,0,none⟩),.pointer (some ⟨pp,0,none⟩),.pointer (some ⟨W.heap.size,0,none⟩),.slice k1 n1 e1,.slice k2 n2 e2,.pointer (some ⟨bs,0,none⟩),.pointer (some ⟨bs,0,none⟩),.pointer (some ⟨bs,0,none⟩),.pointer (some ⟨bm,0,none⟩),.slice Ap np cp,.func (.func 108) #[] #[.pointer (some ⟨b1,0,none⟩),.pointer (some ⟨b2,0,none⟩),.pointer (some ⟨b3,0,none⟩)],.slice k1 n1 e1,.slice k2 n2 e2,undef,undef,undef,undef,undef,undef,undef,undef,undef,undef,undef],defers:=[] })
   (fun W0 vals a' P Q hs hu=>hs)
   ?assign ?body ?done ?stop
 case assign=>
   rintro l2 x W0 V vals K ⟨pre,post,hx⟩ hz hz0 ⟨A1,n1,e1,A2,n2,e2,rfl,g1,g2⟩ hk hK'
   gi_wp2
   exact hK' _ _ (Upd.refl _ _) ⟨A1,n1,e1,A2,n2,e2,rfl,rfl⟩
 case body=>
   rintro Z pre x W0 V vals a' ⟨post,hx⟩ hZ1 hZ2 ⟨⟨⟨hi,a9⟩,a4⟩,d6⟩ hu0 hcp ⟨k1,n1,e1,k2,n2,e2,rfl,rfl⟩ hk;have a8:=a4.upd hu0 (fun b hb h=>by have:=b0.out b hb;exact h.elim id (fun h=>by omega)) (a4.sto.upd hu0 (fun h=>h.elim id (fun h=>by omega))) (fun h=>h.elim id (fun h=>by omega)) (fun h=>h.elim id (fun h=>by omega)) (fun a ha h0 h=>by have:=b9.out a ha h0;exact h.elim id (fun h=>by omega));have vy:V.cell? ⟨W.heap.size,0,none⟩=some (.func (.yield l) #[] #[]):=(hu0.cell (a:=⟨W.heap.size,0,none⟩) (zqB W0 _ d6) (fun h=>h.elim id (fun h=>by simp only at h;omega))).trans d6;have e8:By V k1 n1 e1 x.1:=by
    obtain⟨_,_,_,_,_,_,e,gk,_⟩:=hcp;cases e;obtain⟨_,_,_,e,hb,_⟩:=gk;cases e;exact hb
   have a5:=hasprefix_c e8 a8.by_;have v2:=a8.b2;have c5:J Z pre V:=HJ.out Z _ _ _ hi (hu0.mono (fun b _ hb=>hb.imp id (fun h=>⟨by omega,h.2⟩)));by_cases a7:pk <+: x.1
   · rw[decide_eq_true a7]at a5;have hL:prefixed pk ps.flatten=pre ++ x :: post.takeWhile (fun e=>decide (pk <+: e.1)):=by
      unfold prefixed;rw[hx];exact twp_mid (fun e he=>decide_eq_true (a9 e he)) (decide_eq_true a7)
     have l6:=HY.out Z pre x W0 V _ ⟨_,hL⟩ (by omega) hZ2 hi (hu0.mono (fun b _ hb=>hb.imp id (fun h=>⟨by omega,h.2⟩))) hcp a8;obtain⟨fn,tmps,p7,p8,hy,hR⟩:=l6;have HR:=zqH hR;have c6:=zqH a5;have l7:=zqH hu0;have b6:=zqH hk;have h6:=zqH (zN a9 a7);have l8:=zqH vy;clear a8 e8 a5 c5 a7 hL hR hu0 hk a9 hcp hi a4 d6 hx
     gi_wp2_with (refine⟨trivial,rfl,?_⟩;gi_at_call 190;refine(CallsIn.inRound _ (callsIn_wide.2 c6.out)).mono ?_;rintro e V2 ⟨rfl,rfl⟩)
     refine⟨rfl,HR.out.mono ?_⟩;rintro e V3 ⟨d7,f3,h4⟩;obtain⟨r,rfl,h5⟩:∃r,e=.returned (.bool r)/\((r=true/\J Z (pre ++ [x]) V3)\/(r=false/\Jx Z (pre ++ [x]) V3)):=h4.elim (fun h=>⟨true,h.1,.inl ⟨rfl,h.2⟩⟩) (fun h=>⟨false,h.1,.inr ⟨rfl,h.2⟩⟩);have l9:Z<=V2.heap.size:=zT hZ2 l7.out.size;have hold:=fun b (hb:W.heap.size<=b) (hb2:b<Z)=>d7.2 b (.inl ⟨hb,hb2⟩);have h7:V3.cell? ⟨W.heap.size,0,none⟩=some (.func (.yield l) #[] #[]):=(World.cell?_of_block (a:=⟨W.heap.size,0,none⟩) (hold W.heap.size (zR _) (by omega))).trans l8.out;have d0:V3.heap[We.heap.size]?=V2.heap[We.heap.size]?/\V3.heap[We.heap.size+1]?=V2.heap[We.heap.size+1]?/\Kept (We.heap.size+2) Z W0.heap.size V2 V3:=
      ⟨hold _ (by omega) (by omega),hold _ (by omega) (by omega),d7.1,fun k hk=>d7.2 k (hk.imp (fun h=>⟨by omega,h.2⟩) id)⟩
     have h8:WlkK base bm n c b1 b2 b3 np c1 0 c2 D A A1 A2 vs ps css pk V3:=
      ⟨f3.map,(World.cell?_of_block (a:=⟨b1,0,none⟩) (hold b1 (by omega) (by omega))).trans b6.out.box1,(World.cell?_of_block (a:=⟨b2,0,none⟩) (hold b2 (by omega) (by omega))).trans b6.out.box2,(World.cell?_of_block (a:=⟨b3,0,none⟩) (hold b3 (by omega) (by omega))).trans b6.out.box3,by_same (T:=fun b=>b<W.heap.size\/Z<=b) b6.out.from_ d7.1 (fun b hb hn=>hold b (by omega) (by omega)) (fun a ha h0=>by have:=g9.out a ha h0;omega)⟩
     have a1:∀e ∈ pre ++ [x],pk <+: e.1:=fun e he=>(List.mem_append.1 he).elim (h6.out.1 e) (fun h=>by rw[List.mem_singleton.1 h];exact h6.out.2);have h9:=zqH d0;have m0:=zqH f3;have H5:=zqH h5;have m1:=zqH h7;have i0:=zqH h8;have b8:=zqH a1;clear d0 f3 h5 h4 d7 h7 hy HR hold h8 a1 l9 v2 vy;cases r with
     | true=>
       gi_wp2
       exact⟨h9.out,i0.out,⟨⟨H5.out.elim (fun h=>h.2) (fun h=>by cases h.1),b8.out⟩,m0.out⟩,m1.out⟩
     | false=>
       gi_wp2
       exact⟨h9.out,i0.out,rfl,.inl ⟨H5.out.elim (fun h=>by cases h.1) (fun h=>h.2),b8.out⟩⟩
   · rw[decide_eq_false a7]at a5;have c6:=zqH a5;have b6:=zqH hk;have HX:=zqH (zN a9 (zN a7 (zN c5 a8)));clear a8 e8 a5 c5 a7 hu0 hk a9 hcp hi a4 d6 hx
     gi_wp2_with (refine⟨trivial,rfl,?_⟩;gi_at_call 190;refine(CallsIn.inRound _ (callsIn_wide.2 c6.out)).mono ?_;rintro e V2 ⟨rfl,rfl⟩)
     refine⟨fun f hf=>(by cases hf),?_⟩
     gi_wp2
     obtain⟨a9,a7,c5,a8⟩:=HX.out;exact⟨⟨rfl,rfl,zR _,fun _ _=>rfl⟩,b6.out,rfl,.inr ⟨pre,x,rfl,a9,a7,c5,a8⟩⟩
 case done=>
   rintro Z V hZ1 hZ2 ⟨⟨⟨hj,a1⟩,a4⟩,d6⟩ hd hwk
   gi_wp2
   refine⟨by simp,.inl ⟨_,_,rfl,run_takeDeferred hd,?_⟩⟩;have a3:Upd (fun b=>b=We.heap.size) V (V.putObj We.heap.size (.deferred none)):=Upd.putObj V _ rfl;have hL:prefixed pk ps.flatten=(ps.flatten).filter (fun e=>!blt e.1 pk):=by
    unfold prefixed;exact twp_all fun e he=>decide_eq_true (a1 e he)
   rw[hL];exact⟨_,results_none rfl _ _ _,⟨_,rfl⟩,Z,by omega,by simpa using hZ2,.inl ⟨HJ.out Z _ _ _ hj (a3.mono (fun b _ e=>.inr ⟨by have e:b=We.heap.size:=e;omega,by have e:b=We.heap.size:=e;omega⟩)),a4.upd a3 (fun b hb e=>by have:=b0.out b hb;have e:b=We.heap.size:=e;omega) (a4.sto.upd a3 (by omega)) (by omega) (by omega) (fun a ha h0 e=>by have:=b9.out a ha h0;have e:a.block=We.heap.size:=e;omega)⟩⟩
 case stop=>
   rintro Z cd pre x post V hZ1 hZ2 hx ⟨rfl,f4⟩ hd
   gi_wp2
   refine⟨by simp,.inl ⟨_,_,rfl,run_takeDeferred hd,?_⟩⟩;have a3:Upd (fun b=>b=We.heap.size) V (V.putObj We.heap.size (.deferred none)):=Upd.putObj V _ rfl;have i1:Upd (Priv (fun _=>False) W.heap.size Z) V (V.putObj We.heap.size (.deferred none)):=a3.mono (fun b _ e=>.inr ⟨by have e:b=We.heap.size:=e;omega,by have e:b=We.heap.size:=e;omega⟩);rcases f4 with⟨f4,a1⟩|⟨pre',x',he,a1,hnp,hj,a4⟩
   · refine⟨_,results_none rfl _ _ _,⟨_,rfl⟩,Z,by omega,by simpa using hZ2,.inr ⟨pre,x,post.takeWhile (fun e=>decide (pk <+: e.1)),?_,g6.out Z _ _ _ f4 i1⟩⟩;unfold prefixed;rw[hx];exact twp_mid (fun e he=>decide_eq_true (a1 e (List.mem_append_left _ he))) (decide_eq_true (a1 x (List.mem_append_right _ (List.mem_singleton.2 rfl))))
   · obtain⟨rfl,m2⟩:=List.append_inj' he rfl;cases m2;have hL:prefixed pk ps.flatten=pre:=by
      unfold prefixed;rw[hx];exact twp_cut (fun e he=>decide_eq_true (a1 e he)) (decide_eq_false hnp)
     rw[hL];exact⟨_,results_none rfl _ _ _,⟨_,rfl⟩,Z,by omega,by simpa using hZ2,.inl ⟨HJ.out Z _ _ _ hj i1,a4.upd a3 (fun b hb e=>by have:=b0.out b hb;have e:b=We.heap.size:=e;omega) (a4.sto.upd a3 (by omega)) (by omega) (by omega) (fun a ha h0 e=>by have:=b9.out a ha h0;have e:a.block=We.heap.size:=e;omega)⟩⟩
end Gz
namespace Gz
open Go Go.RowKit Go.Proofs Gl
theorem clonebb_c {w:World} {g o m c:Nat} {bs:Bs} (h:By w (some ⟨g,o,none⟩) m c bs) (hm:0<m) (hn:m<=1048576):
 Calls Tryz.prog 188 #[.slice (some ⟨g,o,none⟩) m c] w fun e w'=>∃g' c',e=.returned (.slice (some ⟨g',0,none⟩) m c')/\w.heap.size<=g'/\w'.ownsRow w.heap.size 5 1 (.slice (some ⟨g',0,none⟩) m c') m (bs.map Gl.u8)/\New w w':=by
 obtain⟨i0,a5,a6,a7,a8⟩:=info_parts info5;have hu:New w (w.alloc (.cells #[] 5)):=zU _ _ _;have a1:Gl.Src (w.alloc (.cells #[] 5)) (some ⟨g,o,none⟩) m (bs.map Gl.u8):=Gl.Src.of_sl (h.new hu).sl;have a2:(w.alloc (.cells #[] 5)).ownsRow w.heap.size 5 1 (.slice (some ⟨w.heap.size,0,none⟩) 0 0) 0 []:=World.ownsRow_made w #[] 0 (zR _) (by simp[maxLen]) (by simp);have a3:=h.len;have b0:=Lib.run_eql_slice_nil (P:=Tryz.prog) w 113 5 (some ⟨g,o,none⟩) m c 0 0 Tryz.underlying113;have HN:=zqH hn;have HS:=zqH a1;have HO:=zqH a2;have HL:=zqH a3;have HM:=zqH hm;have HU:=zqH hu;clear h hm hn hu a1 a2 a3;go_enter Tryz.func188,Tryz.ntmps188
 go_wp2_with (at_builtin
              refine wpList_append_src _ rfl _ _ _ rfl w.heap.size 5 i0 _ 1 1 Tryz.underlying113 a5 a6 a7 a8 rfl (by omega) (.slice (some ⟨w.heap.size,0,none⟩) 0 0) 0 [] rfl HO.out _ _ _ (bs.map Gl.u8) rfl (by simp[HL.out]) HS.out (zav _) (by have:=HN.out;simp only[maxLen];omega) (by have:=HN.out;omega) (by show _<=(w.heap.push _).size;simp) ?_
              intro A' c' w1 hown1 hg1 hat1)
 go_ret
 simp only[Nat.zero_add,List.nil_append]at hown1 hat1;have hM:=HM.out;obtain⟨g',cap,cur,e,h2,_⟩:∃g cap cur,Value.slice A' m c'=.slice (some ⟨g,0,none⟩) m cap/\w.heap.size<=g/\w1.heap[g]?=some (.cells cur 5 (0,0)):=by
  rcases hown1.2 with⟨_,h0⟩|⟨g,cap,cur,e,h2,h3,_⟩
  · omega
  · exact⟨g,cap,cur,e,h2,h3⟩
 injection e with e1 e2 e3
 subst e1 e3;refine⟨g',c',by simp,h2,hown1,HU.out.then (Upd.of_grown (S:=fun b=>b=w.heap.size) hg1 (fun c hc=>by simpa[Value.ownBlock] using hc.symm)) (fun c hc e=>by omega)⟩
theorem prefix_c {w:World} {bs np cp:Nat} {Ap:Option Addr} {pk:Bs} (hp:By w Ap np cp pk) (h0:0<np) (hnp:np<=1048576):
 Calls Tryz.prog 129 #[.pointer (some ⟨bs,0,none⟩),.slice Ap np cp] w fun e w'=>∃p1 p2 sp pp A1 c1,e=.returned (.func (.func 234) #[] #[.pointer (some ⟨p1,0,none⟩),.pointer (some ⟨p2,0,none⟩)])/\New w w'/\(w.heap.size<=p1/\w.heap.size<=p2/\w.heap.size<=sp/\w.heap.size<=pp) /\
  w'.cell? ⟨p1,0,none⟩=some (.pointer (some ⟨bs,0,none⟩))/\w'.cell? ⟨p2,0,none⟩=some (.func (.func 189) #[] #[.pointer (some ⟨sp,0,none⟩),.pointer (some ⟨pp,0,none⟩)])/\w'.cell? ⟨sp,0,none⟩=some (.pointer (some ⟨bs,0,none⟩))/\w'.cell? ⟨pp,0,none⟩=some (.slice A1 np c1)/\BV (fun b=>w.heap.size<=b) w' (.slice A1 np c1) pk:=by
 obtain⟨g,o,rfl,_⟩:=hp.addr h0;obtain⟨W1,a6⟩:=zE (w.alloc (.cells #[.pointer (some ⟨bs,0,none⟩)] 34));obtain⟨W2,a7⟩:=zE (W1.alloc (.cells #[.slice (some ⟨g,o,none⟩) np cp] 113));have s1:W1.heap.size=w.heap.size+1:=by rw[a6];exact zab _ _
 have s2:W2.heap.size=w.heap.size+1+1:=by rw[a7,zab,s1]
 have n1:New w W1:=by rw[a6];exact zU _ _ _
 have n2:New W1 W2:=by rw[a7];exact zU _ _ _
 have k1:=zX w (.cells #[.pointer (some ⟨bs,0,none⟩)] 34);rw[<-a6]at k1;replace k1:=(n2.block w.heap.size (by omega) id).trans k1;have k2:=zX W1 (.cells #[.slice (some ⟨g,o,none⟩) np cp] 113);rw[<-a7,s1]at k2;have c2:=zaa k2 0 _ rfl;have HB:=zqH (zN k1 (zN k2 (zN (n1.trans n2) s2)));have HP:=zqH (hp.new (n1.trans n2));have b9:=zqH (zN h0 hnp);clear k1 k2 n1 n2 s1 s2 hp hnp h0;go_enter Tryz.func129,Tryz.ntmps129
 go_upto_region 1 with fail
 rw[<-a6,<-a7];clear a6 a7
 go_upto_region 2 with(go_at_call 188
                       refine(clonebb_c HP.out b9.out.1 b9.out.2).mono ?_
                       rintro e w3 ⟨g',c',rfl,hg,a1,a2⟩;have k2:=(a2.block _ (zqA.1 HB.out.2.1).1 id).trans HB.out.2.1;have d2:=zaa k2 0 _ rfl;have z2:=zad k2 0;have H3:=zqH (zN hg (zN a1 (zN a2 k2)));clear hg a1 a2 k2)
 obtain⟨W4,a9⟩:=zE (w3.setCell ⟨w.heap.size+1,0,none⟩ (.slice (some ⟨g',0,none⟩) np c'));rw[<-a9];obtain⟨hg,a1,a2,k2⟩:=H3.out;obtain⟨b1,b2,nb,sb⟩:=HB.out;have a5:Upd (fun x=>x=w.heap.size+1) w3 W4:=by rw[a9];exact Upd.setCell w3 _ rfl
 have k4:W4.heap[w.heap.size+1]?=some (.cells #[.slice (some ⟨g',0,none⟩) np c'] 113 (0,0)):=by rw[a9,zac k2];rfl
 have d9:=a2.size;have k1:=(a5.block w.heap.size (by omega) (by omega)).trans ((a2.block w.heap.size (by omega) id).trans b1);have c5:By w3 (some ⟨g',0,none⟩) np c' pk:=By.of_own a1 HP.out.small;have a8:BV (fun b=>w.heap.size<=b) W4 (.slice (some ⟨g',0,none⟩) np c') pk:=⟨_,_,_,rfl,c5.upd a5 (fun a ha _ e=>by cases ha;have e:g'=w.heap.size+1:=e;omega),fun a ha _=>by cases ha;show w.heap.size<=g';omega⟩
 have e1:=zaa k1 0 _ rfl;have H4:=zqH (zN k1 (zN k4 (zN a8 (zN ((nb.trans a2).then a5 (fun x hx e=>by have e:x=w.heap.size+1:=e;omega):New w W4) (show w.heap.size+2<=W4.heap.size from by have:=a5.size;omega)))));clear hg a1 a2 k2 b1 b2 nb sb a5 k4 d9 k1 c5 a8 a9 d2 z2 c2
 go_wp2_with (go_at_call 175;refine counted_c.mono ?_;rintro e w5 ⟨p1,p2,rfl,a3,b6,b7,e0,e2,b0,b5⟩;have H5:=zqH (zN a3 (zN b6 (zN b7 (zN b0 b5))));clear a3 b6 b7 e0 e2 b0 b5)
 go_ret
 obtain⟨k1,k4,a8,nw,hz⟩:=H4.out;obtain⟨a3,b6,b7,b0,b5⟩:=H5.out;exact⟨p1,p2,w.heap.size,w.heap.size+1,some ⟨g',0,none⟩,c',rfl,nw.trans a3,⟨by omega,by omega,zR _,by omega⟩,b0,b5,zaa ((a3.block _ (by omega) id).trans k1) 0 _ rfl,zaa ((a3.block _ (by omega) id).trans k4) 0 _ rfl,a8.upd a3 (fun _ _=>id)⟩
end Gz
namespace Gz
open Go Go.RowKit Go.Proofs Gl Go.Shelf
attribute [local go_sem] Oper.semAt_some
structure CntP (base bm n c bs sp pp np cp p1 p2:Nat) (D:Nat->Prop) (A Ap:Option Addr) (vs:List Value) (ps:List (List Ent)) (css:List (List Value)) (pk:Bs) (W:World):Prop where
 wlk:PfxK base bm n c bs sp pp np cp D A Ap vs ps css pk W
 box1:W.cell? ⟨p1,0,none⟩=some (.pointer (some ⟨bs,0,none⟩))
 box2:W.cell? ⟨p2,0,none⟩=some (.func (.func 189) #[] #[.pointer (some ⟨sp,0,none⟩),.pointer (some ⟨pp,0,none⟩)])
end Gz
namespace Gz
open Go Go.RowKit Go.Proofs Gl Go.Shelf
attribute [local go_sem] Oper.semAt_some
section
variable {base bm n c bs sp pp np cp p1 p2:Nat} {D T:Nat->Prop} {A Ap:Option Addr} {vs:List Value} {ps:List (List Ent)} {css:List (List Value)} {pk:Bs} {W W':World}
theorem CntP.upd (h:CntP base bm n c bs sp pp np cp p1 p2 D A Ap vs ps css pk W) (hu:Upd T W W') (hf:∀b,foot bm D A n c vs b->¬T b) (h1:¬T sp) (h2:¬T pp) (h4:∀a,Ap=some a → 0<np->¬T a.block) (h5:¬T p1) (h6:¬T p2) (h7:StoB W' bs bm):CntP base bm n c bs sp pp np cp p1 p2 D A Ap vs ps css pk W':=
 ⟨h.wlk.upd hu hf h7 h1 h2 h4,(hu.cell (a:=⟨p1,0,none⟩) (zqB W _ h.box1) h5).trans h.box1,(hu.cell (a:=⟨p2,0,none⟩) (zqB W _ h.box2) h6).trans h.box2⟩
theorem CntP.new (h:CntP base bm n c bs sp pp np cp p1 p2 D A Ap vs ps css pk W) (hu:New W W'):CntP base bm n c bs sp pp np cp p1 p2 D A Ap vs ps css pk W':=h.upd hu (fun _ _=>id) id id (fun _ _ _=>id) id id (h.wlk.sto.upd hu id)
end
end Gz
namespace Gz
open Go Go.RowKit Go.Proofs Gl Go.Shelf
attribute [local go_sem] Oper.semAt_some
theorem countedP_gives {base bm n c bs sp pp np cp p1 p2:Nat} {D:Nat->Prop} {A Ap:Option Addr} {vs:List Value} {ps:List (List Ent)} {css:List (List Value)} {pk:Bs} (hnt:np<=1073741824) (hlen:ps.flatten.length<=1000000) (hsz:∀e ∈ ps.flatten,e.1.length<=1073741824/\e.2.length<=1073741824)
 (hfb:¬foot bm D A n c vs bs) (hne:bs≠sp/\bs≠pp/\bs≠p1/\bs≠p2) (hfr:∀a,Ap=some a → 0<np->a.block≠bs):
 Gives Tryz.prog 234 #[.pointer (some ⟨p1,0,none⟩),.pointer (some ⟨p2,0,none⟩)] Copies (fun b=>b=bs) (CntP base bm n c bs sp pp np cp p1 p2 D A Ap vs ps css pk) (prefixed pk ps.flatten):=by
 intro l J Jx W hJ hJx hK h0 hY;have d1:=hK.box1;have d2:=hK.box2;have l1:p1<W.heap.size:=zqB W ⟨p1,0,none⟩ d1;have l2:p2<W.heap.size:=zqB W ⟨p2,0,none⟩ d2;have l3:sp<W.heap.size:=zqB W ⟨sp,0,none⟩ hK.wlk.b1;have l4:pp<W.heap.size:=zqB W ⟨pp,0,none⟩ hK.wlk.b2;have l6:bs<W.heap.size:=hK.wlk.sto.lt;obtain⟨WA,a8⟩:=zE (W.alloc (.cells #[.func (.yield l) #[] #[]] 112));have c5:New W WA:=by rw[a8];exact zU _ _ _
 have h2:WA.heap.size=W.heap.size+1:=by rw[a8];show(W.heap.push _).size=_;simp
 have f7:WA.cell? ⟨W.heap.size,0,none⟩=some (.func (.yield l) #[] #[]):=by rw[a8];exact zaa (zX W _) 0 _ rfl
 have a5:=hK.new c5;have k1:=a5.box1;have c6:=a5.box2;have a4:=a5.wlk.sto.count;have HY:=zqH hY;have HJ:=zqH hJ;have e3:=zqH hJx;have HK:=zqH hK;have H0:=zqH h0;have HL:=zqH hlen;have f9:=zqH hsz;have g0:=zqH a5;have e4:=zqH hfb;have a3:=zqH hne;have g3:=zqH c5;have g4:=zqH hnt;have e5:=zqH hfr;have b0:=zqH (show ∀a,Ap=some a → 0<np->a.block<W.heap.size from fun a ha h0=>by
  obtain⟨_,_,_,e,_,h⟩:=BV.of hK.wlk.by_;cases e;exact h a ha h0)
 have b9:∀b,foot bm D A n c vs b->b<W.heap.size:=fun b hb=>hK.wlk.map.map.toMapRaw.foot_lt hb;have b5:=zqH b9;clear hY hJ hJx hK h0 hlen hsz c5 a5 hfb b9 hnt hfr;refine(callsIn_wide (n:=0)).1 ?_
 refine callsIn_of_wp_marks Tryz.func234 rfl trivial ?_ rfl;simp only[Tryz.ntmps234,List.size_toArray,List.length_cons,List.length_nil,Nat.reduceAdd,Nat.reduceSub,Array.replicate_succ,Array.replicate_zero,List.push_toArray,List.append_toArray,List.nil_append,List.cons_append];rw[a8]at a4 k1 c6;have e6:=zqH c6;clear c6
 gi_wp2_with (refine⟨trivial,rfl,?_⟩;gi_at_call 132;refine(callsIn_wide.2 a4).mono ?_;rintro e w1 ⟨⟨rv,rfl⟩,a9,d5⟩;have k2:=(d5.cell (a:=⟨p2,0,none⟩) (zqB _ _ e6.out) (Ne.symm a3.out.2.2.2)).trans e6.out;have H1:=zqH (zN a9 d5);clear a9 d5 a4)
 have b6:Hid (Upd (fun b=>b=bs) WA w1):=by rw[a8];exact zqH H1.out.2
 have h6:WA.heap.size<=w1.heap.size:=b6.out.size;have e7:=g0.out.upd b6.out (fun b hb e=>e4.out (e▸hb)) (Ne.symm a3.out.1) (Ne.symm a3.out.2.1) (fun a ha h0=>e5.out a ha h0) (Ne.symm a3.out.2.2.1) (Ne.symm a3.out.2.2.2) H1.out.1;have e8:w1.cell? ⟨W.heap.size,0,none⟩=some (.func (.yield l) #[] #[]):=(b6.out.cell (a:=⟨W.heap.size,0,none⟩) (by simp only;omega) (by simp only;omega)).trans f7;have g5:Upd (fun b=>b=bs) W w1:=(g3.out.mono (fun _ _ h=>h.elim)).trans b6.out;have i9:∀Z b,b<W.heap.size->b≠bs->¬Priv (fun _=>False) w1.heap.size Z b:=fun Z b hb _ h=>h.elim id (fun h=>by omega);refine zbd (gf:=189) (lb:=#[.pointer (some ⟨sp,0,none⟩),.pointer (some ⟨pp,0,none⟩)]) rfl (fun args w=>zaw 189 Tryz.func189 (by kernel_rfl) (by kernel_rfl) args w)
  (prefix1_gives (base:=base) (bm:=bm) (n:=n) (c:=c) (bs:=bs) (sp:=sp) (pp:=pp) (np:=np) (cp:=cp) (D:=D) (A:=A) (Ap:=Ap) (vs:=vs) (ps:=ps) (css:=css) (pk:=pk) g4.out HL.out f9.out) (fun x _ _ vals he=>by obtain⟨_,_,_,_,_,_,e,_⟩:=he;rw[e];rfl) (fun b h=>h.elim)
  (fun P Q hk hu=>hk.upd hu (fun b hb=>by have:=b5.out b hb;omega) (hk.sto.upd hu (by omega)) (by omega) (by omega) (fun a ha h0=>by have:=b0.out a ha h0;omega)) e7.wlk
  (fun x W0 P Q vals hz he hu=>hu.elim (fun hu=>he.upd hu (fun _ _=>id)) (fun hu=>he.upd hu (fun b hb=>by omega)))
  (fun Z (pre:List Ent) V=>J Z pre V/\CntP base bm n c bs sp pp np cp p1 p2 D A Ap vs ps css pk V/\V.cell? ⟨W.heap.size,0,none⟩=some (.func (.yield l) #[] #[]))
  (fun Z cd (pre:List Ent) V=>cd=.ret/\Jx Z pre V)
  (fun Z hZ s P Q hs hu=>⟨HJ.out Z _ P Q hs.1 (hu.mono (fun b _ hb=>.inr (hb.elim (fun h=>h.elim) (fun h=>⟨by omega,h.2⟩)))),hs.2.1.upd hu (fun b hb h=>by have:=b5.out b hb;exact h.elim id (fun h=>by omega)) (fun h=>h.elim id (fun h=>by omega)) (fun h=>h.elim id (fun h=>by omega)) (fun a ha h0 h=>by have:=b0.out a ha h0;exact h.elim id (fun h=>by omega)) (fun h=>h.elim id (fun h=>by omega)) (fun h=>h.elim id (fun h=>by omega)) (hs.2.1.wlk.sto.upd hu (fun h=>h.elim id (fun h=>by omega))),(hu.cell (a:=⟨W.heap.size,0,none⟩) (zqB P _ hs.2.2) (fun h=>h.elim id (fun h=>by simp only at h;omega))).trans hs.2.2⟩)
  (fun Z cd hZ s P Q hs hu=>⟨hs.1,e3.out Z _ P Q hs.2 (hu.mono (fun b _ hb=>.inr (hb.elim (fun h=>h.elim) (fun h=>⟨by omega,h.2⟩))))⟩)
  (fun Z hZ=>⟨(HJ.out Z) _ _ _ (H0.out Z) (g5.mono (fun _ _ h=>.inl h)),e7,e8⟩)
  (fun W0 vals a' V=>∃k1 n1 e1 k2 n2 e2,vals=#[.slice k1 n1 e1,.slice k2 n2 e2]/\a' = { tmps:=#[.func (.yield l) #[] #[],.pointer (some ⟨p1,0,none⟩),.pointer (some ⟨p2,0,none⟩),.pointer (some ⟨W.heap.size,0,none⟩),.slice k1 n1 e1,.slice k2 n2 e2,.pointer (some ⟨bs,0,none⟩),.pointer (some ⟨bs,0,none⟩),.pointer (some ⟨bs,2,none⟩),rv,.func (.func 189) #[] #[.pointer (some ⟨sp,0,none⟩),.pointer (some ⟨pp,0,none⟩)],.slice k1 n1 e1,.slice k2 n2 e2,undef,undef,undef,undef,undef,undef,undef,undef,undef],defers:=[] })
  (fun W0 vals a' P Q hs hu=>hs)
  ?assign ?body ?done ?stop
 case assign=>
  rintro l2 x W0 V vals K ⟨pre,post,hx⟩ hz hz0 ⟨A1,n1,e1,A2,n2,e2,rfl,g1,g2⟩ hk hK'
  gi_wp2
  exact hK' _ _ (Upd.refl _ _) ⟨A1,n1,e1,A2,n2,e2,rfl,rfl⟩
 case body=>
  rintro Z pre x W0 V vals a' ⟨post,hx⟩ hZ1 hZ2 ⟨hi,d8,b7⟩ hu0 hcp ⟨k1,n1,e1,k2,n2,e2,rfl,rfl⟩ hk;have a6:=d8.upd hu0 (fun b hb h=>by have:=b5.out b hb;exact h.elim id (fun h=>by omega)) (fun h=>h.elim id (fun h=>by omega)) (fun h=>h.elim id (fun h=>by omega)) (fun a ha h0 h=>by have:=b0.out a ha h0;exact h.elim id (fun h=>by omega)) (fun h=>h.elim id (fun h=>by omega)) (fun h=>h.elim id (fun h=>by omega)) (d8.wlk.sto.upd hu0 (fun h=>h.elim id (fun h=>by omega)));have vy:V.cell? ⟨W.heap.size,0,none⟩=some (.func (.yield l) #[] #[]):=(hu0.cell (a:=⟨W.heap.size,0,none⟩) (zqB W0 _ b7) (fun h=>h.elim id (fun h=>by simp only at h;omega))).trans b7;have v1:=a6.box1;have a4:=a6.wlk.sto.count;have j0:=zqH a6;have e9:=zqH vy;have g6:=zqH hu0;have j1:=zqH hcp;have HI:=zqH hi;have HX:=zqH hx;have g7:Hid (∀V2,StoB V2 bs bm->Upd (fun b=>b=bs) V V2->YieldAt FW 0 Tryz.prog l #[.slice k1 n1 e1,.slice k2 n2 e2] V2 fun e W'=>Kept W.heap.size Z W0.heap.size V2 W'/\CntP base bm n c bs sp pp np cp p1 p2 D A Ap vs ps css pk W'/\((e=.returned (.bool true)/\J Z (pre ++ [x]) W')\/(e=.returned (.bool false)/\Jx Z (pre ++ [x]) W'))):=zqH (fun V2 a2 a1=>
   HY.out Z pre x W0 V2 _ ⟨post,hx⟩ (by omega) hZ2 hi ((hu0.mono (fun b _ hb=>.inr (hb.elim (fun h=>h.elim) (fun h=>⟨by omega,h.2⟩)))).trans (a1.mono (fun b _ h=>.inl h))) (hcp.upd a1 (fun b hb e=>by omega))
    (a6.upd a1 (fun b hb e=>e4.out (e▸hb)) (Ne.symm a3.out.1) (Ne.symm a3.out.2.1) (fun a ha h0=>e5.out a ha h0) (Ne.symm a3.out.2.2.1) (Ne.symm a3.out.2.2.2) a2))
  clear d8 b7 a6 vy hu0 hcp hi hx hk
  gi_wp2_with (refine⟨trivial,rfl,?_⟩;gi_at_call 132;refine(CallsIn.inRound _ (callsIn_wide.2 a4)).mono ?_;rintro e V2 ⟨⟨j9,rfl⟩,a2,a1⟩;have f0:=(a1.cell (a:=⟨W.heap.size,0,none⟩) (zqB V _ e9.out) (by simp only;omega)).trans e9.out;have H2:=zqH (zN a2 a1);obtain⟨fn,tmps,j5,j6,hy,hR⟩:=g7.out V2 a2 a1;have HR:=zqH hR;clear a2 a1 a4 hR)
  refine⟨rfl,HR.out.mono ?_⟩;rintro e V3 ⟨b8,f5,h4⟩;obtain⟨r,rfl,h5⟩:∃r,e=.returned (.bool r)/\((r=true/\J Z (pre ++ [x]) V3)\/(r=false/\Jx Z (pre ++ [x]) V3)):=h4.elim (fun h=>⟨true,h.1,.inl ⟨rfl,h.2⟩⟩) (fun h=>⟨false,h.1,.inr ⟨rfl,h.2⟩⟩);have a1:=H2.out.2;have f2:V3.cell? ⟨W.heap.size,0,none⟩=some (.func (.yield l) #[] #[]):=(World.cell?_of_block (a:=⟨W.heap.size,0,none⟩) (b8.2 W.heap.size (.inl ⟨zR _,by omega⟩))).trans f0;have a7:V3.heap[w1.heap.size]?=V.heap[w1.heap.size]?/\V3.heap[w1.heap.size+1]?=V.heap[w1.heap.size+1]?/\Kept (w1.heap.size+2) Z W0.heap.size V V3:=by
   have j4:Z<=V.heap.size:=zT hZ2 g6.out.size;have hold:∀b,(W.heap.size<=b/\b<Z)\/(W0.heap.size<=b/\b<V.heap.size)->V3.heap[b]?=V.heap[b]?:=fun b hb=>(b8.2 b (hb.imp id (fun h=>⟨h.1,zqL h.2 a1.size⟩))).trans (a1.block b (by omega) (by omega));exact⟨hold _ (.inl ⟨by omega,by omega⟩),hold _ (.inl ⟨by omega,by omega⟩),zT a1.size b8.1,fun k hk=>hold k (hk.imp (fun h=>⟨by omega,h.2⟩) id)⟩
  have f3:=zqH a7;have d0:=zqH f5;have H5:=zqH h5;have g8:=zqH f2;clear a7 f5 h5 h4 b8 a1 f2 hy HR f0;cases r with
  | true=>
    gi_wp2
    exact⟨f3.out,d0.out.wlk,H5.out.elim (fun h=>h.2) (fun h=>by cases h.1),d0.out,g8.out⟩
  | false=>
    gi_wp2
    exact⟨f3.out,d0.out.wlk,rfl,H5.out.elim (fun h=>by cases h.1) (fun h=>h.2)⟩
 case done=>
  rintro Z V hZ1 hZ2 ⟨hj,f6,b7⟩ hd _
  gi_wp2
  refine⟨by simp,.inl ⟨_,_,rfl,run_takeDeferred hd,?_⟩⟩;refine⟨_,results_none rfl _ _ _,⟨_,rfl⟩,Z,by omega,by simpa using hZ2,.inl ⟨?_,f6.upd (Upd.putObj (S:=fun b=>b=w1.heap.size) V _ rfl) (fun b hb e=>by have:=b5.out b hb;omega) (by omega) (by omega) (fun a ha h0 e=>by have:=b0.out a ha h0;have e:a.block=w1.heap.size:=e;omega) (by omega) (by omega) (f6.wlk.sto.upd (Upd.putObj (S:=fun b=>b=w1.heap.size) V _ rfl) (by omega))⟩⟩;exact HJ.out Z _ _ _ hj (Upd.putObj _ _ (.inr ⟨by omega,by omega⟩))
 case stop=>
  rintro Z cd pre x post V hZ1 hZ2 hx ⟨rfl,h1⟩ hd
  gi_wp2
  refine⟨by simp,.inl ⟨_,_,rfl,run_takeDeferred hd,?_⟩⟩;refine⟨_,results_none rfl _ _ _,⟨_,rfl⟩,Z,by omega,by simpa using hZ2,.inr ⟨pre,x,post,hx,?_⟩⟩;exact e3.out Z _ _ _ h1 (Upd.putObj _ _ (.inr ⟨by omega,by omega⟩))
end Gz

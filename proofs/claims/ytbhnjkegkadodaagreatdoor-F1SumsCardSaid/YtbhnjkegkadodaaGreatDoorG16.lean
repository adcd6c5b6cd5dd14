/- Part of the proof. -/
import Derived.Test.YtbhnjkegkadodaaGreatDoorG14
import Derived.Test.YtbhnjkegkadodaaGreatDoorG15
set_option linter.all false
set_option maxRecDepth 100000
set_option maxHeartbeats 8000000
namespace Gz
open Go Go.RowKit Go.Proofs Gl Go.Shelf
attribute [local go_sem] Oper.semAt_some
def Copies (e:Ent) (W0 W1:World) (vals:Array Value):Prop:=∃A1 n1 c1 A2 n2 c2,vals=#[.slice A1 n1 c1,.slice A2 n2 c2]/\BV (fun b=>W0.heap.size<=b) W1 (.slice A1 n1 c1) e.1/\BV (fun b=>W0.heap.size<=b) W1 (.slice A2 n2 c2) e.2
structure Wlk (base bm n c b1 b2 b3:Nat) (D:Nat->Prop) (A:Option Addr) (vs:List Value) (ps:List (List Ent)) (css:List (List Value)) (W:World):Prop where
 map:MapC 182 251 base W bm D A n c vs ps css
 box1:W.cell? ⟨b1,0,none⟩=some (.pointer (some ⟨bm,0,none⟩))
 box2:W.cell? ⟨b2,0,none⟩=some (.slice none 0 0)
 box3:W.cell? ⟨b3,0,none⟩=some (.slice none 0 0)
theorem Wlk.upd {base bm n c b1 b2 b3:Nat} {D T:Nat->Prop} {A:Option Addr} {vs:List Value} {ps:List (List Ent)} {css:List (List Value)} {W W':World} (h:Wlk base bm n c b1 b2 b3 D A vs ps css W) (hu:Upd T W W') (hf:∀b,foot bm D A n c vs b->¬T b) (h1:¬T b1) (h2:¬T b2) (h3:¬T b3):Wlk base bm n c b1 b2 b3 D A vs ps css W':=
 ⟨h.map.upd hu hf,(hu.cell (a:=⟨b1,0,none⟩) (zqB W _ h.box1) h1).trans h.box1,(hu.cell (a:=⟨b2,0,none⟩) (zqB W _ h.box2) h2).trans h.box2,(hu.cell (a:=⟨b3,0,none⟩) (zqB W _ h.box3) h3).trans h.box3⟩
theorem zaw (f:FuncId) {fn:Func} (hf:Tryz.prog.funcs[f]?=some fn) (hn:(fn.name == "runtime.NumGoroutine")=false) (hb:fn.body.isNone=false) (args:Array Value) (w:World):(callFunc f args).run Tryz.prog w=.ok (.enter f args) w:=by
 have h1:fn.name ≠ "runtime.NumGoroutine":=by simpa using hn
 have h2:fn.body≠none:=fun e=>by rw[e]at hb;cases hb
 simp[callFunc,hf,h1,h2]
theorem walk1_gives {base bm n c b1 b2 b3:Nat} {D:Nat->Prop} {A:Option Addr} {vs:List Value} {ps:List (List Ent)} {css:List (List Value)} (hlen:ps.flatten.length<=1000000) (hsz:∀e ∈ ps.flatten,e.1.length<=1073741824/\e.2.length<=1073741824) (w0:World) (hw0:Wlk base bm n c b1 b2 b3 D A vs ps css w0):
 Gives Tryz.prog 108 #[.pointer (some ⟨b1,0,none⟩),.pointer (some ⟨b2,0,none⟩),.pointer (some ⟨b3,0,none⟩)] Copies (fun _=>False) (Wlk base bm n c b1 b2 b3 D A vs ps css) ps.flatten:=by
 intro l J Jx W hJ hJx hK h0 hY;have d1:=hK.box1;have d2:=hK.box2;have d3:=hK.box3;have l1:=zqB W ⟨b1,0,none⟩ d1;have l2:=zqB W ⟨b2,0,none⟩ d2;have l3:=zqB W ⟨b3,0,none⟩ d3;have f4:∀v,New W (W.alloc (.cells #[v] 112)):=fun v=>zU _ _ _;have k1:(W.alloc (.cells #[.func (.yield l) #[] #[]] 112)).cell? ⟨b1,0,none⟩=_:=((f4 _).cell (a:=⟨b1,0,none⟩) l1 id).trans d1;have k2:(W.alloc (.cells #[.func (.yield l) #[] #[]] 112)).cell? ⟨b2,0,none⟩=_:=((f4 _).cell (a:=⟨b2,0,none⟩) l2 id).trans d2;have m1:b1<W.heap.size:=l1;have m2:b2<W.heap.size:=l2;have m3:b3<W.heap.size:=l3;have HY:=zqH hY;have HJ:=zqH hJ;have g5:=zqH hJx;have HK:=zqH hK;have H0:=zqH h0;have HL:=zqH hlen;have j1:=zqH hsz;clear hY hJ hJx hK h0 hlen hsz f4;refine(callsIn_wide (n:=0)).1 ?_
 refine callsIn_of_wp_marks Tryz.func108 rfl trivial ?_ rfl;simp only[Tryz.ntmps108,List.size_toArray,List.length_cons,List.length_nil,Nat.reduceAdd,Nat.reduceSub,Array.replicate_succ,Array.replicate_zero,List.push_toArray,List.append_toArray,List.nil_append,List.cons_append]
 gi_wp2_with (refine⟨trivial,rfl,?_⟩;gi_at_call 109;refine(callsIn_wide.2 rising_c).mono ?_;rintro e w1 ⟨r1,r2,rfl,e6,o7,o8,o9,p0,k5,k6⟩;have e3:=zqH e6;clear e6)
 have m7:W.heap.size+1<=w1.heap.size:=by have:=e3.out.size;have e:(W.alloc (.cells #[.func (.yield l) #[] #[]] 112)).heap.size=W.heap.size+1:=(by show(W.heap.push _).size=_;simp);omega
 have g7:New W w1:=(zU _ _ _).trans e3.out;have j3:w1.cell? ⟨W.heap.size,0,none⟩=some (.func (.yield l) #[] #[]):=(e3.out.cell (a:=⟨W.heap.size,0,none⟩) (by show _<(W.heap.push _).size;simp) id).trans (zaa (zX W _) 0 _ rfl);have g8:=HK.out.upd g7 (fun _ _=>id) id id id;have f5:∀b,foot bm D A n c vs b->b<W.heap.size:=fun b hb=>HK.out.map.map.toMapRaw.foot_lt hb;refine zbd (gf:=167) (lb:=#[.pointer (some ⟨r1,0,none⟩),.pointer (some ⟨r2,0,none⟩)]) rfl (fun args w=>zaw 167 Tryz.func167 (by kernel_rfl) (by kernel_rfl) args w)
  (rising1_all (base:=base) (bm:=bm) (n:=n) (c:=c) (nf:=0) (cf:=0) (D:=D) (A:=A) (Af:=none) (vs:=vs) (ps:=ps) (css:=css) (zT (pages_le HK.out.map.map.good.1) HL.out)) (fun x _ _ vals he=>by rw[he];rfl) (fun b h=>h.elim)
  (fun P Q hk hu=>hk.upd hu (fun b hb=>by have:=f5 b hb;omega) (by omega) (by omega) (fun a e=>by cases e)) ⟨g8.map,k5,k6,By.nil _⟩ (fun x W0 P Q vals _ he _=>he)
  (fun Z (pre:List CE) V=>J Z (entsOf pre) V/\Wlk base bm n c b1 b2 b3 D A vs ps css V/\V.cell? ⟨W.heap.size,0,none⟩=some (.func (.yield l) #[] #[]))
  (fun Z cd (pre:List CE) V=>cd=.ret/\Jx Z (entsOf pre) V)
  (fun Z hZ s P Q hs hu=>⟨HJ.out Z _ P Q hs.1 (hu.mono (fun b _ hb=>hb.imp id (fun hb=>⟨by omega,hb.2⟩))),hs.2.1.upd hu (fun b hb h=>by have:=f5 b hb;exact h.elim id (fun h=>by omega)) (fun h=>h.elim id (fun h=>by omega)) (fun h=>h.elim id (fun h=>by omega)) (fun h=>h.elim id (fun h=>by omega)),(hu.cell (a:=⟨W.heap.size,0,none⟩) (zqB P _ hs.2.2) (fun h=>h.elim id (fun h=>by simp only at h;omega))).trans hs.2.2⟩)
  (fun Z cd hZ s P Q hs hu=>⟨hs.1,g5.out Z _ P Q hs.2 (hu.mono (fun b _ hb=>hb.imp id (fun hb=>⟨by omega,hb.2⟩)))⟩)
  (fun Z hZ=>⟨(HJ.out Z) _ _ _ (H0.out Z) (g7.mono (fun _ _ h=>h.elim)),g8,j3⟩)
  (fun W0 vals a' V=>∃bx k1 n1 e1 k2 n2 e2,vals=#[.agg #[.slice k1 n1 e1,.slice k2 n2 e2]]/\a' = { tmps:=#[.func (.yield l) #[] #[],.pointer (some ⟨b1,0,none⟩),.pointer (some ⟨b2,0,none⟩),.pointer (some ⟨b3,0,none⟩),.pointer (some ⟨W.heap.size,0,none⟩),.pointer (some ⟨bx,0,none⟩),.pointer (some ⟨bm,0,none⟩),.slice none 0 0,.func (.func 167) #[] #[.pointer (some ⟨r1,0,none⟩),.pointer (some ⟨r2,0,none⟩)],.agg #[.slice k1 n1 e1,.slice k2 n2 e2],undef,undef,undef,undef,undef,undef,undef,undef,undef,undef,undef,undef,undef,undef,undef,undef,undef,undef,undef,undef,undef],defers:=[] }/\V.heap[bx]?=some (.cells #[.slice k1 n1 e1,.slice k2 n2 e2] 182 (0,0))/\w1.heap.size+2<=bx/\W0.heap.size<=bx)
  (fun W0 vals a' P Q hs hu=>by
    obtain⟨bx,k1,n1,e1,k2,n2,e2,q1,q2,q3,q4⟩:=hs;exact⟨bx,k1,n1,e1,k2,n2,e2,q1,q2,(hu.block bx (zqA.1 q3).1 (by have:=q4.1;omega)).trans q3,q4⟩)
  ?assign ?body ?done ?stop
 case assign=>
  rintro l2 x W0 V vals K ⟨pre,post,hx⟩ hz hz0 rfl hk hK';obtain⟨⟨k1,n1,e1,g1,_⟩,⟨k2,n2,e2,g2,_⟩⟩:=hk.map.all_by x (by rw[hx];simp);obtain⟨xk,xv,xe⟩:=x;simp only at g1 g2;subst g1 g2;unfold encE
  gi_wp2
  exact hK' _ _ (zU _ _ _) ⟨V.heap.size,k1,n1,e1,k2,n2,e2,rfl,rfl,zX V _,hz,hz0⟩
 case body=>
  rintro Z pre x W0 V vals a' ⟨post,hx⟩ hZ1 hZ2 ⟨hi,b5,e7⟩ hu0 rfl ⟨bx,k1,n1,e1,k2,n2,e2,q1,rfl,q3,q4,q5⟩ hk;have j4:=zqH q5;obtain⟨xk,xv,xe⟩:=x;obtain⟨g1,g2⟩:=hk.map.all_by (xk,xv,xe) (by rw[hx];simp);have g9:xe ∈ ps.flatten:=by
   rw[<-hk.map.all_ents,hx];simp
  simp only[encE]at q1 g1 g2
  injection q1 with q1
  simp only[List.cons.injEq,Value.agg.injEq,and_true]at q1
  injection q1 with q1
  simp only[List.cons.injEq,and_true]at q1;obtain⟨rfl,rfl⟩:=q1;have d3:=b5.box3;have a9:Upd (Priv (fun _=>False) w1.heap.size Z) W0 V:=hu0;have c6:∀b,b<w1.heap.size->¬Priv (fun _=>False) w1.heap.size Z b:=fun b hb h=>h.elim id (fun h=>by omega);have f6:=b5.upd a9 (fun b hb=>c6 b (by have:=f5 b hb;omega)) (c6 _ (by omega)) (c6 _ (by omega)) (c6 _ (by omega));have v3:=f6.box3;have vy:V.cell? ⟨W.heap.size,0,none⟩=some (.func (.yield l) #[] #[]):=(a9.cell (a:=⟨W.heap.size,0,none⟩) (zqB W0 _ e7) (c6 W.heap.size (by omega))).trans e7;have e4:=zaa q3 0 (.slice k1 n1 e1) rfl;have f7:=zaa q3 1 (.slice k2 n2 e2) rfl;have f8:=j1.out _ g9;have d0:By V k1 n1 e1 xe.1:=by obtain⟨_,_,_,q,h,_⟩:=g1;cases q;exact h
  have d5:By V k2 n2 e2 xe.2:=by obtain⟨_,_,_,q,h,_⟩:=g2;cases q;exact h
  have f0:∀Vx,New V Vx->Calls Tryz.prog 107 #[.slice k1 n1 e1] Vx fun e w'=>∃A' c',e=.returned (.slice A' n1 c')/\BV (fun b=>Vx.heap.size<=b) w' (.slice A' n1 c') xe.1/\New Vx w':=fun Vx hx=>owned_c (d0.new hx) (by rw[<-d0.len];exact f8.1);have f2:∀Vx,New V Vx->Calls Tryz.prog 107 #[.slice k2 n2 e2] Vx fun e w'=>∃A' c',e=.returned (.slice A' n2 c')/\BV (fun b=>Vx.heap.size<=b) w' (.slice A' n2 c') xe.2/\New Vx w':=fun Vx hx=>owned_c (d5.new hx) (by rw[<-d5.len];exact f8.2);have f3:∃post,ps.flatten=entsOf pre ++ xe :: post:=⟨entsOf post,by rw[<-hk.map.all_ents,hx];simp[entsOf]⟩
  have h6:∀V2 vals,New V V2->Copies xe W0 V2 vals->YieldAt FW 0 Tryz.prog l vals V2 fun e W'=>Kept W.heap.size Z W0.heap.size V2 W'/\Wlk base bm n c b1 b2 b3 D A vs ps css W'/\((e=.returned (.bool true)/\J Z (entsOf pre ++ [xe]) W')\/(e=.returned (.bool false)/\Jx Z (entsOf pre ++ [xe]) W')):=fun V2 vals hn hc=>
   HY.out Z (entsOf pre) xe W0 V2 vals f3 (by omega) hZ2 hi ((a9.mono (fun b _ hb=>hb.imp id (fun hb=>⟨by omega,hb.2⟩))).trans (hn.mono (fun _ _ h=>h.elim))) hc (f6.upd hn (fun _ _=>id) id id id)
  have h7:∀Vx,New V Vx->Vx.cell? ⟨b3,0,none⟩=some (.slice none 0 0)/\Vx.cell? ⟨W.heap.size,0,none⟩=some (.func (.yield l) #[] #[])/\Vx.cell? ⟨bx,0,none⟩=some (.slice k1 n1 e1)/\Vx.cell? ⟨bx,1,none⟩=some (.slice k2 n2 e2):=fun Vx hn=>
   ⟨(hn.cell (a:=⟨b3,0,none⟩) (zqB V _ v3) id).trans v3,(hn.cell (a:=⟨W.heap.size,0,none⟩) (zqB V _ vy) id).trans vy,(hn.cell (a:=⟨bx,0,none⟩) (zqB V _ e4) id).trans e4,(hn.cell (a:=⟨bx,1,none⟩) (zqB V _ f7) id).trans f7⟩
  have h8:=zqH h7;clear h7;have a8:=zqH a9.size;have m8:=zqH a9;have HA:=zqH f0;have HB:=zqH f2;have j7:=zqH h6;have o1:=zqH q3;have h9:=zqH hk;clear hx g9 g1 g2 hi b5 e7 hu0 d3 a9 f6 f8 d0 d5 f0 f2 f3 h6 hk q3;have mixed:Tryz.prog.follows .mixedOrders=true:=by kernel_rfl
  gi_wp2
  refine beginS (S:=fun w'=>w'.cell? ⟨b3,0,none⟩=some (.slice none 0 0)/\w'.cell? ⟨W.heap.size,0,none⟩=some (.func (.yield l) #[] #[])/\w'.cell? ⟨bx,0,none⟩=some (.slice k1 n1 e1)/\w'.cell? ⟨bx,1,none⟩=some (.slice k2 n2 e2)) mixed ?_
  have a1:V.drew.cell? ⟨b3,0,none⟩=some (.slice none 0 0)/\V.drew.cell? ⟨W.heap.size,0,none⟩=some (.func (.yield l) #[] #[])/\V.drew.cell? ⟨bx,0,none⟩=some (.slice k1 n1 e1)/\V.drew.cell? ⟨bx,1,none⟩=some (.slice k2 n2 e2):=⟨v3,vy,e4,f7⟩
  refine takeS 0 (oi:=⟨some 10,.load 113 (.tmp 3),113,"page.go:156",#[],none⟩) (fun _=>trivial) (by rfl) rfl (by kernel_rfl) (by kernel_rfl) (by kernel_rfl) (fun _ _ _ h=>h) (v:=.slice none 0 0) (Or.inl ⟨by rfl,?_⟩) a1 ?_
  · rintro w' ⟨y1,y2,y3,y4⟩;go_simp
  simp only[Act.put,zqP];refine takeS 1 (oi:=⟨some 11,.call { callee:=.builtin Builtin.len,args:=#[.tmp 10],argTypes:=#[113] },3,"page.go:156",#[⟨0,.data⟩],none⟩) (fun _=>trivial) (by rfl) rfl (by kernel_rfl) (by kernel_rfl) (by kernel_rfl) (fun _ _ _ h=>h) (v:=.int .i64 0) (Or.inl ⟨by rfl,?_⟩) a1 ?_
  · rintro w' ⟨y1,y2,y3,y4⟩;go_simp
  simp only[Act.put,zqP];refine takeS 2 (oi:=⟨some 12,.binOp .gtr 3 (.tmp 11) (.const (.int .i64 0)) 3,4,"page.go:156",#[⟨1,.data⟩],none⟩) (fun _=>trivial) (by rfl) rfl (by kernel_rfl) (by kernel_rfl) (by kernel_rfl) (fun _ _ _ h=>h) (v:=.bool false) (Or.inl ⟨by rfl,?_⟩) a1 ?_
  · rintro w' ⟨y1,y2,y3,y4⟩;go_simp
  simp only[Act.put,zqP];refine takeS 3 (oi:=⟨some 13,.move (.tmp 12),4,"page.go:156",#[⟨2,.data⟩],none⟩) (fun _=>trivial) (by rfl) rfl (by kernel_rfl) (by kernel_rfl) (by kernel_rfl) (fun _ _ _ h=>h) (v:=.bool false) (Or.inl ⟨by rfl,?_⟩) a1 ?_
  · rintro w' ⟨y1,y2,y3,y4⟩;go_simp
  simp only[Act.put,zqP];refine takeS 4 (oi:=⟨some 14,.fieldAddr 182 (.tmp 5) 0,0,"page.go:156",#[⟨3,.guard⟩],some (3,true)⟩) (fun _=>trivial) (by rfl) rfl (by kernel_rfl) (by kernel_rfl) (by kernel_rfl) (fun _ _ _ h=>h) (v:=undef) (Or.inr ⟨by rfl,rfl⟩) a1 ?_
  simp only[Act.put,zqP];refine takeS 5 (oi:=⟨some 15,.load 113 (.tmp 14),113,"page.go:156",#[⟨4,.data⟩,⟨3,.guard⟩],some (3,true)⟩) (fun _=>trivial) (by rfl) rfl (by kernel_rfl) (by kernel_rfl) (by kernel_rfl) (fun _ _ _ h=>h) (v:=undef) (Or.inr ⟨by rfl,rfl⟩) a1 ?_
  simp only[Act.put,zqP];refine takeS 6 (oi:=⟨some 16,.load 113 (.tmp 3),113,"page.go:156",#[⟨3,.guard⟩],some (3,true)⟩) (fun _=>trivial) (by rfl) rfl (by kernel_rfl) (by kernel_rfl) (by kernel_rfl) (fun _ _ _ h=>h) (v:=undef) (Or.inr ⟨by rfl,rfl⟩) a1 ?_
  simp only[Act.put,zqP];refine takeS 7 (oi:=⟨some 17,.call { callee:=.value (.func 110),args:=#[.tmp 15,.tmp 16],argTypes:=#[113,113] },3,"page.go:156",#[⟨5,.data⟩,⟨6,.data⟩,⟨3,.chain⟩,⟨3,.guard⟩],some (3,true)⟩) (fun _=>trivial) (by rfl) rfl (by kernel_rfl) (by kernel_rfl) (by kernel_rfl) (fun _ _ _ h=>h) (v:=undef) (Or.inr ⟨by rfl,rfl⟩) a1 ?_
  simp only[Act.put,zqP];refine takeS 8 (oi:=⟨some 18,.binOp .geq 3 (.tmp 17) (.const (.int .i64 0)) 3,4,"page.go:156",#[⟨7,.data⟩,⟨3,.guard⟩],some (3,true)⟩) (fun _=>trivial) (by rfl) rfl (by kernel_rfl) (by kernel_rfl) (by kernel_rfl) (fun _ _ _ h=>h) (v:=undef) (Or.inr ⟨by rfl,rfl⟩) a1 ?_
  simp only[Act.put,zqP];refine takeS 9 (oi:=⟨some 19,.pick (.tmp 13) (.tmp 18) (.const (.bool false)),4,"page.go:156",#[⟨3,.data⟩,⟨8,.data⟩],none⟩) (fun _=>trivial) (by rfl) rfl (by kernel_rfl) (by kernel_rfl) (by kernel_rfl) (fun _ _ _ h=>h) (v:=.bool false) (Or.inl ⟨by rfl,?_⟩) a1 ?_
  · rintro w' ⟨y1,y2,y3,y4⟩;go_simp
  simp only[Act.put,zqP];refine takeS 10 (oi:=⟨some 20,.move (.tmp 19),4,"page.go:156",#[⟨9,.data⟩,⟨7,.chain⟩],none⟩) (fun _=>trivial) (by rfl) rfl (by kernel_rfl) (by kernel_rfl) (by kernel_rfl) (fun _ _ _ h=>h) (v:=.bool false) (Or.inl ⟨by rfl,?_⟩) a1 ?_
  · rintro w' ⟨y1,y2,y3,y4⟩;go_simp
  simp only[Act.put,zqP];refine takeS 11 (oi:=⟨some 21,.load 112 (.tmp 4),112,"page.go:156",#[⟨10,.guard⟩],some (10,false)⟩) (fun _=>trivial) (by rfl) rfl (by kernel_rfl) (by kernel_rfl) (by kernel_rfl) (fun _ _ _ h=>h) (v:=.func (.yield l) #[] #[]) (Or.inl ⟨by rfl,?_⟩) a1 ?_
  · rintro w' ⟨y1,y2,y3,y4⟩;go_simp
  simp only[Act.put,zqP];refine takeS 12 (oi:=⟨some 22,.fieldAddr 182 (.tmp 5) 0,0,"page.go:156",#[⟨10,.guard⟩],some (10,false)⟩) (fun _=>trivial) (by rfl) rfl (by kernel_rfl) (by kernel_rfl) (by kernel_rfl) (fun _ _ _ h=>h) (v:=.pointer (some ⟨bx,0,none⟩)) (Or.inl ⟨by rfl,?_⟩) a1 ?_
  · rintro w' ⟨y1,y2,y3,y4⟩;go_simp
  simp only[Act.put,zqP];refine takeS 13 (oi:=⟨some 23,.load 113 (.tmp 22),113,"page.go:156",#[⟨12,.data⟩,⟨10,.guard⟩],some (10,false)⟩) (fun _=>trivial) (by rfl) rfl (by kernel_rfl) (by kernel_rfl) (by kernel_rfl) (fun _ _ _ h=>h) (v:=.slice k1 n1 e1) (Or.inl ⟨by rfl,?_⟩) a1 ?_
  · rintro w' ⟨y1,y2,y3,y4⟩;go_simp
  simp only[Act.put,zqP];refine takeS 15 (oi:=⟨some 25,.fieldAddr 182 (.tmp 5) 1,0,"page.go:156",#[⟨10,.guard⟩],some (10,false)⟩) (fun _=>trivial) (by rfl) rfl (by kernel_rfl) (by kernel_rfl) (by kernel_rfl) (fun _ _ _ h=>h) (v:=.pointer (some ⟨bx,1,none⟩)) (Or.inl ⟨by rfl,?_⟩) a1 ?_
  · rintro w' ⟨y1,y2,y3,y4⟩;go_simp
  simp only[Act.put,zqP];refine takeS 16 (oi:=⟨some 26,.load 113 (.tmp 25),113,"page.go:156",#[⟨15,.data⟩,⟨10,.guard⟩],some (10,false)⟩) (fun _=>trivial) (by rfl) rfl (by kernel_rfl) (by kernel_rfl) (by kernel_rfl) (fun _ _ _ h=>h) (v:=.slice k2 n2 e2) (Or.inl ⟨by rfl,?_⟩) a1 ?_
  · rintro w' ⟨y1,y2,y3,y4⟩;go_simp
  simp only[Act.put,zqP];refine callS 14 (o:=⟨some 24,.call { callee:=.value (.func 107),args:=#[.tmp 23],argTypes:=#[113] },113,"page.go:156",#[⟨13,.data⟩,⟨10,.chain⟩,⟨10,.guard⟩],some (10,false)⟩) rfl (by kernel_rfl) (by rfl) (fun K hK=>?_);go_simp;refine⟨trivial,rfl,(CallsIn.inRound _ (callsIn_wide.2 (HA.out V.drew ((Upd.refl _ V).drew)))).mono ?_⟩;rintro e V1 ⟨A1,c1,rfl,k7,e6⟩;have a2:New V V1:=Upd.of_drew e6;have j8:=h8.out V1 a2;refine hK _ _ ⟨j8,?_⟩;(try simp only[Act.put,zqP]);refine callS 17 (o:=⟨some 27,.call { callee:=.value (.func 107),args:=#[.tmp 26],argTypes:=#[113] },113,"page.go:156",#[⟨16,.data⟩,⟨14,.chain⟩,⟨10,.guard⟩],some (10,false)⟩) rfl (by kernel_rfl) (by rfl) (fun K2 hK2=>?_);go_simp;refine⟨trivial,rfl,(CallsIn.inRound _ (callsIn_wide.2 (HB.out V1 a2))).mono ?_⟩;rintro e V2 ⟨A2,c2,rfl,k8,e8⟩;have e5:=h8.out V2 (a2.trans e8);refine hK2 _ _ ⟨e5,?_⟩;(try simp only[Act.put,zqP]);obtain⟨fn,tmps,o4,o5,hy,hR⟩:=j7.out V2 _ (a2.trans e8) ⟨A1,n1,c1,A2,n2,c2,rfl,(k7.upd e8 (fun _ _=>id)).mono (fun b hb=>zT a8.out hb),k8.mono (fun b hb=>zT (zT a8.out a2.size) hb)⟩;refine callS 18 (o:=⟨some 28,.call { callee:=.value (.tmp 21),args:=#[.tmp 24,.tmp 27],argTypes:=#[113,113] },4,"page.go:156",#[⟨11,.data⟩,⟨14,.data⟩,⟨17,.data⟩,⟨17,.chain⟩,⟨10,.guard⟩],some (10,false)⟩) rfl (by kernel_rfl) (by rfl) (fun K3 hK3=>?_);go_simp;refine⟨rfl,hR.mono ?_⟩;rintro e V3 ⟨g0,e9,h4⟩;obtain⟨r,rfl,h5⟩:∃r,e=.returned (.bool r)/\((r=true/\J Z (entsOf pre ++ [xe]) V3)\/(r=false/\Jx Z (entsOf pre ++ [xe]) V3)):=h4.elim (fun h=>⟨true,h.1,.inl ⟨rfl,h.2⟩⟩) (fun h=>⟨false,h.1,.inr ⟨rfl,h.2⟩⟩);have b0:∀b,(W.heap.size<=b/\b<Z)\/(W0.heap.size<=b/\b<V2.heap.size)->V3.heap[b]?=V2.heap[b]?:=g0.2;have i0:bx<V.heap.size:=zqB V ⟨bx,0,none⟩ e4;have a6:=a2.trans e8;have d6:V3.heap[bx]?=V2.heap[bx]?:=by
    by_cases hb:bx<Z
    · exact b0 bx (.inl ⟨by omega,hb⟩)
    · exact b0 bx (.inr ⟨j4.out,zqL i0 a6.size⟩)
  have d7:V3.cell? ⟨b3,0,none⟩=some (.slice none 0 0)/\V3.cell? ⟨W.heap.size,0,none⟩=some (.func (.yield l) #[] #[])/\V3.cell? ⟨bx,0,none⟩=some (.slice k1 n1 e1)/\V3.cell? ⟨bx,1,none⟩=some (.slice k2 n2 e2):=
    ⟨e9.box3,(World.cell?_of_block (a:=⟨W.heap.size,0,none⟩) (b0 W.heap.size (.inl ⟨zR _,by omega⟩))).trans e5.2.1,(World.cell?_of_block (a:=⟨bx,0,none⟩) d6).trans e5.2.2.1,(World.cell?_of_block (a:=⟨bx,1,none⟩) d6).trans e5.2.2.2⟩
  refine hK3 _ _ ⟨d7,?_⟩;(try simp only[Act.put,zqP]);refine takeS 19 (oi:=⟨some 29,.unOp .not 4 (.tmp 28),4,"page.go:156",#[⟨18,.data⟩,⟨10,.guard⟩],some (10,false)⟩) (fun _=>trivial) (by rfl) rfl (by kernel_rfl) (by kernel_rfl) (by kernel_rfl) (fun _ _ _ h=>h) (v:=.bool (!r)) (Or.inl ⟨by rfl,?_⟩) d7 ?_
  · rintro w' ⟨y1,y2,y3,y4⟩;go_simp
  refine takeS 20 (oi:=⟨some 30,.pick (.tmp 20) (.const (.bool true)) (.tmp 29),4,"page.go:156",#[⟨10,.data⟩,⟨19,.data⟩],none⟩) (fun _=>trivial) (by rfl) rfl (by kernel_rfl) (by kernel_rfl) (by kernel_rfl) (fun _ _ _ h=>h) (v:=.bool (!r)) (Or.inl ⟨by rfl,?_⟩) d7 ?_
  · rintro w' ⟨y1,y2,y3,y4⟩;go_simp
  refine doneS (by kernel_rfl) ?_ _;have d8:V3.heap[w1.heap.size]?=V.heap[w1.heap.size]?/\V3.heap[w1.heap.size+1]?=V.heap[w1.heap.size+1]?/\Kept (w1.heap.size+2) Z W0.heap.size V V3:=by
    have o2:Z<=V.heap.size:=zT hZ2 a8.out;have hold:∀b,(W.heap.size<=b/\b<Z)\/(W0.heap.size<=b/\b<V.heap.size)->V3.heap[b]?=V.heap[b]?:=fun b hb=>(b0 b (hb.imp id (fun h=>⟨h.1,zqL h.2 a6.size⟩))).trans (a6.block b (by omega) id);exact⟨hold _ (.inl ⟨by omega,by omega⟩),hold _ (.inl ⟨by omega,by omega⟩),zT a6.size g0.1,fun k hk=>hold k (hk.imp (fun h=>⟨by omega,h.2⟩) id)⟩
  have i1:=zqH d8;have j9:=zqH e9;have H5:=zqH h5;have k0:=zqH d7;have d9:Ris base bm n c r1 r2 0 0 D A none vs ps css V3:=by
    have hold:∀b,W.heap.size<=b->b<Z->V3.heap[b]?=V.heap[b]?:=fun b hb1 hb2=>(b0 b (.inl ⟨hb1,hb2⟩)).trans (a6.block b (zqL hb2 (zT hZ2 a8.out)) id);have l4:W.heap.size+1=(W.alloc (.cells #[.func (.yield l) #[] #[]] 112)).heap.size:=(by show _=(W.heap.push _).size;simp);exact⟨e9.map,(World.cell?_of_block (a:=⟨r1,0,none⟩) (hold r1 (by omega) (by omega))).trans h9.out.box1,(World.cell?_of_block (a:=⟨r2,0,none⟩) (hold r2 (by omega) (by omega))).trans h9.out.box2,By.nil _⟩
  have i3:=zqH d9;clear d8 e9 h5 h4 d7 d9 g0 b0 d6 hy hR;cases r with
  | true=>
    simp only[Act.put,zqP,Bool.not_true,Bool.not_false]
    gi_wp2
    refine⟨i1.out,i3.out,?_,j9.out,k0.out.2.1⟩;show J Z (entsOf (pre ++ [(Value.slice k1 n1 e1,Value.slice k2 n2 e2,xe)])) V3;rw[zaq];exact H5.out.elim (fun h=>h.2) (fun h=>by cases h.1)
  | false=>
    simp only[Act.put,zqP,Bool.not_true,Bool.not_false]
    gi_wp2
    refine⟨i1.out,i3.out,rfl,?_⟩;show Jx Z (entsOf (pre ++ [(Value.slice k1 n1 e1,Value.slice k2 n2 e2,xe)])) V3;rw[zaq];exact H5.out.elim (fun h=>by cases h.1) (fun h=>h.2)
 case done=>
  rintro Z V hZ1 hZ2 ⟨hj,b5,e7⟩ hd _;have i4:=b5.map.all_ents
  gi_wp2
  refine⟨by simp,.inl ⟨_,_,rfl,run_takeDeferred hd,?_⟩⟩;refine⟨_,results_none rfl _ _ _,⟨_,rfl⟩,Z,by omega,by simpa using hZ2,.inl ⟨?_,b5.upd (Upd.putObj (S:=fun b=>b=w1.heap.size) V _ rfl) (fun b hb e=>by have h1:=HK.out.map.map.toMapRaw.foot_lt hb;have h2:=e3.out.size;have h3:(W.alloc (.cells #[.func (.yield l) #[] #[]] 112)).heap.size=W.heap.size+1:=(by show(W.heap.push _).size=_;simp);omega) (by omega) (by omega) (by omega)⟩⟩;have k3:J Z ps.flatten V:=by rw[<-i4];exact hj
  exact HJ.out Z _ _ _ k3 (Upd.putObj _ _ (.inr ⟨by omega,by omega⟩))
 case stop=>
  rintro Z cd pre x post V hZ1 hZ2 hx ⟨rfl,i7⟩ hd
  gi_wp2
  refine⟨by simp,.inl ⟨_,_,rfl,run_takeDeferred hd,?_⟩⟩;refine⟨_,results_none rfl _ _ _,⟨_,rfl⟩,Z,by omega,by simpa using hZ2,.inr ⟨entsOf pre,x.2.2,entsOf post,?_,?_⟩⟩
  · rw[<-HK.out.map.all_ents,hx];simp[entsOf]
  · rw[zaq]at i7;exact g5.out Z _ _ _ i7 (Upd.putObj _ _ (.inr ⟨by omega,by omega⟩))
theorem risingK_nil {base bm n c b1 b2 nf cf:Nat} {D:Nat->Prop} {A Af:Option Addr} {vs:List Value} {css:List (List Value)} {fk:Bs}:
 Gives Tryz.prog 167 #[.pointer (some ⟨b1,0,none⟩),.pointer (some ⟨b2,0,none⟩)] (fun x _ _ vals=>vals=encE x) (fun _=>False) (RisK base bm n c b1 b2 nf cf D A Af vs [] css fk) (fromK fk (ceAll css []).flatten):=by
 intro l J Jx W hJ hJx hK h0 hY;have hn:n=0:=hK.map.map.toMapRaw.n_eq;subst hn;have a4:=hK.map.map.toMapRaw.cell0;have d1:=hK.box1;have e0:fromK fk (ceAll css []).flatten=[]:=by simp[ceAll,fromK]
 have H0:=zqH h0;have HE:=zqH e0;have a1:=zqH hK;clear hJ hJx hY h0 hK e0;go_enter Tryz.func167,Tryz.ntmps167;go_wp2;refine bodyPost_ret (results_none rfl _ _ _) rfl ?_
 exact⟨⟨_,rfl⟩,W.heap.size,zR _,zR _,.inl ⟨by rw[HE.out];exact H0.out _,a1.out⟩⟩
theorem risingK_all {base bm n c b1 b2 nf cf:Nat} {D:Nat->Prop} {A Af:Option Addr} {vs:List Value} {ps:List (List Ent)} {css:List (List Value)} {fk:Bs} (hlen:ps.length<=1000000):
 Gives Tryz.prog 167 #[.pointer (some ⟨b1,0,none⟩),.pointer (some ⟨b2,0,none⟩)] (fun x _ _ vals=>vals=encE x) (fun _=>False) (RisK base bm n c b1 b2 nf cf D A Af vs ps css fk) (fromK fk (ceAll css ps).flatten):=by
 by_cases h:ps=[]
 · subst h;exact risingK_nil
 · exact risingK_gives hlen (List.length_pos_iff.2 h)
structure WlkK (base bm n c b1 b2 b3 nf cf nt ct:Nat) (D:Nat->Prop) (A Af At:Option Addr) (vs:List Value) (ps:List (List Ent)) (css:List (List Value)) (fk:Bs) (W:World):Prop where
 map:MapC 182 251 base W bm D A n c vs ps css
 box1:W.cell? ⟨b1,0,none⟩=some (.pointer (some ⟨bm,0,none⟩))
 box2:W.cell? ⟨b2,0,none⟩=some (.slice Af nf cf)
 box3:W.cell? ⟨b3,0,none⟩=some (.slice At nt ct)
 from_:By W Af nf cf fk
end Gz
namespace Gz
open Go Go.RowKit Go.Proofs Gl Go.Shelf
attribute [local go_sem] Oper.semAt_some
section
variable {base bm n c b1 b2 b3 nf cf nt ct:Nat} {D T:Nat->Prop} {A Af At:Option Addr} {vs:List Value} {ps:List (List Ent)} {css:List (List Value)} {fk:Bs} {W W':World}
theorem WlkK.upd (h:WlkK base bm n c b1 b2 b3 nf cf nt ct D A Af At vs ps css fk W) (hu:Upd T W W') (hf:∀b,foot bm D A n c vs b->¬T b) (h1:¬T b1) (h2:¬T b2) (h3:¬T b3) (h4:∀a,Af=some a → 0<nf->¬T a.block):WlkK base bm n c b1 b2 b3 nf cf nt ct D A Af At vs ps css fk W':=
 ⟨h.map.upd hu hf,(hu.cell (a:=⟨b1,0,none⟩) (zqB W _ h.box1) h1).trans h.box1,(hu.cell (a:=⟨b2,0,none⟩) (zqB W _ h.box2) h2).trans h.box2,(hu.cell (a:=⟨b3,0,none⟩) (zqB W _ h.box3) h3).trans h.box3,h.from_.upd hu h4⟩
theorem WlkK.new (h:WlkK base bm n c b1 b2 b3 nf cf nt ct D A Af At vs ps css fk W) (hu:New W W'):WlkK base bm n c b1 b2 b3 nf cf nt ct D A Af At vs ps css fk W':=h.upd hu (fun _ _=>id) id id id (fun _ _ _=>id)
end
end Gz
namespace Gl
theorem tw_all {tk:Bs}:∀ {L:List Ent},(∀e ∈ L,blt e.1 tk=true)->L.takeWhile (fun e=>blt e.1 tk)=L
 | [],_=>rfl
 | x :: L,h=>by
   have h1:=h x List.mem_cons_self;have h2:=tw_all (L:=L) (fun e he=>h e (List.mem_cons_of_mem x he));simp only[List.takeWhile_cons,h1,if_true,h2]
theorem tw_app {tk:Bs}:∀ {A B:List Ent},(∀e ∈ A,blt e.1 tk=true) → (A ++ B).takeWhile (fun e=>blt e.1 tk)=A ++ B.takeWhile (fun e=>blt e.1 tk)
 | [],_,_=>rfl
 | x :: A,B,h=>by
   have h1:=h x List.mem_cons_self;have h2:=tw_app (A:=A) (B:=B) (fun e he=>h e (List.mem_cons_of_mem x he));simp only[List.cons_append,List.takeWhile_cons,h1,if_true,h2]
theorem tw_cut {tk:Bs} {A B:List Ent} {x:Ent} (h:∀e ∈ A,blt e.1 tk=true) (hx:blt x.1 tk=false):(A ++ x :: B).takeWhile (fun e=>blt e.1 tk)=A:=by
 rw[tw_app h];simp only[List.takeWhile_cons,hx,Bool.false_eq_true,if_false,List.append_nil]
theorem tw_mid {tk:Bs} {A B:List Ent} {x:Ent} (h:∀e ∈ A,blt e.1 tk=true) (hx:blt x.1 tk=true):(A ++ x :: B).takeWhile (fun e=>blt e.1 tk)=A ++ x :: B.takeWhile (fun e=>blt e.1 tk):=by
 rw[tw_app h];simp only[List.takeWhile_cons,hx,if_true]
end Gl
namespace Gz
open Go Go.RowKit Go.Proofs Gl Go.Shelf
attribute [local go_sem] Oper.semAt_some
structure WlkT (base bm n c b1 b2 b3 nf cf nt ct:Nat) (D:Nat->Prop) (A Af At:Option Addr) (vs:List Value) (ps:List (List Ent)) (css:List (List Value)) (fk tk:Bs) (W:World):Prop extends WlkK base bm n c b1 b2 b3 nf cf nt ct D A Af At vs ps css fk W where
 to_:By W At nt ct tk
end Gz
namespace Gz
open Go Go.RowKit Go.Proofs Gl Go.Shelf
attribute [local go_sem] Oper.semAt_some
section
variable {base bm n c b1 b2 b3 nf cf nt ct:Nat} {D T:Nat->Prop} {A Af At:Option Addr} {vs:List Value} {ps:List (List Ent)} {css:List (List Value)} {fk tk:Bs} {W W':World}
theorem WlkT.upd (h:WlkT base bm n c b1 b2 b3 nf cf nt ct D A Af At vs ps css fk tk W) (hu:Upd T W W') (hf:∀b,foot bm D A n c vs b->¬T b) (h1:¬T b1) (h2:¬T b2) (h3:¬T b3) (h4:∀a,Af=some a → 0<nf->¬T a.block) (h5:∀a,At=some a → 0<nt->¬T a.block):WlkT base bm n c b1 b2 b3 nf cf nt ct D A Af At vs ps css fk tk W':=
 ⟨h.toWlkK.upd hu hf h1 h2 h3 h4,h.to_.upd hu h5⟩
theorem WlkT.new (h:WlkT base bm n c b1 b2 b3 nf cf nt ct D A Af At vs ps css fk tk W) (hu:New W W'):WlkT base bm n c b1 b2 b3 nf cf nt ct D A Af At vs ps css fk tk W':=h.upd hu (fun _ _=>id) id id id (fun _ _ _=>id) (fun _ _ _=>id)
theorem WlkT.lows (h:WlkT base bm n c b1 b2 b3 nf cf nt ct D A Af At vs ps css fk tk W):(∀a,Af=some a → 0<nf->a.block<W.heap.size)/\∀a,At=some a → 0<nt->a.block<W.heap.size:=
 ⟨fun a ha h0=>by
   obtain⟨_,_,_,e,_,h⟩:=BV.of h.from_;cases e;exact h a ha h0,fun a ha h0=>by
   obtain⟨_,_,_,e,_,h⟩:=BV.of h.to_;cases e;exact h a ha h0⟩
end
end Gz
namespace Gz
open Go Go.RowKit Go.Proofs Gl Go.Shelf
attribute [local go_sem] Oper.semAt_some
def between (fk tk:Bs) (L:List Ent):List Ent:=(L.filter (fun e=>!blt e.1 fk)).takeWhile (fun e=>blt e.1 tk)
theorem mem_fromK {fk:Bs} {l:List CE} {x:CE} (h:x ∈ fromK fk l):x ∈ l:=(List.mem_filter.1 h).1
theorem zbp {fk:Bs} {l:List CE}:entsOf (fromK fk l)=(entsOf l).filter (fun e=>!blt e.1 fk):=by
 unfold entsOf fromK;rw[List.filter_map];rfl
theorem walkKT_gives {base bm n c b1 b2 b3 nf cf nt ct:Nat} {D:Nat->Prop} {A Af At:Option Addr} {vs:List Value} {ps:List (List Ent)} {css:List (List Value)} {fk tk:Bs} (hnt:0<nt) (hlen:ps.flatten.length<=1000000) (hsz:∀e ∈ ps.flatten,e.1.length<=1073741824/\e.2.length<=1073741824):
 Gives Tryz.prog 108 #[.pointer (some ⟨b1,0,none⟩),.pointer (some ⟨b2,0,none⟩),.pointer (some ⟨b3,0,none⟩)] Copies (fun _=>False) (WlkT base bm n c b1 b2 b3 nf cf nt ct D A Af At vs ps css fk tk) (between fk tk ps.flatten):=by
 intro l J Jx W hJ hJx hK h0 hY;have d1:=hK.box1;have d2:=hK.box2;have d3:=hK.box3;have l1:=zqB W ⟨b1,0,none⟩ d1;have l2:=zqB W ⟨b2,0,none⟩ d2;have l3:=zqB W ⟨b3,0,none⟩ d3;have g5:∀v,New W (W.alloc (.cells #[v] 112)):=fun v=>zU _ _ _;have k1:(W.alloc (.cells #[.func (.yield l) #[] #[]] 112)).cell? ⟨b1,0,none⟩=_:=((g5 _).cell (a:=⟨b1,0,none⟩) l1 id).trans d1;have k2:(W.alloc (.cells #[.func (.yield l) #[] #[]] 112)).cell? ⟨b2,0,none⟩=_:=((g5 _).cell (a:=⟨b2,0,none⟩) l2 id).trans d2;have p5:b1<W.heap.size:=l1;have p6:b2<W.heap.size:=l2;have p7:b3<W.heap.size:=l3;have HY:=zqH hY;have HJ:=zqH hJ;have i6:=zqH hJx;have HK:=zqH hK;have H0:=zqH h0;have HL:=zqH hlen;have l0:=zqH hsz;have i9:=zqH hnt;have a5:=zqH hK.lows;clear hY hJ hJx hK h0 hlen hsz g5 hnt;refine(callsIn_wide (n:=0)).1 ?_
 refine callsIn_of_wp_marks Tryz.func108 rfl trivial ?_ rfl;simp only[Tryz.ntmps108,List.size_toArray,List.length_cons,List.length_nil,Nat.reduceAdd,Nat.reduceSub,Array.replicate_succ,Array.replicate_zero,List.push_toArray,List.append_toArray,List.nil_append,List.cons_append]
 gi_wp2_with (refine⟨trivial,rfl,?_⟩;gi_at_call 109;refine(callsIn_wide.2 rising_c).mono ?_;rintro e w1 ⟨r1,r2,rfl,f4,r9,s0,s8,s9,m9,o0⟩;have d8:=zqH f4;clear f4)
 have q6:W.heap.size+1<=w1.heap.size:=by have:=d8.out.size;have e:(W.alloc (.cells #[.func (.yield l) #[] #[]] 112)).heap.size=W.heap.size+1:=(by show(W.heap.push _).size=_;simp);omega
 have j0:New W w1:=(zU _ _ _).trans d8.out;have l4:w1.cell? ⟨W.heap.size,0,none⟩=some (.func (.yield l) #[] #[]):=(d8.out.cell (a:=⟨W.heap.size,0,none⟩) (by show _<(W.heap.push _).size;simp) id).trans (zaa (zX W _) 0 _ rfl);have g7:=HK.out.new j0;have e0:∀b,foot bm D A n c vs b->b<W.heap.size:=fun b hb=>HK.out.map.map.toMapRaw.foot_lt hb;refine zbd (gf:=167) (lb:=#[.pointer (some ⟨r1,0,none⟩),.pointer (some ⟨r2,0,none⟩)]) rfl (fun args w=>zaw 167 Tryz.func167 (by kernel_rfl) (by kernel_rfl) args w)
  (risingK_all (base:=base) (bm:=bm) (n:=n) (c:=c) (b1:=r1) (b2:=r2) (nf:=nf) (cf:=cf) (D:=D) (A:=A) (Af:=Af) (vs:=vs) (ps:=ps) (css:=css) (fk:=fk) (zT (pages_le HK.out.map.map.good.1) HL.out)) (fun x _ _ vals he=>by rw[he];rfl) (fun b h=>h.elim)
  (fun P Q hk hu=>hk.upd hu (fun b hb=>by have:=e0 b hb;omega) (by omega) (by omega) (fun a ha h0=>by have:=a5.out.1 a ha h0;omega)) ⟨g7.map,m9,o0,g7.from_⟩ (fun x W0 P Q vals _ he _=>he)
  (fun Z (pre:List CE) V=>(J Z (entsOf pre) V/\∀e ∈ entsOf pre,blt e.1 tk=true)/\WlkT base bm n c b1 b2 b3 nf cf nt ct D A Af At vs ps css fk tk V/\V.cell? ⟨W.heap.size,0,none⟩=some (.func (.yield l) #[] #[]))
  (fun Z cd (pre:List CE) V=>cd=.ret/\((Jx Z (entsOf pre) V/\∀e ∈ entsOf pre,blt e.1 tk=true)\/∃pre' x,pre=pre' ++ [x]/\(∀e ∈ entsOf pre',blt e.1 tk=true)/\blt x.2.2.1 tk=false/\J Z (entsOf pre') V/\WlkT base bm n c b1 b2 b3 nf cf nt ct D A Af At vs ps css fk tk V))
  (fun Z hZ s P Q hs hu=>⟨⟨HJ.out Z _ P Q hs.1.1 (hu.mono (fun b _ hb=>hb.imp id (fun hb=>⟨by omega,hb.2⟩))),hs.1.2⟩,hs.2.1.upd hu (fun b hb h=>by have:=e0 b hb;exact h.elim id (fun h=>by omega)) (fun h=>h.elim id (fun h=>by omega)) (fun h=>h.elim id (fun h=>by omega)) (fun h=>h.elim id (fun h=>by omega)) (fun a ha h0 h=>by have:=a5.out.1 a ha h0;exact h.elim id (fun h=>by omega)) (fun a ha h0 h=>by have:=a5.out.2 a ha h0;exact h.elim id (fun h=>by omega)),(hu.cell (a:=⟨W.heap.size,0,none⟩) (zqB P _ hs.2.2) (fun h=>h.elim id (fun h=>by simp only at h;omega))).trans hs.2.2⟩)
  (fun Z cd hZ s P Q hs hu=>⟨hs.1,hs.2.imp (fun h=>⟨i6.out Z _ P Q h.1 (hu.mono (fun b _ hb=>hb.imp id (fun hb=>⟨by omega,hb.2⟩))),h.2⟩) (fun⟨pre',x,e,h1,h2,h3,h4⟩=>⟨pre',x,e,h1,h2,HJ.out Z _ P Q h3 (hu.mono (fun b _ hb=>hb.imp id (fun hb=>⟨by omega,hb.2⟩))),h4.upd hu (fun b hb h=>by have:=e0 b hb;exact h.elim id (fun h=>by omega)) (fun h=>h.elim id (fun h=>by omega)) (fun h=>h.elim id (fun h=>by omega)) (fun h=>h.elim id (fun h=>by omega)) (fun a ha h0 h=>by have:=a5.out.1 a ha h0;exact h.elim id (fun h=>by omega)) (fun a ha h0 h=>by have:=a5.out.2 a ha h0;exact h.elim id (fun h=>by omega))⟩)⟩)
  (fun Z hZ=>⟨⟨(HJ.out Z) _ _ _ (H0.out Z) (j0.mono (fun _ _ h=>h.elim)),fun e he=>(by cases he)⟩,g7,l4⟩)
  (fun W0 vals a' V=>∃bx k1 n1 e1 k2 n2 e2,vals=#[.agg #[.slice k1 n1 e1,.slice k2 n2 e2]]/\a' = { tmps:=#[.func (.yield l) #[] #[],.pointer (some ⟨b1,0,none⟩),.pointer (some ⟨b2,0,none⟩),.pointer (some ⟨b3,0,none⟩),.pointer (some ⟨W.heap.size,0,none⟩),.pointer (some ⟨bx,0,none⟩),.pointer (some ⟨bm,0,none⟩),.slice Af nf cf,.func (.func 167) #[] #[.pointer (some ⟨r1,0,none⟩),.pointer (some ⟨r2,0,none⟩)],.agg #[.slice k1 n1 e1,.slice k2 n2 e2],undef,undef,undef,undef,undef,undef,undef,undef,undef,undef,undef,undef,undef,undef,undef,undef,undef,undef,undef,undef,undef],defers:=[] }/\V.heap[bx]?=some (.cells #[.slice k1 n1 e1,.slice k2 n2 e2] 182 (0,0))/\w1.heap.size+2<=bx/\W0.heap.size<=bx)
  (fun W0 vals a' P Q hs hu=>by
    obtain⟨bx,k1,n1,e1,k2,n2,e2,q1,q2,q3,q4⟩:=hs;exact⟨bx,k1,n1,e1,k2,n2,e2,q1,q2,(hu.block bx (zqA.1 q3).1 (by have:=q4.1;omega)).trans q3,q4⟩)
  ?assign ?body ?done ?stop
 case assign=>
  rintro l2 x W0 V vals K ⟨pre,post,hx⟩ hz hz0 rfl hk hK';obtain⟨⟨k1,n1,e1,g1,_⟩,⟨k2,n2,e2,g2,_⟩⟩:=hk.map.all_by x (mem_fromK (fk:=fk) (by rw[hx];simp));obtain⟨xk,xv,xe⟩:=x;simp only at g1 g2;subst g1 g2;unfold encE
  gi_wp2
  exact hK' _ _ (zU _ _ _) ⟨V.heap.size,k1,n1,e1,k2,n2,e2,rfl,rfl,zX V _,hz,hz0⟩
 case body=>
  rintro Z pre x W0 V vals a' ⟨post,hx⟩ hZ1 hZ2 ⟨⟨hi,a2⟩,b0,f5⟩ hu0 rfl ⟨bx,k1,n1,e1,k2,n2,e2,q1,rfl,q3,q4,q5⟩ hk;have l5:=zqH q5;obtain⟨xk,xv,xe⟩:=x;obtain⟨g1,g2⟩:=hk.map.all_by (xk,xv,xe) (mem_fromK (fk:=fk) (by rw[hx];simp));have j1:xe ∈ ps.flatten:=by
   rw[<-hk.map.all_ents];exact List.mem_map_of_mem (f:=fun x:CE=>x.2.2) (a:=(xk,xv,xe)) (mem_fromK (fk:=fk) (by rw[hx];simp))
  have b9:(ps.flatten).filter (fun e=>!blt e.1 fk)=entsOf pre ++ xe :: entsOf post:=by
   have e1:entsOf (fromK fk (ceAll css ps).flatten)=(ps.flatten).filter (fun e=>!blt e.1 fk):=by rw[zbp];exact congrArg _ hk.map.all_ents
   rw[<-e1,hx];simp[entsOf]
  simp only[encE]at q1 g1 g2
  injection q1 with q1
  simp only[List.cons.injEq,Value.agg.injEq,and_true]at q1
  injection q1 with q1
  simp only[List.cons.injEq,and_true]at q1;obtain⟨rfl,rfl⟩:=q1;have d3:=b0.box3;have c5:Upd (Priv (fun _=>False) w1.heap.size Z) W0 V:=hu0;have c6:∀b,b<w1.heap.size->¬Priv (fun _=>False) w1.heap.size Z b:=fun b hb h=>h.elim id (fun h=>by omega);have d0:=b0.upd c5 (fun b hb=>c6 b (by have:=e0 b hb;omega)) (c6 _ (by omega)) (c6 _ (by omega)) (c6 _ (by omega)) (fun a ha h0=>c6 _ (by have:=a5.out.1 a ha h0;omega)) (fun a ha h0=>c6 _ (by have:=a5.out.2 a ha h0;omega));have v3:=d0.box3;have vy:V.cell? ⟨W.heap.size,0,none⟩=some (.func (.yield l) #[] #[]):=(c5.cell (a:=⟨W.heap.size,0,none⟩) (zqB W0 _ f5) (c6 W.heap.size (by omega))).trans f5;have f0:=zaa q3 0 (.slice k1 n1 e1) rfl;have g8:=zaa q3 1 (.slice k2 n2 e2) rfl;have g9:=l0.out _ j1;have d6:By V k1 n1 e1 xe.1:=by obtain⟨_,_,_,q,h,_⟩:=g1;cases q;exact h
  have e3:By V k2 n2 e2 xe.2:=by obtain⟨_,_,_,q,h,_⟩:=g2;cases q;exact h
  have f8:∀Vx,New V Vx->Calls Tryz.prog 107 #[.slice k1 n1 e1] Vx fun e w'=>∃A' c',e=.returned (.slice A' n1 c')/\BV (fun b=>Vx.heap.size<=b) w' (.slice A' n1 c') xe.1/\New Vx w':=fun Vx hx=>owned_c (d6.new hx) (by rw[<-d6.len];exact g9.1);have f9:∀Vx,New V Vx->Calls Tryz.prog 107 #[.slice k2 n2 e2] Vx fun e w'=>∃A' c',e=.returned (.slice A' n2 c')/\BV (fun b=>Vx.heap.size<=b) w' (.slice A' n2 c') xe.2/\New Vx w':=fun Vx hx=>owned_c (e3.new hx) (by rw[<-e3.len];exact g9.2);have g0:blt xe.1 tk=true->∃post,between fk tk ps.flatten=entsOf pre ++ xe :: post:=fun hl=>⟨_,by unfold between;rw[b9];exact tw_mid a2 hl⟩
  have g3:=fun Vx (hx:New V Vx)=>compare_c (d6.new hx) (d0.to_.new hx);have f2:J Z (entsOf pre) V:=HJ.out Z _ _ _ hi (c5.mono (fun b _ hb=>hb.imp id (fun hb=>⟨by omega,hb.2⟩)));have j3:=zqH (zN f2 (zN a2 (zN d0 b9)));have j4:blt xe.1 tk=true->∀V2 vals,New V V2->Copies xe W0 V2 vals->YieldAt FW 0 Tryz.prog l vals V2 fun e W'=>Kept W.heap.size Z W0.heap.size V2 W'/\WlkT base bm n c b1 b2 b3 nf cf nt ct D A Af At vs ps css fk tk W'/\((e=.returned (.bool true)/\J Z (entsOf pre ++ [xe]) W')\/(e=.returned (.bool false)/\Jx Z (entsOf pre ++ [xe]) W')):=fun hl V2 vals hn hc=>
   HY.out Z (entsOf pre) xe W0 V2 vals (g0 hl) (by omega) hZ2 hi ((c5.mono (fun b _ hb=>hb.imp id (fun hb=>⟨by omega,hb.2⟩))).trans (hn.mono (fun _ _ h=>h.elim))) hc (d0.new hn)
  have j5:∀Vx,New V Vx->Vx.cell? ⟨b3,0,none⟩=some (.slice At nt ct)/\Vx.cell? ⟨W.heap.size,0,none⟩=some (.func (.yield l) #[] #[])/\Vx.cell? ⟨bx,0,none⟩=some (.slice k1 n1 e1)/\Vx.cell? ⟨bx,1,none⟩=some (.slice k2 n2 e2):=fun Vx hn=>
   ⟨(hn.cell (a:=⟨b3,0,none⟩) (zqB V _ v3) id).trans v3,(hn.cell (a:=⟨W.heap.size,0,none⟩) (zqB V _ vy) id).trans vy,(hn.cell (a:=⟨bx,0,none⟩) (zqB V _ f0) id).trans f0,(hn.cell (a:=⟨bx,1,none⟩) (zqB V _ g8) id).trans g8⟩
  have j6:=zqH j5;clear j5;have d7:=zqH c5.size;have q7:=zqH c5;have HA:=zqH f8;have HB:=zqH f9;have l8:=zqH j4;have r3:=zqH q3;have h6:=zqH hk;have g4:=zqH g3;clear hx j1 g1 g2 hi a2 b0 f5 hu0 d3 c5 d0 g9 d6 e3 f8 f9 g0 j4 hk q3 g3 f2 b9;have mixed:Tryz.prog.follows .mixedOrders=true:=by kernel_rfl
  gi_wp2
  refine beginS (S:=fun w'=>w'.cell? ⟨b3,0,none⟩=some (.slice At nt ct)/\w'.cell? ⟨W.heap.size,0,none⟩=some (.func (.yield l) #[] #[])/\w'.cell? ⟨bx,0,none⟩=some (.slice k1 n1 e1)/\w'.cell? ⟨bx,1,none⟩=some (.slice k2 n2 e2)) mixed ?_
  have a1:V.drew.cell? ⟨b3,0,none⟩=some (.slice At nt ct)/\V.drew.cell? ⟨W.heap.size,0,none⟩=some (.func (.yield l) #[] #[])/\V.drew.cell? ⟨bx,0,none⟩=some (.slice k1 n1 e1)/\V.drew.cell? ⟨bx,1,none⟩=some (.slice k2 n2 e2):=⟨v3,vy,f0,g8⟩
  have l9:decide ((0:Int)<(nt:Int))=true:=by have:=i9.out;simp;omega
  refine takeS 0 (oi:=⟨some 10,.load 113 (.tmp 3),113,"page.go:156",#[],none⟩) (fun _=>trivial) (by rfl) rfl (by kernel_rfl) (by kernel_rfl) (by kernel_rfl) (fun _ _ _ h=>h) (v:=.slice At nt ct) (Or.inl ⟨by rfl,?_⟩) a1 ?_
  · rintro w' ⟨y1,y2,y3,y4⟩;go_simp
  simp only[Act.put,zqP];refine takeS 1 (oi:=⟨some 11,.call { callee:=.builtin Builtin.len,args:=#[.tmp 10],argTypes:=#[113] },3,"page.go:156",#[⟨0,.data⟩],none⟩) (fun _=>trivial) (by rfl) rfl (by kernel_rfl) (by kernel_rfl) (by kernel_rfl) (fun _ _ _ h=>h) (v:=.int .i64 (nt:Int)) (Or.inl ⟨by rfl,?_⟩) a1 ?_
  · rintro w' ⟨y1,y2,y3,y4⟩;go_simp
  simp only[Act.put,zqP];refine takeS 2 (oi:=⟨some 12,.binOp .gtr 3 (.tmp 11) (.const (.int .i64 0)) 3,4,"page.go:156",#[⟨1,.data⟩],none⟩) (fun _=>trivial) (by rfl) rfl (by kernel_rfl) (by kernel_rfl) (by kernel_rfl) (fun _ _ _ h=>h) (v:=.bool true) (Or.inl ⟨by rfl,?_⟩) a1 ?_
  · rintro w' ⟨y1,y2,y3,y4⟩;go_simp;exact i9.out
  simp only[Act.put,zqP];refine takeS 3 (oi:=⟨some 13,.move (.tmp 12),4,"page.go:156",#[⟨2,.data⟩],none⟩) (fun _=>trivial) (by rfl) rfl (by kernel_rfl) (by kernel_rfl) (by kernel_rfl) (fun _ _ _ h=>h) (v:=.bool true) (Or.inl ⟨by rfl,?_⟩) a1 ?_
  · rintro w' ⟨y1,y2,y3,y4⟩;go_simp
  simp only[Act.put,zqP];refine takeS 4 (oi:=⟨some 14,.fieldAddr 182 (.tmp 5) 0,0,"page.go:156",#[⟨3,.guard⟩],some (3,true)⟩) (fun _=>trivial) (by rfl) rfl (by kernel_rfl) (by kernel_rfl) (by kernel_rfl) (fun _ _ _ h=>h) (v:=.pointer (some ⟨bx,0,none⟩)) (Or.inl ⟨by rfl,?_⟩) a1 ?_
  · rintro w' ⟨y1,y2,y3,y4⟩;go_simp
  simp only[Act.put,zqP];refine takeS 5 (oi:=⟨some 15,.load 113 (.tmp 14),113,"page.go:156",#[⟨4,.data⟩,⟨3,.guard⟩],some (3,true)⟩) (fun _=>trivial) (by rfl) rfl (by kernel_rfl) (by kernel_rfl) (by kernel_rfl) (fun _ _ _ h=>h) (v:=.slice k1 n1 e1) (Or.inl ⟨by rfl,?_⟩) a1 ?_
  · rintro w' ⟨y1,y2,y3,y4⟩;go_simp
  simp only[Act.put,zqP];refine takeS 6 (oi:=⟨some 16,.load 113 (.tmp 3),113,"page.go:156",#[⟨3,.guard⟩],some (3,true)⟩) (fun _=>trivial) (by rfl) rfl (by kernel_rfl) (by kernel_rfl) (by kernel_rfl) (fun _ _ _ h=>h) (v:=.slice At nt ct) (Or.inl ⟨by rfl,?_⟩) a1 ?_
  · rintro w' ⟨y1,y2,y3,y4⟩;go_simp
  simp only[Act.put,zqP];obtain⟨d,hd⟩:=zE (cmpN xe.1 tk);rw[<-hd]at g4;obtain⟨g,hg⟩:=zE (decide ((0:Int)<=d));have j7:blt xe.1 tk = !g:=by
    rw[hg,hd];rcases cmpN_three xe.1 tk with h|h|h
    · rw[h,cmpN_lt.1 h];rfl
    · rw[h];have:=cmpN_eq.1 h;rw[this,zax];rfl
    · rw[h,zbn (cmpN_gt.1 h)];rfl
  have h7:=zqH j7;have j8:=zqH hg.symm;clear hd j7 hg;refine callS 7 (o:=⟨some 17,.call { callee:=.value (.func 110),args:=#[.tmp 15,.tmp 16],argTypes:=#[113,113] },3,"page.go:156",#[⟨5,.data⟩,⟨6,.data⟩,⟨3,.chain⟩,⟨3,.guard⟩],some (3,true)⟩) rfl (by kernel_rfl) (by rfl) (fun K hK=>?_);go_simp;refine⟨trivial,rfl,(CallsIn.inRound _ (callsIn_wide.2 (g4.out V.drew ((Upd.refl _ V).drew)))).mono ?_⟩;rintro e V0 ⟨rfl,rfl⟩;refine hK _ _ ⟨a1,?_⟩;clear hK K;(try simp only[Act.put,zqP]);have j9:decide ((0:Int)<=d)=g:=j8.out;refine takeS 8 (oi:=⟨some 18,.binOp .geq 3 (.tmp 17) (.const (.int .i64 0)) 3,4,"page.go:156",#[⟨7,.data⟩,⟨3,.guard⟩],some (3,true)⟩) (fun _=>trivial) (by rfl) rfl (by kernel_rfl) (by kernel_rfl) (by kernel_rfl) (fun _ _ _ h=>h) (v:=.bool g) (Or.inl ⟨by rfl,?_⟩) a1 ?_
  · rintro w' ⟨y1,y2,y3,y4⟩;go_simp;(try rw[j9])
  simp only[Act.put,zqP];refine takeS 9 (oi:=⟨some 19,.pick (.tmp 13) (.tmp 18) (.const (.bool false)),4,"page.go:156",#[⟨3,.data⟩,⟨8,.data⟩],none⟩) (fun _=>trivial) (by rfl) rfl (by kernel_rfl) (by kernel_rfl) (by kernel_rfl) (fun _ _ _ h=>h) (v:=.bool g) (Or.inl ⟨by rfl,?_⟩) a1 ?_
  · rintro w' ⟨y1,y2,y3,y4⟩;go_simp
  simp only[Act.put,zqP];refine takeS 10 (oi:=⟨some 20,.move (.tmp 19),4,"page.go:156",#[⟨9,.data⟩,⟨7,.chain⟩],none⟩) (fun _=>trivial) (by rfl) rfl (by kernel_rfl) (by kernel_rfl) (by kernel_rfl) (fun _ _ _ h=>h) (v:=.bool g) (Or.inl ⟨by rfl,?_⟩) a1 ?_
  · rintro w' ⟨y1,y2,y3,y4⟩;go_simp
  simp only[Act.put,zqP];clear j9 l9 j8;cases hgv:g with
  | true=>
    subst hgv;refine takeS 11 (oi:=⟨some 21,.load 112 (.tmp 4),112,"page.go:156",#[⟨10,.guard⟩],some (10,false)⟩) (fun _=>trivial) (by rfl) rfl (by kernel_rfl) (by kernel_rfl) (by kernel_rfl) (fun _ _ _ h=>h) (v:=undef) (Or.inr ⟨by rfl,rfl⟩) a1 ?_
    simp only[Act.put,zqP];refine takeS 12 (oi:=⟨some 22,.fieldAddr 182 (.tmp 5) 0,0,"page.go:156",#[⟨10,.guard⟩],some (10,false)⟩) (fun _=>trivial) (by rfl) rfl (by kernel_rfl) (by kernel_rfl) (by kernel_rfl) (fun _ _ _ h=>h) (v:=undef) (Or.inr ⟨by rfl,rfl⟩) a1 ?_
    simp only[Act.put,zqP];refine takeS 13 (oi:=⟨some 23,.load 113 (.tmp 22),113,"page.go:156",#[⟨12,.data⟩,⟨10,.guard⟩],some (10,false)⟩) (fun _=>trivial) (by rfl) rfl (by kernel_rfl) (by kernel_rfl) (by kernel_rfl) (fun _ _ _ h=>h) (v:=undef) (Or.inr ⟨by rfl,rfl⟩) a1 ?_
    simp only[Act.put,zqP];refine takeS 15 (oi:=⟨some 25,.fieldAddr 182 (.tmp 5) 1,0,"page.go:156",#[⟨10,.guard⟩],some (10,false)⟩) (fun _=>trivial) (by rfl) rfl (by kernel_rfl) (by kernel_rfl) (by kernel_rfl) (fun _ _ _ h=>h) (v:=undef) (Or.inr ⟨by rfl,rfl⟩) a1 ?_
    simp only[Act.put,zqP];refine takeS 16 (oi:=⟨some 26,.load 113 (.tmp 25),113,"page.go:156",#[⟨15,.data⟩,⟨10,.guard⟩],some (10,false)⟩) (fun _=>trivial) (by rfl) rfl (by kernel_rfl) (by kernel_rfl) (by kernel_rfl) (fun _ _ _ h=>h) (v:=undef) (Or.inr ⟨by rfl,rfl⟩) a1 ?_
    simp only[Act.put,zqP];refine takeS 14 (oi:=⟨some 24,.call { callee:=.value (.func 107),args:=#[.tmp 23],argTypes:=#[113] },113,"page.go:156",#[⟨13,.data⟩,⟨10,.chain⟩,⟨10,.guard⟩],some (10,false)⟩) (fun _=>trivial) (by rfl) rfl (by kernel_rfl) (by kernel_rfl) (by kernel_rfl) (fun _ _ _ h=>h) (v:=undef) (Or.inr ⟨by rfl,rfl⟩) a1 ?_
    simp only[Act.put,zqP];refine takeS 17 (oi:=⟨some 27,.call { callee:=.value (.func 107),args:=#[.tmp 26],argTypes:=#[113] },113,"page.go:156",#[⟨16,.data⟩,⟨14,.chain⟩,⟨10,.guard⟩],some (10,false)⟩) (fun _=>trivial) (by rfl) rfl (by kernel_rfl) (by kernel_rfl) (by kernel_rfl) (fun _ _ _ h=>h) (v:=undef) (Or.inr ⟨by rfl,rfl⟩) a1 ?_
    simp only[Act.put,zqP];refine takeS 18 (oi:=⟨some 28,.call { callee:=.value (.tmp 21),args:=#[.tmp 24,.tmp 27],argTypes:=#[113,113] },4,"page.go:156",#[⟨11,.data⟩,⟨14,.data⟩,⟨17,.data⟩,⟨17,.chain⟩,⟨10,.guard⟩],some (10,false)⟩) (fun _=>trivial) (by rfl) rfl (by kernel_rfl) (by kernel_rfl) (by kernel_rfl) (fun _ _ _ h=>h) (v:=undef) (Or.inr ⟨by rfl,rfl⟩) a1 ?_
    simp only[Act.put,zqP];refine takeS 19 (oi:=⟨some 29,.unOp .not 4 (.tmp 28),4,"page.go:156",#[⟨18,.data⟩,⟨10,.guard⟩],some (10,false)⟩) (fun _=>trivial) (by rfl) rfl (by kernel_rfl) (by kernel_rfl) (by kernel_rfl) (fun _ _ _ h=>h) (v:=undef) (Or.inr ⟨by rfl,rfl⟩) a1 ?_
    simp only[Act.put,zqP];refine takeS 20 (oi:=⟨some 30,.pick (.tmp 20) (.const (.bool true)) (.tmp 29),4,"page.go:156",#[⟨10,.data⟩,⟨19,.data⟩],none⟩) (fun _=>trivial) (by rfl) rfl (by kernel_rfl) (by kernel_rfl) (by kernel_rfl) (fun _ _ _ h=>h) (v:=.bool true) (Or.inl ⟨by rfl,?_⟩) a1 ?_
    · rintro w' ⟨y1,y2,y3,y4⟩;go_simp
    simp only[Act.put,zqP];refine doneS (by kernel_rfl) ?_ _
    gi_wp2
    obtain⟨f2,a2,d0,b9⟩:=j3.out;have h8:New V V.drew:=(Upd.refl _ V).drew;refine⟨⟨rfl,rfl,zR _,fun _ _=>rfl⟩,h6.out.new h8,rfl,.inr ⟨pre,_,rfl,a2,by rw[h7.out];rfl,HJ.out Z _ _ _ f2 (h8.mono (fun _ _ h=>h.elim)),d0.new h8⟩⟩
  | false=>
    subst hgv;refine takeS 11 (oi:=⟨some 21,.load 112 (.tmp 4),112,"page.go:156",#[⟨10,.guard⟩],some (10,false)⟩) (fun _=>trivial) (by rfl) rfl (by kernel_rfl) (by kernel_rfl) (by kernel_rfl) (fun _ _ _ h=>h) (v:=.func (.yield l) #[] #[]) (Or.inl ⟨by rfl,?_⟩) a1 ?_
    · rintro w' ⟨y1,y2,y3,y4⟩;go_simp
    simp only[Act.put,zqP];refine takeS 12 (oi:=⟨some 22,.fieldAddr 182 (.tmp 5) 0,0,"page.go:156",#[⟨10,.guard⟩],some (10,false)⟩) (fun _=>trivial) (by rfl) rfl (by kernel_rfl) (by kernel_rfl) (by kernel_rfl) (fun _ _ _ h=>h) (v:=.pointer (some ⟨bx,0,none⟩)) (Or.inl ⟨by rfl,?_⟩) a1 ?_
    · rintro w' ⟨y1,y2,y3,y4⟩;go_simp
    simp only[Act.put,zqP];refine takeS 13 (oi:=⟨some 23,.load 113 (.tmp 22),113,"page.go:156",#[⟨12,.data⟩,⟨10,.guard⟩],some (10,false)⟩) (fun _=>trivial) (by rfl) rfl (by kernel_rfl) (by kernel_rfl) (by kernel_rfl) (fun _ _ _ h=>h) (v:=.slice k1 n1 e1) (Or.inl ⟨by rfl,?_⟩) a1 ?_
    · rintro w' ⟨y1,y2,y3,y4⟩;go_simp
    simp only[Act.put,zqP];refine takeS 15 (oi:=⟨some 25,.fieldAddr 182 (.tmp 5) 1,0,"page.go:156",#[⟨10,.guard⟩],some (10,false)⟩) (fun _=>trivial) (by rfl) rfl (by kernel_rfl) (by kernel_rfl) (by kernel_rfl) (fun _ _ _ h=>h) (v:=.pointer (some ⟨bx,1,none⟩)) (Or.inl ⟨by rfl,?_⟩) a1 ?_
    · rintro w' ⟨y1,y2,y3,y4⟩;go_simp
    simp only[Act.put,zqP];refine takeS 16 (oi:=⟨some 26,.load 113 (.tmp 25),113,"page.go:156",#[⟨15,.data⟩,⟨10,.guard⟩],some (10,false)⟩) (fun _=>trivial) (by rfl) rfl (by kernel_rfl) (by kernel_rfl) (by kernel_rfl) (fun _ _ _ h=>h) (v:=.slice k2 n2 e2) (Or.inl ⟨by rfl,?_⟩) a1 ?_
    · rintro w' ⟨y1,y2,y3,y4⟩;go_simp
    simp only[Act.put,zqP];refine callS 14 (o:=⟨some 24,.call { callee:=.value (.func 107),args:=#[.tmp 23],argTypes:=#[113] },113,"page.go:156",#[⟨13,.data⟩,⟨10,.chain⟩,⟨10,.guard⟩],some (10,false)⟩) rfl (by kernel_rfl) (by rfl) (fun K hK=>?_);go_simp;refine⟨trivial,rfl,(CallsIn.inRound _ (callsIn_wide.2 (HA.out V.drew ((Upd.refl _ V).drew)))).mono ?_⟩;rintro e V1 ⟨A1,c1,rfl,o2,f4⟩;have a7:New V V1:=Upd.of_drew f4;have m0:=j6.out V1 a7;refine hK _ _ ⟨m0,?_⟩;(try simp only[Act.put,zqP]);refine callS 17 (o:=⟨some 27,.call { callee:=.value (.func 107),args:=#[.tmp 26],argTypes:=#[113] },113,"page.go:156",#[⟨16,.data⟩,⟨14,.chain⟩,⟨10,.guard⟩],some (10,false)⟩) rfl (by kernel_rfl) (by rfl) (fun K2 hK2=>?_);go_simp;refine⟨trivial,rfl,(CallsIn.inRound _ (callsIn_wide.2 (HB.out V1 a7))).mono ?_⟩;rintro e V2 ⟨A2,c2,rfl,o3,f6⟩;have f3:=j6.out V2 (a7.trans f6);refine hK2 _ _ ⟨f3,?_⟩;(try simp only[Act.put,zqP]);obtain⟨fn,tmps,r6,r7,hy,hR⟩:=l8.out (by rw[h7.out];rfl) V2 _ (a7.trans f6) ⟨A1,n1,c1,A2,n2,c2,rfl,(o2.upd f6 (fun _ _=>id)).mono (fun b hb=>zT d7.out hb),o3.mono (fun b hb=>zT (zT d7.out a7.size) hb)⟩;refine callS 18 (o:=⟨some 28,.call { callee:=.value (.tmp 21),args:=#[.tmp 24,.tmp 27],argTypes:=#[113,113] },4,"page.go:156",#[⟨11,.data⟩,⟨14,.data⟩,⟨17,.data⟩,⟨17,.chain⟩,⟨10,.guard⟩],some (10,false)⟩) rfl (by kernel_rfl) (by rfl) (fun K3 hK3=>?_);go_simp;refine⟨rfl,hR.mono ?_⟩;rintro e V3 ⟨i0,e8,h4⟩;obtain⟨r,rfl,h5⟩:∃r,e=.returned (.bool r)/\((r=true/\J Z (entsOf pre ++ [xe]) V3)\/(r=false/\Jx Z (entsOf pre ++ [xe]) V3)):=h4.elim (fun h=>⟨true,h.1,.inl ⟨rfl,h.2⟩⟩) (fun h=>⟨false,h.1,.inr ⟨rfl,h.2⟩⟩);have d9:∀b,(W.heap.size<=b/\b<Z)\/(W0.heap.size<=b/\b<V2.heap.size)->V3.heap[b]?=V2.heap[b]?:=i0.2;have k0:bx<V.heap.size:=zqB V ⟨bx,0,none⟩ f0;have a9:=a7.trans f6;have e4:V3.heap[bx]?=V2.heap[bx]?:=by
      by_cases hb:bx<Z
      · exact d9 bx (.inl ⟨by omega,hb⟩)
      · exact d9 bx (.inr ⟨l5.out,zqL k0 a9.size⟩)
    have e5:V3.cell? ⟨b3,0,none⟩=some (.slice At nt ct)/\V3.cell? ⟨W.heap.size,0,none⟩=some (.func (.yield l) #[] #[])/\V3.cell? ⟨bx,0,none⟩=some (.slice k1 n1 e1)/\V3.cell? ⟨bx,1,none⟩=some (.slice k2 n2 e2):=
      ⟨e8.box3,(World.cell?_of_block (a:=⟨W.heap.size,0,none⟩) (d9 W.heap.size (.inl ⟨zR _,by omega⟩))).trans f3.2.1,(World.cell?_of_block (a:=⟨bx,0,none⟩) e4).trans f3.2.2.1,(World.cell?_of_block (a:=⟨bx,1,none⟩) e4).trans f3.2.2.2⟩
    refine hK3 _ _ ⟨e5,?_⟩;(try simp only[Act.put,zqP]);refine takeS 19 (oi:=⟨some 29,.unOp .not 4 (.tmp 28),4,"page.go:156",#[⟨18,.data⟩,⟨10,.guard⟩],some (10,false)⟩) (fun _=>trivial) (by rfl) rfl (by kernel_rfl) (by kernel_rfl) (by kernel_rfl) (fun _ _ _ h=>h) (v:=.bool (!r)) (Or.inl ⟨by rfl,?_⟩) e5 ?_
    · rintro w' ⟨y1,y2,y3,y4⟩;go_simp
    refine takeS 20 (oi:=⟨some 30,.pick (.tmp 20) (.const (.bool true)) (.tmp 29),4,"page.go:156",#[⟨10,.data⟩,⟨19,.data⟩],none⟩) (fun _=>trivial) (by rfl) rfl (by kernel_rfl) (by kernel_rfl) (by kernel_rfl) (fun _ _ _ h=>h) (v:=.bool (!r)) (Or.inl ⟨by rfl,?_⟩) e5 ?_
    · rintro w' ⟨y1,y2,y3,y4⟩;go_simp
    refine doneS (by kernel_rfl) ?_ _;have e6:V3.heap[w1.heap.size]?=V.heap[w1.heap.size]?/\V3.heap[w1.heap.size+1]?=V.heap[w1.heap.size+1]?/\Kept (w1.heap.size+2) Z W0.heap.size V V3:=by
      have r4:Z<=V.heap.size:=zT hZ2 d7.out;have hold:∀b,(W.heap.size<=b/\b<Z)\/(W0.heap.size<=b/\b<V.heap.size)->V3.heap[b]?=V.heap[b]?:=fun b hb=>(d9 b (hb.imp id (fun h=>⟨h.1,zqL h.2 a9.size⟩))).trans (a9.block b (by omega) id);exact⟨hold _ (.inl ⟨by omega,by omega⟩),hold _ (.inl ⟨by omega,by omega⟩),zT a9.size i0.1,fun k hk=>hold k (hk.imp (fun h=>⟨by omega,h.2⟩) id)⟩
    have k3:=zqH e6;have m1:=zqH e8;have H5:=zqH h5;have m2:=zqH e5;have e7:RisK base bm n c r1 r2 nf cf D A Af vs ps css fk V3:=by
      have hold:∀b,W.heap.size<=b->b<Z->V3.heap[b]?=V.heap[b]?:=fun b hb1 hb2=>(d9 b (.inl ⟨hb1,hb2⟩)).trans (a9.block b (zqL hb2 (zT hZ2 d7.out)) id);have o7:W.heap.size+1=(W.alloc (.cells #[.func (.yield l) #[] #[]] 112)).heap.size:=(by show _=(W.heap.push _).size;simp);exact⟨e8.map,(World.cell?_of_block (a:=⟨r1,0,none⟩) (hold r1 (by omega) (by omega))).trans h6.out.box1,(World.cell?_of_block (a:=⟨r2,0,none⟩) (hold r2 (by omega) (by omega))).trans h6.out.box2,e8.from_⟩
    have k4:∀e ∈ entsOf (pre ++ [(Value.slice k1 n1 e1,Value.slice k2 n2 e2,xe)]),blt e.1 tk=true:=by
      rw[zaq];intro e he;rcases List.mem_append.1 he with he|he
      · exact j3.out.2.1 e he
      · rw[List.mem_singleton.1 he,h7.out];rfl
    have k5:=zqH e7;clear e6 e8 h5 h4 e5 e7 i0 d9 e4 hy hR;cases r with
    | true=>
      simp only[Act.put,zqP,Bool.not_true,Bool.not_false]
      gi_wp2
      refine⟨k3.out,k5.out,⟨?_,fun a b h=>k4 (a,b) h⟩,m1.out,m2.out.2.1⟩;show J Z (entsOf (pre ++ [(Value.slice k1 n1 e1,Value.slice k2 n2 e2,xe)])) V3;rw[zaq];exact H5.out.elim (fun h=>h.2) (fun h=>by cases h.1)
    | false=>
      simp only[Act.put,zqP,Bool.not_true,Bool.not_false]
      gi_wp2
      refine⟨k3.out,k5.out,rfl,.inl ⟨?_,fun a b h=>k4 (a,b) h⟩⟩;show Jx Z (entsOf (pre ++ [(Value.slice k1 n1 e1,Value.slice k2 n2 e2,xe)])) V3;rw[zaq];exact H5.out.elim (fun h=>by cases h.1) (fun h=>h.2)
 case done=>
  rintro Z V hZ1 hZ2 ⟨⟨hj,a2⟩,b0,f5⟩ hd _;have k6:entsOf (fromK fk (ceAll css ps).flatten)=(ps.flatten).filter (fun e=>!blt e.1 fk):=by rw[zbp];exact congrArg _ b0.map.all_ents
  gi_wp2
  refine⟨by simp,.inl ⟨_,_,rfl,run_takeDeferred hd,?_⟩⟩;refine⟨_,results_none rfl _ _ _,⟨_,rfl⟩,Z,by omega,by simpa using hZ2,.inl ⟨?_,b0.upd (Upd.putObj (S:=fun b=>b=w1.heap.size) V _ rfl) (fun b hb e=>by have h1:=HK.out.map.map.toMapRaw.foot_lt hb;have h2:=d8.out.size;have h3:(W.alloc (.cells #[.func (.yield l) #[] #[]] 112)).heap.size=W.heap.size+1:=(by show(W.heap.push _).size=_;simp);omega) (by omega) (by omega) (by omega) (fun a ha h0 e=>by have:=a5.out.1 a ha h0;have h2:=d8.out.size;have e:a.block=w1.heap.size:=e;omega) (fun a ha h0 e=>by have:=a5.out.2 a ha h0;have h2:=d8.out.size;have e:a.block=w1.heap.size:=e;omega)⟩⟩;have m4:J Z (between fk tk ps.flatten) V:=by unfold between;rw[<-k6,tw_all a2];exact hj
  exact HJ.out Z _ _ _ m4 (Upd.putObj _ _ (.inr ⟨by omega,by omega⟩))
 case stop=>
  rintro Z cd pre x post V hZ1 hZ2 hx ⟨rfl,f7⟩ hd;have b9:(ps.flatten).filter (fun e=>!blt e.1 fk)=entsOf pre ++ x.2.2 :: entsOf post:=by
   have e1:entsOf (fromK fk (ceAll css ps).flatten)=(ps.flatten).filter (fun e=>!blt e.1 fk):=by rw[zbp];exact congrArg _ HK.out.map.all_ents
   rw[<-e1,hx];simp[entsOf]
  gi_wp2
  refine⟨by simp,.inl ⟨_,_,rfl,run_takeDeferred hd,?_⟩⟩;rcases f7 with⟨f7,a2⟩|⟨pre',x',he,a2,hnl,hj,b0⟩
  · refine⟨_,results_none rfl _ _ _,⟨_,rfl⟩,Z,by omega,by simpa using hZ2,.inr ⟨entsOf pre,x.2.2,(entsOf post).takeWhile (fun e=>blt e.1 tk),?_,?_⟩⟩
    · rw[zaq]at a2;unfold between;rw[b9];exact tw_mid (fun e he=>a2 e (List.mem_append_left _ he)) (a2 _ (List.mem_append_right _ (List.mem_singleton.2 rfl)))
    · rw[zaq]at f7;exact i6.out Z _ _ _ f7 (Upd.putObj _ _ (.inr ⟨by omega,by omega⟩))
  · obtain⟨rfl,m8⟩:=List.append_inj' he rfl;cases m8;have hb:between fk tk ps.flatten=entsOf pre:=(by unfold between;rw[b9];exact tw_cut a2 hnl);refine⟨_,results_none rfl _ _ _,⟨_,rfl⟩,Z,by omega,by simpa using hZ2,.inl ⟨?_,b0.upd (Upd.putObj (S:=fun b=>b=w1.heap.size) V _ rfl) (fun b hb e=>by have h1:=e0 b hb;omega) (by omega) (by omega) (by omega) (fun a ha h0 e=>by have:=a5.out.1 a ha h0;have e:a.block=w1.heap.size:=e;omega) (fun a ha h0 e=>by have:=a5.out.2 a ha h0;have e:a.block=w1.heap.size:=e;omega)⟩⟩;rw[hb];exact HJ.out Z _ _ _ hj (Upd.putObj _ _ (.inr ⟨by omega,by omega⟩))
end Gz

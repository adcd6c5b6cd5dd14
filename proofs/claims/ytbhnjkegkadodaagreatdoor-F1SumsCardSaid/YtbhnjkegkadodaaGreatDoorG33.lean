/- Part of the proof. -/
import Derived.Test.YtbhnjkegkadodaaGreatDoorG31
import Derived.Test.YtbhnjkegkadodaaGreatDoorG32
set_option linter.all false
set_option maxRecDepth 100000
set_option maxHeartbeats 8000000
namespace Gz
open Go Go.RowKit Go.Proofs Gl Go.Shelf
attribute [local go_sem] Oper.semAt_some
structure CutK (F:Nat->Prop) (bs fp lp ip sp fr la:Nat) (L:List Ent) (W:World):Prop where
 sf:SF F bs W L
 b1:W.cell? ⟨fp,0,none⟩=some (.int .u64 (fr:Int))
 b2:W.cell? ⟨lp,0,none⟩=some (.int .u64 (la:Int))
 b3:W.cell? ⟨ip,0,none⟩=some (.int .u64 16)
 b4:W.cell? ⟨sp,0,none⟩=some (.pointer (some ⟨bs,0,none⟩))
 n1:fp≠bs
 n2:lp≠bs
 n3:ip≠bs
 n4:sp≠bs
theorem CutK.upd {F:Nat->Prop} {bs fp lp ip sp fr la:Nat} {L:List Ent} {W W':World} (h:CutK F bs fp lp ip sp fr la L W) (hu:Upd (fun b=>b=bs) W W') (hs:SF F bs W' L):CutK F bs fp lp ip sp fr la L W':=
 ⟨hs,(hu.cell (a:=⟨fp,0,none⟩) (zqB W _ h.b1) h.n1).trans h.b1,(hu.cell (a:=⟨lp,0,none⟩) (zqB W _ h.b2) h.n2).trans h.b2,(hu.cell (a:=⟨ip,0,none⟩) (zqB W _ h.b3) h.n3).trans h.b3,(hu.cell (a:=⟨sp,0,none⟩) (zqB W _ h.b4) h.n4).trans h.b4,h.n1,h.n2,h.n3,h.n4⟩
theorem CutK.new {F:Nat->Prop} {bs fp lp ip sp fr la:Nat} {L:List Ent} {W W':World} (h:CutK F bs fp lp ip sp fr la L W) (hu:New W W'):CutK F bs fp lp ip sp fr la L W':=h.upd (hu.mono (fun _ _ h=>h.elim)) (h.sf.new hu)
def noPanic (Q:Exit->Act->World->Prop):Exit->Act->World->Prop
 | .panic _,_,_=>False
 | .outgrown,_,_=>False
 | e,a,w=>Q e a w
theorem noPanic_of {Q:Exit->Act->World->Prop} {e:Exit} {a:Act} {w:World} (h:noPanic Q e a w):Q e a w:=by
 cases e with
 | panic _=>exact h.elim
 | outgrown=>exact h.elim
 | _=>exact h
end Gz
namespace Gz
open Go Go.RowKit Go.Proofs Gl
theorem cuts_c {w:World} {bs fr la:Nat}:
 Calls Tryz.prog 62 #[.pointer (some ⟨bs,0,none⟩),.int .u64 16,.int .u64 (fr:Int),.int .u64 (la:Int)] w fun e w'=>e=.returned (.func (.func 114) #[] #[.pointer (some ⟨w.heap.size+1+1,0,none⟩),.pointer (some ⟨w.heap.size+1+1+1,0,none⟩),.pointer (some ⟨w.heap.size+1,0,none⟩),.pointer (some ⟨w.heap.size,0,none⟩)])/\New w w' /\
  w'.cell? ⟨w.heap.size+1+1,0,none⟩=some (.int .u64 (fr:Int))/\w'.cell? ⟨w.heap.size+1+1+1,0,none⟩=some (.int .u64 (la:Int))/\w'.cell? ⟨w.heap.size+1,0,none⟩=some (.int .u64 16)/\w'.cell? ⟨w.heap.size,0,none⟩=some (.pointer (some ⟨bs,0,none⟩)):=by
 obtain⟨W3,a3,hn,hs,k0,k1,k2⟩:=box3 w (.pointer (some ⟨bs,0,none⟩)) (.int .u64 16) (.int .u64 (fr:Int)) 34 22 22;obtain⟨W4,a1⟩:=zE (W3.alloc (.cells #[.int .u64 (la:Int)] 22));have n4:New W3 W4:=by rw[a1];exact zU _ _ _
 have k3:=zX W3 (.cells #[.int .u64 (la:Int)] 22);rw[<-a1,hs]at k3;have HE:=zqH (show New w W4/\W4.cell? ⟨w.heap.size+1+1,0,none⟩=some (.int .u64 (fr:Int))/\W4.cell? ⟨w.heap.size+1+1+1,0,none⟩=some (.int .u64 (la:Int))/\W4.cell? ⟨w.heap.size+1,0,none⟩=some (.int .u64 16)/\W4.cell? ⟨w.heap.size,0,none⟩=some (.pointer (some ⟨bs,0,none⟩)) from
  ⟨hn.trans n4,zaa ((n4.block _ (by omega) id).trans k2) 0 _ rfl,zaa k3 0 _ rfl,zaa ((n4.block _ (by omega) id).trans k1) 0 _ rfl,zaa ((n4.block _ (by omega) id).trans k0) 0 _ rfl⟩)
 clear hn hs k0 k1 k2 k3 n4;go_enter Tryz.func62,Tryz.ntmps62
 go_upto_region 1 with fail
 rw[<-a3,<-a1];clear a3 a1;go_wp2;go_ret;exact⟨by simp,HE.out⟩
theorem earns_m {F:Nat->Prop} {bs bm sb ib rb kb tb p x y z:Nat} {w:World} {S:F1.Sta} {R1 R2 R3:Option Addr} {m1 d1 m2 d2 m3 d3:Nat} (hS:Okay S) (hp:p<18446744073709551616) (h:SFm F bs bm w (F1.ents S))
 (hsb:w.cell? ⟨sb,0,none⟩=some (.pointer (some ⟨bs,0,none⟩))) (hib:w.cell? ⟨ib,0,none⟩=some (.int .u64 16)) (hrb:w.heap[rb]?=some (.cells #[.slice R1 m1 d1] 26 (0,0))) (hkb:w.heap[kb]?=some (.cells #[.slice R2 m2 d2] 26 (0,0))) (htb:w.heap[tb]?=some (.cells #[.slice R3 m3 d3] 26 (0,0)))
 (o1:¬F rb/\rb≠bs) (o2:¬F kb/\kb≠bs) (o3:¬F tb/\tb≠bs) (n1:rb≠kb) (n2:rb≠tb) (n3:kb≠tb)
 (l1:LQ (fun b=>b≠bs) w R1 m1 d1 x) (l2:LQ (fun b=>b≠bs) w R2 m2 d2 y) (l3:LQ (fun b=>b≠bs) w R3 m3 d3 z) (hb1:y*((F1.hist S p).1-z)<Gn.B ^ 1000) (hb2:x+y*((F1.hist S p).1-z) / 10 ^ 36<Gn.B ^ 1000):
 Calls Tryz.prog 59 #[.int .u64 (p:Int),.pointer (some ⟨sb,0,none⟩),.pointer (some ⟨ib,0,none⟩),.pointer (some ⟨rb,0,none⟩),.pointer (some ⟨kb,0,none⟩),.pointer (some ⟨tb,0,none⟩)] w fun e w'=>e=.returned (.tuple #[])/\SFm F bs bm w' (F1.ents S)/\Upd (fun b=>b=bs\/b=rb\/b=tb) w w' /\
  ∃R m d R' m' d',w'.heap[rb]?=some (.cells #[.slice R m d] 26 (0,0))/\LN (fun b=>w.heap.size<=b) w' R m d (x+y*((F1.hist S p).1-z) / 10 ^ 36)/\w'.heap[tb]?=some (.cells #[.slice R' m' d'] 26 (0,0))/\LN (fun b=>w.heap.size<=b) w' R' m' d' (F1.hist S p).1:=by
 have hh:=history_m hS hp h;obtain⟨hr,e2⟩:=zE ((F1.hist S p).1);obtain⟨hc,f3⟩:=zE ((F1.hist S p).2);rw[<-e2,<-f3]at hh;rw[<-e2]at hb1 hb2 ⊢;have lr:rb<w.heap.size:=(zqA.1 hrb).1;have lk:kb<w.heap.size:=(zqA.1 hkb).1;have lt:tb<w.heap.size:=(zqA.1 htb).1;have HH:=zqH hh;have d6:=zqH (zN hrb (zN hkb htb));have HO:=zqH (zN o1 (zN o2 o3));have HL:=zqH (zN l1 (zN l2 l3));have HZ:=zqH (zN hb1 hb2);have j1:=zqH h.sf.bs_lt;have d7:=zqH (zN n1 (zN n2 n3));have c6:=zqH (zN lr (zN lk lt));clear hh hrb hkb htb o1 o2 o3 l1 l2 l3 hb1 hb2 h hS e2 f3 n1 n2 n3 lr lk lt hp;go_enter Tryz.func59,Tryz.ntmps59;have j3:=fun W' R m d=>field120 W' R m d (hc:Int)
 go_upto_region 1 with(go_at_call 58;refine HH.out.mono ?_;rintro e w1 ⟨Re,me,de,rfl,b8,a4,a6⟩;have H1:=zqH (zN b8 (zN a4 a6));clear HH b8 a4 a6)
 obtain⟨b8,a4,a6⟩:=H1.out;obtain⟨W2,b9⟩:=zE (w1.alloc (.cells #[.slice Re me de] 26));rw[<-b9];have n2:New w1 W2:=by rw[b9];exact zU _ _ _
 have b7:=zX w1 (.cells #[.slice Re me de] 26);rw[<-b9]at b7;have s2:W2.heap.size=w1.heap.size+1:=by rw[b9];exact zab _ _
 have u2:Upd (fun b=>b=bs) w W2:=a6.trans (n2.mono (fun _ _ h=>h.elim));have a9:=a6.size;have b0:=c6.out;have ho:=HO.out;have kr:=(u2.block rb b0.1 ho.1.2).trans d6.out.1;have kk:=(u2.block kb b0.2.1 ho.2.1.2).trans d6.out.2.1;have kt:=(u2.block tb b0.2.2 ho.2.2.2).trans d6.out.2.2;have cr:=zaa kr 0 _ rfl;have ck:=zaa kk 0 _ rfl;have ct:=zaa kt 0 _ rfl;have c7:=zaa b7 0 _ rfl;have e5:LN (fun b=>w.heap.size<=b/\b<w1.heap.size) W2 Re me de hr:=(b8.mono (Q':=fun b=>w.heap.size<=b/\b<w1.heap.size) (fun b hb hq=>⟨hq,hb⟩)).new n2;have e6:=HL.out.1.upd u2 (fun b hb e=>hb e);have e7:=HL.out.2.1.upd u2 (fun b hb e=>hb e);have e8:=HL.out.2.2.upd u2 (fun b hb e=>hb e);have HK:=zqH (fun(W':World) (hn:New W2 W')=>(⟨(hn.cell (a:=⟨kb,0,none⟩) (zqB W2 _ ck) id).trans ck,(hn.cell (a:=⟨w1.heap.size,0,none⟩) (zqB W2 _ c7) id).trans c7,(hn.cell (a:=⟨tb,0,none⟩) (zqB W2 _ ct) id).trans ct,(hn.cell (a:=⟨rb,0,none⟩) (zqB W2 _ cr) id).trans cr⟩:W'.cell? ⟨kb,0,none⟩=some (.slice R2 m2 d2)/\W'.cell? ⟨w1.heap.size,0,none⟩=some (.slice Re me de)/\W'.cell? ⟨tb,0,none⟩=some (.slice R3 m3 d3)/\W'.cell? ⟨rb,0,none⟩=some (.slice R1 m1 d1)));have H2:=zqH (zN u2 (zN (a4.new n2) (zN kr (zN kt (zN b7 (zN s2 a9))))));have b5:=zqH (zN e5 (zN e6 (zN e7 e8)));have f0:kb≠w1.heap.size/\tb≠w1.heap.size/\rb≠w1.heap.size:=⟨by omega,by omega,by omega⟩
 have h2:=zqH f0;clear b8 a4 a6 b9 n2 b7 s2 u2 a9 b0 ho kr kk kt e5 e6 e7 e8 f0;have b6:=HK.out W2.drew ((Upd.refl _ W2).drew);refine beginK 7 (fun w'=>w'.cell? ⟨kb,0,none⟩=some (.slice R2 m2 d2)/\w'.cell? ⟨w1.heap.size,0,none⟩=some (.slice Re me de)/\w'.cell? ⟨tb,0,none⟩=some (.slice R3 m3 d3)/\w'.cell? ⟨rb,0,none⟩=some (.slice R1 m1 d1)) (by kernel_rfl) (fun a3=>?_);refine takeK 0 [0] rfl (by kernel_rfl) (by kernel_rfl) (by kernel_rfl) (by kernel_rfl) a3 (fun _ _ _ h=>h) (v:=.agg #[.slice R1 m1 d1]) (Or.inl ⟨by rfl,?_⟩) b6 (fun hcl2=>?_)
 · rintro w' ⟨y1,y2,y3,y4⟩;go_simp
 simp only[Act.put,zqP];replace a3:=hcl2;clear hcl2;refine takeK 1 [1] rfl (by kernel_rfl) (by kernel_rfl) (by kernel_rfl) (by kernel_rfl) a3 (fun _ _ _ h=>h) (v:=.agg #[.slice R2 m2 d2]) (Or.inl ⟨by rfl,?_⟩) b6 (fun hcl2=>?_)
 · rintro w' ⟨y1,y2,y3,y4⟩;go_simp
 simp only[Act.put,zqP];replace a3:=hcl2;clear hcl2;refine takeK 2 [2] rfl (by kernel_rfl) (by kernel_rfl) (by kernel_rfl) (by kernel_rfl) a3 (fun _ _ _ h=>h) (v:=.agg #[.slice Re me de]) (Or.inl ⟨by rfl,?_⟩) b6 (fun hcl2=>?_)
 · rintro w' ⟨y1,y2,y3,y4⟩;go_simp
 simp only[Act.put,zqP];replace a3:=hcl2;clear hcl2;refine takeK 3 [3] rfl (by kernel_rfl) (by kernel_rfl) (by kernel_rfl) (by kernel_rfl) a3 (fun _ _ _ h=>h) (v:=.agg #[.slice R3 m3 d3]) (Or.inl ⟨by rfl,?_⟩) b6 (fun hcl2=>?_)
 · rintro w' ⟨y1,y2,y3,y4⟩;go_simp
 simp only[Act.put,zqP];replace a3:=hcl2;clear hcl2;refine oneK 4 rfl (by kernel_rfl) a3 (by rfl) (fun K hK=>?_);go_simp;refine(minus_any (b5.out.1.lq.new ((Upd.refl _ W2).drew)) (b5.out.2.2.2.new ((Upd.refl _ W2).drew))).mono ?_
 rintro e w3 ⟨Ra,ma,da,rfl,f6,f7⟩;have n3:New W2 w3:=Upd.of_drew f7;refine hK _ _ (fun _=>HK.out _ n3) (fun hcl2=>?_);have H3:=zqH (zN f6 n3);clear f6 f7 n3 a3 hK K b6;(try simp only[Act.put,zqP]);refine oneK 5 rfl (by kernel_rfl) hcl2 (by rfl) (fun K hK=>?_);go_simp;refine(dmul_c (b5.out.2.2.1.new H3.out.2) H3.out.1.lq HZ.out.1).mono ?_
 rintro e w4 ⟨Rb,mb,db,rfl,f8,f9⟩;have n4:New W2 w4:=H3.out.2.trans f9;refine hK _ _ (fun _=>HK.out _ n4) (fun hcl3=>?_);have H4:=zqH (zN f8 n4);clear f8 f9 n4 hcl2 hK K;(try simp only[Act.put,zqP]);refine oneK 6 rfl (by kernel_rfl) hcl3 (by rfl) (fun K hK=>?_);go_simp;refine(dadd_c (b5.out.2.1.new H4.out.2) H4.out.1.lq HZ.out.2).mono ?_
 rintro e w5 ⟨Rs,ms,ds,rfl,a7,e1⟩;have n5:New W2 w5:=H4.out.2.trans e1;refine hK _ _ (fun _=>HK.out _ n5) (fun hcl4=>?_);obtain⟨g1,g2,g3,g4⟩:=HK.out _ n5;have k5:=(n5.block rb (zqA.1 H2.out.2.2.1).1 id).trans H2.out.2.2.1;have z5:=zad k5 0;have a1:Upd (fun b=>b=rb) w5 (w5.setCell ⟨rb,0,none⟩ (.slice Rs ms ds)):=Upd.setCell w5 _ rfl;have i2:=(a1.cell (a:=⟨w1.heap.size,0,none⟩) (zqB w5 _ g2) (Ne.symm h2.out.2.2)).trans g2;have i3:=(a1.cell (a:=⟨tb,0,none⟩) (zqB w5 _ g3) (Ne.symm d7.out.2.1)).trans g3;have H5:=zqH (zN a7 (zN n5 (zN (zac k5 (.slice Rs ms ds) (i:=0)) a1)));clear a7 e1 n5 k5 a1 hcl3 hK K;(try simp only[Act.put,zqP]);refine oneK 7 rfl (by kernel_rfl) hcl4 (by rfl) (fun K hK=>?_);go_simp;refine hK _ _ (fun h=>absurd rfl h) (fun _=>?_);clear hcl4 hK K;(try simp only[Act.put,zqP]);refine doneK (by kernel_rfl) ?_ _
 all_goals
   obtain⟨a7,n5,k6,a1⟩:=H5.out;obtain⟨u2,c5,kr,kt,b7,s2,a9⟩:=H2.out;obtain⟨W6,f5⟩:=zE (w5.setCell ⟨rb,0,none⟩ (.slice Rs ms ds));rw[<-f5]at k6 a1 i2 i3 ⊢;have e0:=(a1.block tb (by have:=n5.size;have:=c6.out;omega) (Ne.symm d7.out.2.1)).trans ((n5.block tb (by have:=c6.out;omega) id).trans kt);have zt:=zad e0 0;have k7:=zac e0 (.slice Re me de) (i:=0);have a2:Upd (fun b=>b=tb) W6 (W6.setCell ⟨tb,0,none⟩ (.slice Re me de)):=Upd.setCell W6 _ rfl;have h5:=zqH (zN k7 (zN a2 (zN k6 a1)));clear a7 n5 k6 a1 u2 c5 kr kt b7 s2 a9 f5 e0 k7 a2 g1 g2 g3 g4 z5 cr ck ct c7;go_wp2
   go_end0
   obtain⟨k7,a2,k6,a1⟩:=h5.out;obtain⟨a7,n5,_,_⟩:=H5.out;obtain⟨u2,c5,kr,kt,b7,s2,a9⟩:=H2.out;have ho:=HO.out;have b0:=c6.out;have e1:=n5.size;have j7:=a1.size;have f2:SFm F bs bm W6 (F1.ents S):=(c5.new n5).upd_off a1 (fun b hb e=>ho.1.1 ((show b=rb from e)▸hb)) (fun e=>ho.1.2 e.symm);refine⟨rfl,f2.upd_off a2 (fun b hb e=>ho.2.2.1 ((show b=tb from e)▸hb)) (fun e=>ho.2.2.2 e.symm),?_,Rs,ms,ds,Re,me,de,?_,?_,?_,?_⟩
   · exact(u2.mono (fun _ _ e=>.inl e)).trans ((n5.mono (fun _ _ e=>e.elim)).trans ((a1.mono (fun _ _ e=>.inr (.inl e))).trans (a2.mono (fun _ _ e=>.inr (.inr e)))))
   · exact(a2.block rb (by omega) d7.out.2.1).trans k6
   · exact((a7.upd a1 (fun b hb e=>by have e:b=rb:=e;have hb:w4.heap.size<=b:=hb;have:=H4.out.2.size;omega)).upd a2 (fun b hb e=>by have e:b=tb:=e;have hb:w4.heap.size<=b:=hb;have:=H4.out.2.size;omega)).mono (fun b _ hb=>by have hb:w4.heap.size<=b:=hb;have:=H4.out.2.size;show w.heap.size<=b;omega)
   · exact k7
   · exact(((b5.out.1.new n5).upd a1 (fun b hb e=>by have e:b=rb:=e;have:=hb.1;omega)).upd a2 (fun b hb e=>by have e:b=tb:=e;have:=hb.1;omega)).mono (fun b _ hb=>hb.1)
theorem number_c {w:World} {A:Option Addr} {c:Nat} {bs:Bs} (h:By w A 8 c bs):Calls Tryz.prog 177 #[.slice A 8 c] w fun e w'=>e=.returned (.int .u64 (num bs:Int))/\New w w':=by
 obtain⟨b,off,rfl,hb⟩:=h.addr (by decide);have a6:=h.len;have a8:8<=c:=h.sl.le;have H:=zqH h;clear h hb;go_enter Tryz.func177,Tryz.ntmps177;go_wp2
 go_loopw [3,8] (fun x i wr=>∃j:Nat,j<=8/\i=.int .i64 (j:Int)/\x=.int .u64 (num (bs.take j):Int)/\wr=w) (fun x i _=>(8-(intOf i).toNat))
 case atStart=>exact⟨0,Nat.zero_le _,rfl,rfl,rfl⟩
 case round=>
  obtain⟨j,hj,rfl,rfl,rfl⟩:=hrel;by_cases hjk:j<8
  · obtain⟨v,hv⟩:=zE (bs[j]'(by omega));have a9:wr.cell? ⟨b,off+j,none⟩=some (.int .u8 (v:Int)):=by
     rw[hv];exact H.out.cell rfl j (by omega)
    have HV:=zqH hv;clear hv;obtain⟨X,hX⟩:=zE (num (bs.take j));rw[<-hX];have a1:=zqH hX;clear hX;go_wp2;have a2:v<256:=(by rw[HV.out];exact H.out.small _ (List.getElem_mem _));have a3:X<72057594037927936:=by
     rw[a1.out];have h1:=num_lt j (bs.take j) (by rw[List.length_take];omega) (fun x hx=>H.out.small x (List.mem_of_mem_take hx));have h2:256 ^ j<=256 ^ 7:=Nat.pow_le_pow_right (by decide) (by omega);omega
    refine⟨⟨j+1,by omega,by congr 1,?_,by trivial⟩,by simp[intOf];omega⟩;rw[or_bytes a3 a2,HV.out,a1.out,<-num_snoc]
    congr 3
    rw[List.take_succ_eq_append_getElem (by omega)]
  · go_wp2
    obtain rfl:j=8:=(by omega);go_ret;rw[List.take_of_length_le (by omega)];exact⟨rfl,Upd.refl _ _⟩
structure Kd (p k hd md:Nat) (fa fb:Bool) (bs:Bs):Prop where
 form:∀W,Calls Tryz.prog 173 #[.int .i64 (k:Int)] W fun e w'=>e=.returned (.tuple #[.agg #[.int .u8 (hd:Int),.int .u8 (md:Int),.bool fa,.bool fb,.bool false],.bool true])/\New W w'
 make:∀W,Calls Tryz.prog 135 #[.agg #[.int .i64 (k:Int),.int .u64 (if fa then 16 else 0),.int .u64 (if fb then(p:Int) else 0)]] W fun e w'=>∃A n c,e=.returned (.tuple #[.slice A n c,.int .i64 0])/\By w' A n c bs/\New W w'
 ab:fb=true->fa=true
 eq:(bs=F1.ck p)↔k=8
 full:k=8->fb=true
theorem small_one {x:Nat} (h:x<256):Small [x]:=fun y hy=>by simp at hy;subst hy;exact h
theorem small_tf {x a:Nat} (h:x<256):Small (x :: be 8 a):=fun y hy=>by
 rcases List.mem_cons.1 hy with rfl|hy
 · exact h
 · exact be_small _ _ y hy
theorem make_full {w:World} (kind:Int) (hd md a b:Nat) (hf:∀W,Calls Tryz.prog 173 #[.int .i64 kind] W fun e w'=>e=.returned (.tuple #[.agg #[.int .u8 (hd:Int),.int .u8 (md:Int),.bool true,.bool true,.bool false],.bool true])/\New W w') (h1:hd<256) (h2:md<256) (h0:0<md) (ha:a<18446744073709551616) (hb:b<18446744073709551616):
 Calls Tryz.prog 135 #[.agg #[.int .i64 kind,.int .u64 (a:Int),.int .u64 (b:Int)]] w fun e w'=>∃A n c,e=.returned (.tuple #[.slice A n c,.int .i64 0])/\By w' A n c (hd :: (be 8 a ++ md :: be 8 b))/\New w w':=by
 refine(make_c (w:=w) kind hd md a b hf h1 h2 h0 ha hb).mono ?_
 rintro e w' ⟨A,c,rfl,ho,hn⟩;have hs:Small (hd :: be 8 a ++ [md] ++ be 8 b):=by
  refine Small.append (Small.append (fun x hx=>?_) (fun x hx=>?_)) (be_small _ _)
  · rcases List.mem_cons.1 hx with rfl|hx
    · exact h1
    · exact be_small _ _ x hx
  · simp at hx;subst hx;exact h2
 exact⟨A,_,c,rfl,by simpa using By.of_own ho hs,hn⟩
theorem ck_ne_len {p:Nat} {bs:Bs} (h:bs.length≠18):bs≠F1.ck p:=fun e=>h (by rw[e];simp[F1.ck,zah])
theorem kd1 (p:Nat):Kd p 1 112 0 false false [112]:=⟨formk1,fun W=>make_nb 1 112 0 0 false [112] (fun W=>(first_ff (w:=W) 112 0 false (by decide) (by decide)).mono fun _ _=>fst_of (small_one (by decide))) usedk1 formk1,fun h=>(by cases h),⟨fun h=>absurd h (ck_ne_len (by simp)),fun h=>(by cases h)⟩,fun h=>(by cases h)⟩
theorem kd2 (p:Nat):Kd p 2 99 0 false false [99]:=⟨formk2,fun W=>make_nb 2 99 0 0 false [99] (fun W=>(first_ff (w:=W) 99 0 false (by decide) (by decide)).mono fun _ _=>fst_of (small_one (by decide))) usedk2 formk2,fun h=>(by cases h),⟨fun h=>absurd h (ck_ne_len (by simp)),fun h=>(by cases h)⟩,fun h=>(by cases h)⟩
theorem kd3 (p:Nat):Kd p 3 109 0 false false [109]:=⟨formk3,fun W=>make_nb 3 109 0 0 false [109] (fun W=>(first_ff (w:=W) 109 0 false (by decide) (by decide)).mono fun _ _=>fst_of (small_one (by decide))) usedk3 formk3,fun h=>(by cases h),⟨fun h=>absurd h (ck_ne_len (by simp)),fun h=>(by cases h)⟩,fun h=>(by cases h)⟩
theorem kd4 (p:Nat):Kd p 4 97 0 true false (97 :: be 8 16):=⟨formk4,fun W=>make_nb 4 97 0 16 true (97 :: be 8 16) (fun W=>(first_tf (w:=W) 97 16 false (by decide) (by decide)).mono fun _ _=>fst_of (small_tf (by decide))) usedk4 formk4,fun h=>(by cases h),⟨fun h=>absurd h (ck_ne_len (by simp[zah])),fun h=>(by cases h)⟩,fun h=>(by cases h)⟩
theorem kd5 (p:Nat):Kd p 5 118 48 true false (118 :: be 8 16 ++ [48]):=⟨formk5,fun W=>make_nb 5 118 48 16 true (118 :: be 8 16 ++ [48]) (fun W=>(first_c (w:=W) 118 48 16 false (by decide) (by decide) (by decide) (by decide)).mono fun _ _=>fst_of (Small.append (small_tf (by decide)) (small_one (by decide)))) usedk5 formk5,fun h=>(by cases h),⟨fun h=>absurd h (ck_ne_len (by simp[zah])),fun h=>(by cases h)⟩,fun h=>(by cases h)⟩
theorem kd6 (p:Nat) (hp:p<18446744073709551616):Kd p 6 118 100 true true (118 :: (be 8 16 ++ 100 :: be 8 p)):=⟨formk6,fun W=>make_full 6 118 100 16 p formk6 (by decide) (by decide) (by decide) (by decide) hp,fun _=>rfl,⟨fun h=>by simp[F1.ck]at h,fun h=>(by cases h)⟩,fun _=>rfl⟩
theorem kd7 (p:Nat) (hp:p<18446744073709551616):Kd p 7 118 104 true true (118 :: (be 8 16 ++ 104 :: be 8 p)):=⟨form7,fun W=>make_full 7 118 104 16 p form7 (by decide) (by decide) (by decide) (by decide) hp,fun _=>rfl,⟨fun h=>by simp[F1.ck]at h,fun h=>(by cases h)⟩,fun _=>rfl⟩
theorem kd8 (p:Nat) (hp:p<18446744073709551616):Kd p 8 118 115 true true (118 :: (be 8 16 ++ 115 :: be 8 p)):=⟨form8,fun W=>make_full 8 118 115 16 p form8 (by decide) (by decide) (by decide) (by decide) hp,fun _=>rfl,⟨fun _=>rfl,fun _=>rfl⟩,fun _=>rfl⟩
theorem kds {p k:Nat} (hp:p<18446744073709551616) (h1:1<=k) (h8:k<=8):∃hd md fa fb bs,Kd p k hd md fa fb bs:=by
 rcases(show k=1\/k=2\/k=3\/k=4\/k=5\/k=6\/k=7\/k=8 by omega) with rfl|rfl|rfl|rfl|rfl|rfl|rfl|rfl
 · exact⟨_,_,_,_,_,kd1 p⟩
 · exact⟨_,_,_,_,_,kd2 p⟩
 · exact⟨_,_,_,_,_,kd3 p⟩
 · exact⟨_,_,_,_,_,kd4 p⟩
 · exact⟨_,_,_,_,_,kd5 p⟩
 · exact⟨_,_,_,_,_,kd6 p hp⟩
 · exact⟨_,_,_,_,_,kd7 p hp⟩
 · exact⟨_,_,_,_,_,kd8 p hp⟩
theorem by_sub {w:World} {b off n c:Nat} {bs:Bs} (h:By w (some ⟨b,off,none⟩) n c bs) (x y:Nat) (hxy:x+y<=n):By w (some ⟨b,off+x,none⟩) y (c-x) ((bs.drop x).take y):=by
 have a2:=h.len;refine⟨⟨by simp;omega,by have:=h.sl.le;omega,by have:=h.sl.max;omega,fun hy=>⟨b,off+x,rfl,?_⟩,fun e=>by cases e⟩,fun z hz=>h.small z (List.mem_of_mem_drop (List.mem_of_mem_take hz))⟩;obtain⟨b',a3,e,hr⟩:=h.sl.row (by omega);cases e;refine⟨hr.1,fun i v hv=>?_⟩;have hi:i<y:=by
  have:=(List.getElem?_eq_some_iff.1 hv).1;simp at this;omega
 have a1:(bs.map u8)[x+i]?=some v:=by
  rw[<-hv,List.getElem?_map,List.getElem?_map,List.getElem?_take,if_pos hi,List.getElem?_drop]
 have:=hr.2 (x+i) v a1
 rwa [Nat.add_assoc]
theorem read_c {w:World} {A:Option Addr} {c p:Nat} (h:By w A 18 c (F1.ck p)) (hp:p<18446744073709551616):
 Calls Tryz.prog 118 #[.slice A 18 c] w fun e w'=>e=.returned (.tuple #[.agg #[.int .i64 8,.int .u64 16,.int .u64 (p:Int)],.int .i64 0])/\New w w':=by
 obtain⟨bb,bo,rfl,i9⟩:=h.addr (by decide);have j4:18<=c:=h.sl.le;have f5:=h.sl.max;have e2:((F1.ck p).drop 1).take 8=be 8 16:=by simp[F1.ck,List.take_append_of_le_length,zah]
 have f6:((F1.ck p).drop 10).take 8=be 8 p:=by
  have e:F1.ck p=(118 :: (be 8 16 ++ [115])) ++ be 8 p:=by simp[F1.ck]
  rw[e,List.drop_left' (by simp[zah]),List.take_of_length_le (by simp[zah])]
 have f7:∀W,New w W->Calls Tryz.prog 177 #[.slice (some ⟨bb,bo+1,none⟩) 8 (c-1)] W fun e w'=>e=.returned (.int .u64 16)/\New W w':=fun W hn=>by
  have:=number_c (by_sub (h.new hn) 1 8 (by decide));rw[e2,F1.num_be 8 16 (by decide)]at this;exact this
 have f8:∀W,New w W->Calls Tryz.prog 177 #[.slice (some ⟨bb,bo+10,none⟩) 8 (c-10)] W fun e w'=>e=.returned (.int .u64 (p:Int))/\New W w':=fun W hn=>by
  have:=number_c (by_sub (h.new hn) 10 8 (by decide));rw[f6,F1.num_be 8 p (by simpa using hp)]at this;exact this
 obtain⟨W1,b8⟩:=zE (w.alloc (.cells #[.int .i64 0,.int .u64 0,.int .u64 0] 133));have n1:New w W1:=by rw[b8];exact zU _ _ _
 have b1:=zX w (.cells #[.int .i64 0,.int .u64 0,.int .u64 0] 133);rw[<-b8]at b1;have s1:W1.heap.size=w.heap.size+1:=by rw[b8];exact zab _ _
 have HB:=zqH h;have f9:=zqH f7;have i6:=zqH f8;have N1:=zqH n1;have B1:=zqH b1;have S1:=zqH s1;have HP:=zqH hp;have l4:=zqH f5;clear h f7 f8 n1 b1 s1 hp e2 f6 i9 f5;go_enter Tryz.func118,Tryz.ntmps118
 go_upto_region 1 with fail
 rw[<-b8];clear b8;go_wp2
 go_loopw [4] (fun s4 wr=>∃k:Nat,1<=k/\k<=8/\s4=.int .i64 (k:Int)/\Hid (New W1 wr)) (fun s4 _=>9-(intOf s4).toNat)
 case atStart=>exact⟨1,by decide,by decide,rfl,zqH (Upd.refl _ _)⟩
 case round=>
  obtain⟨k,j0,j1,rfl,g9⟩:=hrel;obtain⟨hd,md,fa,fb,bs,h1⟩:=kds HP.out j0 j1;have a3:=zqH h1;clear h1
  go_upto_region 5 with(go_at_call 173;refine(a3.out.form wr).mono ?_;rintro e W2 ⟨rfl,h3⟩;have H2:=zqH (zbc h3);clear h3)
  go_upto_region 6 with fail
  obtain⟨W3,b9⟩:=zE (W2.alloc (.cells #[.int .u8 (hd:Int),.int .u8 (md:Int),.bool fa,.bool fb,.bool false] 254));obtain⟨W4,c5⟩:=zE (W3.alloc (.cells #[.int .i64 (k:Int),.int .u64 0,.int .u64 0] 133));rw[<-b9,<-c5];have s3:W3.heap.size=W2.heap.size+1:=by rw[b9];exact zab _ _
  have n3:New W2 W3:=by rw[b9];exact zU _ _ _
  have n4:New W3 W4:=by rw[c5];exact zU _ _ _
  have s4:W4.heap.size=W2.heap.size+1+1:=by rw[c5,zab,s3]
  have b3:W4.heap[W2.heap.size]?=some (.cells #[.int .u8 (hd:Int),.int .u8 (md:Int),.bool fa,.bool fb,.bool false] 254 (0,0)):=(n4.block _ (by omega) id).trans (by rw[b9];exact zX W2 _);have b4:W4.heap[W2.heap.size+1]?=some (.cells #[.int .i64 (k:Int),.int .u64 0,.int .u64 0] 133 (0,0)):=by rw[c5,<-s3];exact zX W3 _
  have n14:New W1 W4:=(g9.out.trans H2.out).trans (n3.trans n4);have g3:=(g9.out.trans H2.out).size;have b5:=zqH n14;have d0:=zqH (zN b3 b4);have S4:=zqH (show W4.heap.size=W2.heap.size+1+1/\w.heap.size<W2.heap.size from⟨s4,by have:=S1.out;omega⟩);have f2:=zaa b3 2 _ rfl;have f3:=zaa b3 3 _ rfl;have f4:=zaa b3 4 _ rfl;have x0:=zaa b4 0 _ rfl;have x1:=zaa b4 1 _ rfl;have x2:=zaa b4 2 _ rfl;have z1:=zad b4 1;have z2:=zad b4 2;clear b9 c5 s3 s4 n3 n4 b3 b4 n14 g3;cases fa with
  | false=>
    obtain rfl:fb=false:=by
     cases fb with
     | false=>rfl
     | true=>exact absurd (a3.out.ab rfl) (by decide)
    have a4:=a3.out.make;rw[if_neg (by decide),if_neg (by decide)]at a4;have b6:=zqH a4;clear a4;have hk:k≠8:=fun e=>(by have:=a3.out.full e;cases this);have b7:decide (bs=F1.ck p)=false:=decide_eq_false (fun e=>hk (a3.out.eq.1 e))
    go_upto_region 13 with(go_at_call 135;refine(b6.out W4).mono ?_;rintro e W5 ⟨Am,nm,cm,rfl,a7,a2⟩;have H5:=zqH (zN a7 (b5.out.trans a2));clear a7 a2)
    go_wp2_with (go_at_call 178;refine(equal_c H5.out.1 ((HB.out.new N1.out).new H5.out.2)).mono ?_;rw[b7];rintro e w6 ⟨rfl,rfl⟩)
    refine⟨⟨k+1,by omega,by omega,by congr 1,zqH H5.out.2⟩,by simp[intOf];omega⟩
  | true=>
    cases fb with
    | false=>
      have a4:=a3.out.make;rw[if_pos rfl,if_neg (by decide)]at a4;have b6:=zqH a4;clear a4;have hk:k≠8:=fun e=>(by have:=a3.out.full e;cases this);have b7:decide (bs=F1.ck p)=false:=decide_eq_false (fun e=>hk (a3.out.eq.1 e))
      go_upto_region 8 with(go_at_call 177;refine(f9.out W4 (N1.out.trans b5.out)).mono ?_;rintro e W5 ⟨rfl,a2⟩;have y1:=(a2.cell (a:=⟨W2.heap.size+1,1,none⟩) (by have:=S4.out;show W2.heap.size+1<_;omega) id).trans x1;have y2:=(a2.frozen (a:=⟨W2.heap.size+1,1,none⟩) (by have:=S4.out;show W2.heap.size+1<_;omega) id).trans z1;have H5:=zqH a2;clear a2)
      obtain⟨W6,a5⟩:=zE (W5.setCell ⟨W2.heap.size+1,1,none⟩ (.int .u64 16));rw[<-a5];have k5:=(H5.out.block (W2.heap.size+1) (by have:=S4.out;omega) id).trans d0.out.2;have k6:=zac k5 (.int .u64 16) (i:=1);simp only[List.setIfInBounds_toArray,List.set_cons_succ,List.set_cons_zero]at k6;rw[<-a5]at k6;have u6:Upd (fun b=>b=W2.heap.size+1) W5 W6:=(by rw[a5];exact Upd.setCell W5 _ rfl);have k3:=(u6.block W2.heap.size (by have:=H5.out.size;have:=S4.out;omega) (by omega)).trans ((H5.out.block W2.heap.size (by have:=S4.out;omega) id).trans d0.out.1);have n16:New W1 W6:=(b5.out.trans H5.out).then u6 (fun b hb e=>by have e:b=W2.heap.size+1:=e;have:=S4.out;have:=S1.out;omega);have d8:=zqH n16;have K6:=zqH k6;have K3:=zqH k3;have S6:=zqH (show W2.heap.size+1<W6.heap.size from by have:=H5.out.size;have:=u6.size;have:=S4.out;omega);clear x0 x1 x2 z1 z2 f2 f3 f4 y1 y2 a5 k5 u6 n16;have f3:=zaa k3 3 _ rfl;have f4:=zaa k3 4 _ rfl;have x0:=zaa k6 0 _ rfl;have x1:=zaa k6 1 _ rfl;have x2:=zaa k6 2 _ rfl;have z2:=zad k6 2;clear k3 k6;clear H5
      go_upto_region 13 with(go_at_call 135;refine(b6.out W6).mono ?_;rintro e W7 ⟨Am,nm,cm,rfl,a7,a9⟩;have H5:=zqH (zN a7 (d8.out.trans a9));clear a7 a9)
      go_wp2_with (go_at_call 178;refine(equal_c H5.out.1 ((HB.out.new N1.out).new H5.out.2)).mono ?_;rw[b7];rintro e w6 ⟨rfl,rfl⟩)
      refine⟨⟨k+1,by omega,by omega,by congr 1,zqH H5.out.2⟩,by simp[intOf];omega⟩
    | true=>
      have a4:=a3.out.make;rw[if_pos rfl,if_pos rfl]at a4;have b6:=zqH a4;clear a4
      go_upto_region 8 with(go_at_call 177;refine(f9.out W4 (N1.out.trans b5.out)).mono ?_;rintro e W5 ⟨rfl,a2⟩;have y1:=(a2.cell (a:=⟨W2.heap.size+1,1,none⟩) (by have:=S4.out;show W2.heap.size+1<_;omega) id).trans x1;have y2:=(a2.frozen (a:=⟨W2.heap.size+1,1,none⟩) (by have:=S4.out;show W2.heap.size+1<_;omega) id).trans z1;have H5:=zqH a2;clear a2)
      obtain⟨W6,a5⟩:=zE (W5.setCell ⟨W2.heap.size+1,1,none⟩ (.int .u64 16));rw[<-a5];have k5:=(H5.out.block (W2.heap.size+1) (by have:=S4.out;omega) id).trans d0.out.2;have k6:=zac k5 (.int .u64 16) (i:=1);simp only[List.setIfInBounds_toArray,List.set_cons_succ,List.set_cons_zero]at k6;rw[<-a5]at k6;have u6:Upd (fun b=>b=W2.heap.size+1) W5 W6:=(by rw[a5];exact Upd.setCell W5 _ rfl);have k3:=(u6.block W2.heap.size (by have:=H5.out.size;have:=S4.out;omega) (by omega)).trans ((H5.out.block W2.heap.size (by have:=S4.out;omega) id).trans d0.out.1);have n16:New W1 W6:=(b5.out.trans H5.out).then u6 (fun b hb e=>by have e:b=W2.heap.size+1:=e;have:=S4.out;have:=S1.out;omega);have d8:=zqH n16;have K6:=zqH k6;have K3:=zqH k3;have S6:=zqH (show W2.heap.size+1<W6.heap.size from by have:=H5.out.size;have:=u6.size;have:=S4.out;omega);clear x0 x1 x2 z1 z2 f2 f3 f4 y1 y2 a5 k5 u6 n16;have f3:=zaa k3 3 _ rfl;have f4:=zaa k3 4 _ rfl;have x0:=zaa k6 0 _ rfl;have x1:=zaa k6 1 _ rfl;have x2:=zaa k6 2 _ rfl;have z2:=zad k6 2;clear k3 k6;clear H5
      go_upto_region 12 with(go_at_call 177;refine(i6.out W6 (N1.out.trans d8.out)).mono ?_;rintro e W7 ⟨rfl,a9⟩;have y1:=(a9.cell (a:=⟨W2.heap.size+1,2,none⟩) (by have:=S6.out;show W2.heap.size+1<_;omega) id).trans x2;have y2:=(a9.frozen (a:=⟨W2.heap.size+1,2,none⟩) (by have:=S6.out;show W2.heap.size+1<_;omega) id).trans z2;have H7:=zqH a9;clear a9)
      obtain⟨W8,e1⟩:=zE (W7.setCell ⟨W2.heap.size+1,2,none⟩ (.int .u64 (p:Int)));rw[<-e1];have k7:=(H7.out.block (W2.heap.size+1) S6.out id).trans K6.out;have k8:=zac k7 (.int .u64 (p:Int)) (i:=2);simp only[List.setIfInBounds_toArray,List.set_cons_succ,List.set_cons_zero]at k8;rw[<-e1]at k8;have u8:Upd (fun b=>b=W2.heap.size+1) W7 W8:=(by rw[e1];exact Upd.setCell W7 _ rfl);have n18:New W1 W8:=(d8.out.trans H7.out).then u8 (fun b hb e=>by have e:b=W2.heap.size+1:=e;have:=S4.out;have:=S1.out;omega);have i7:=zqH n18;have K8:=zqH k8;have S8:=zqH (show W2.heap.size+1<W8.heap.size from by have:=H7.out.size;have:=u8.size;have:=S6.out;omega);clear x0 x1 x2 z2 f3 f4 y1 y2 e1 k7 u8 n18 H7;have x0:=zaa k8 0 _ rfl;have x1:=zaa k8 1 _ rfl;have x2:=zaa k8 2 _ rfl;clear k8
      go_upto_region 13 with(go_at_call 135;refine(b6.out W8).mono ?_;rintro e W9 ⟨Am,nm,cm,rfl,a7,e7⟩;have H5:=zqH (zN a7 (zN (i7.out.trans e7) e7));clear a7 e7)
      have g8:=zqH (equal_c H5.out.1 ((HB.out.new N1.out).new H5.out.2.1));by_cases hk:k=8
      · subst hk;have he:decide (bs=F1.ck p)=true:=decide_eq_true (a3.out.eq.2 rfl);have kz:=(H5.out.2.1.block w.heap.size (zqA.1 B1.out).1 id).trans B1.out;have k9:=(H5.out.2.2.block _ S8.out id).trans K8.out;clear x0 x1 x2;have x0:=zaa k9 0 _ rfl;have x1:=zaa k9 1 _ rfl;have x2:=zaa k9 2 _ rfl;obtain⟨g0,y0,g1,y1,g2,y2,hh,b0⟩:=put3 kz (.int .i64 8) (.int .u64 16) (.int .u64 (p:Int));have q0:=zaa hh 0 _ rfl;have q1:=zaa hh 1 _ rfl;have q2:=zaa hh 2 _ rfl;have QQ:=zqH (zN q0 (zN q1 (zN q2 b0)));clear kz k9 hh b0 q0 q1 q2
        go_wp2_with (go_at_call 178;refine g8.out.mono ?_;rw[he];rintro e w6 ⟨rfl,rfl⟩)
        skip
        obtain⟨q0,q1,q2,b0⟩:=QQ.out;refine bodyPost_ret (by simp[results,Tryz.results118,go_sem,q0,q1,q2];try rfl) rfl ?_
        exact⟨rfl,(N1.out.trans H5.out.2.1).then b0 (fun b hb e=>by have e:b=w.heap.size:=e;omega)⟩
      · have b7:decide (bs=F1.ck p)=false:=decide_eq_false (fun e=>hk (a3.out.eq.1 e))
        go_wp2_with (go_at_call 178;refine g8.out.mono ?_;rw[b7];rintro e w6 ⟨rfl,rfl⟩)
        refine⟨⟨k+1,by omega,by omega,by congr 1,zqH H5.out.2.1⟩,by simp[intOf];omega⟩
abbrev Blk:=Nat × Nat × Array Value
def PO (F:Nat->Prop) (bs:Nat) (own:List Blk):Nat->Prop:=fun b=>(¬F b/\b≠bs)/\∀x ∈ own,b≠x.1
structure LG (w:World) (F0 F:Nat->Prop) (bs:Nat) (L:List Ent) (own:List Blk) (W:World):Prop where
 sf:SF F bs W L
 st:Step F0 F bs w W
 blk:∀x ∈ own,W.heap[x.1]?=some (.cells x.2.2 x.2.1 (0,0))
 off:∀x ∈ own,¬F x.1/\x.1≠bs/\w.heap.size<=x.1
 nd:(own.map (·.1)).Pairwise (· ≠ ·)
end Gz
namespace Gz
open Go Go.RowKit Go.Proofs Gl
section
variable {w W W':World} {F0 F F':Nat->Prop} {bs n c x b t i j:Nat} {L L':List Ent} {own:List Blk} {cs cs':Array Value} {A:Option Addr} {v:Value}
theorem LG.begin (h:SF F bs w L):LG w F F bs L [] w:=⟨h,Step.refl _ _ _,fun x hx=>(by cases hx),fun x hx=>(by cases hx),List.Pairwise.nil⟩
theorem LG.lt (h:LG w F0 F bs L own W) {x:Blk} (hx:x ∈ own):x.1<W.heap.size:=(zqA.1 (h.blk x hx)).1
theorem LG.step (h:LG w F0 F bs L own W) (st:Step F F' bs W W') (hs:SF F' bs W' L'):LG w F0 F' bs L' own W':=
 ⟨hs,h.st.trans st,fun x hx=>(st.block (h.lt hx) (h.off x hx).1 (h.off x hx).2.1).trans (h.blk x hx),fun x hx=>⟨fun hf=>(st.sub _ hf).elim (h.off x hx).1 (fun hh=>by have:=h.lt hx;omega),(h.off x hx).2⟩,h.nd⟩
theorem LG.nw (h:LG w F0 F bs L own W) (hu:New W W'):LG w F0 F bs L own W':=h.step (Step.of_new hu) (h.sf.new hu)
theorem LG.bsd (h:LG w F0 F bs L own W) (hu:Upd (fun b=>b=bs) W W') (hs:SF F bs W' L):LG w F0 F bs L own W':=h.step ⟨fun b hb=>.inl hb,hu.mono (fun _ _ e=>.inr e)⟩ hs
theorem LG.alloc (h:LG w F0 F bs L own W) (cs:Array Value) (t:Nat):LG w F0 F bs L ((W.heap.size,t,cs) :: own) (W.alloc (.cells cs t)):=by
 have hn:New W (W.alloc (.cells cs t)):=zU _ _ _;have h2:=h.nw hn;refine⟨h2.sf,h2.st,fun x hx=>?_,fun x hx=>?_,?_⟩
 · rcases List.mem_cons.1 hx with rfl|hx
   · exact zX W _
   · exact h2.blk x hx
 · rcases List.mem_cons.1 hx with rfl|hx
   · have:=h.sf.off_new (zR W.heap.size);exact⟨this.1,this.2,h.st.upd.size⟩
   · exact h2.off x hx
 · rw[List.map_cons,List.pairwise_cons];refine⟨fun y hy e=>?_,h.nd⟩;obtain⟨x,hx,rfl⟩:=List.mem_map.1 hy;have:=h.lt hx;have e:W.heap.size=x.1:=e;omega
theorem pair_ne {own:List Blk} (h:(own.map (·.1)).Pairwise (· ≠ ·)) {i j:Nat} {x y:Blk} (hi:own[i]?=some x) (hj:own[j]?=some y) (hne:i≠j):x.1≠y.1:=by
 have a1:(own.map (·.1))[i]?=some x.1:=by rw[List.getElem?_map,hi];rfl
 have a2:(own.map (·.1))[j]?=some y.1:=by rw[List.getElem?_map,hj];rfl
 obtain⟨h1,e1⟩:=List.getElem?_eq_some_iff.1 a1;obtain⟨h2,e2⟩:=List.getElem?_eq_some_iff.1 a2;rw[<-e1,<-e2];rcases Nat.lt_or_gt_of_ne hne with hh|hh
 · exact List.pairwise_iff_getElem.1 h i j h1 h2 hh
 · exact Ne.symm (List.pairwise_iff_getElem.1 h j i h2 h1 hh)
theorem LG.set (h:LG w F0 F bs L own W) (hi:own[i]?=some (b,t,cs)) (hu:Upd (fun c=>c=b) W W') (hk:W'.heap[b]?=some (.cells cs' t (0,0))):LG w F0 F bs L (own.set i (b,t,cs')) W':=by
 have hm:(b,t,cs) ∈ own:=List.mem_of_getElem? hi;have ho:=h.off _ hm;have key:∀x ∈ own.set i (b,t,cs'),x=(b,t,cs')\/(x ∈ own/\x.1≠b):=fun x hx=>by
  obtain⟨j,hj⟩:=List.getElem?_of_mem hx;by_cases e:i=j
  · subst e;have a2:i<own.length:=(List.getElem?_eq_some_iff.1 hi).1;rw[List.getElem?_set_self a2]at hj;cases hj;exact .inl rfl
  · rw[List.getElem?_set_ne e]at hj;exact .inr ⟨List.mem_of_getElem? hj,fun e2=>pair_ne h.nd hi hj e e2.symm⟩
 refine⟨h.sf.upd_off hu (fun c hc e=>ho.1 ((show c=b from e)▸hc)) (fun e=>ho.2.1 e.symm),h.st.off hu (fun c hc=>(show c=b from hc)▸ho.2.2),fun x hx=>?_,fun x hx=>?_,?_⟩
 · rcases key x hx with rfl|⟨hx,a5⟩
   · exact hk
   · exact(hu.block _ (h.lt hx) a5).trans (h.blk x hx)
 · rcases key x hx with rfl|⟨hx,_⟩
   · exact ho
   · exact h.off x hx
 · have e:(own.set i (b,t,cs')).map (·.1)=own.map (·.1):=by
    rw[List.map_set];refine List.ext_getElem? fun j=>?_
    by_cases e:i=j
    · subst e;have a2:i<(own.map (·.1)).length:=(by rw[List.length_map];exact(List.getElem?_eq_some_iff.1 hi).1);rw[List.getElem?_set_self a2,List.getElem?_map,hi];rfl
    · rw[List.getElem?_set_ne e]
   rw[e];exact h.nd
theorem LG.k (h:LG w F0 F bs L own W) (hi:own[i]?=some (b,t,cs)):W.heap[b]?=some (.cells cs t (0,0)):=h.blk _ (List.mem_of_getElem? hi)
theorem LG.new (h:LG w F0 F bs L own W) {w0:World} (h0:New w0 w) (hF:∀b,F0 b->w0.heap.size<=b) (hb:w0.heap.size<=bs):New w0 W:=h0.then h.st.upd (fun b hb2 hh=>hh.elim (fun hf=>by have:=hF b hf;omega) (fun e=>by omega))
theorem LN.po_step (hl:LN (PO F bs own) W A n c x) (st:Step F F' bs W W'):LN (PO F' bs own) W' A n c x:=
 ((hl.mono (Q':=fun b=>PO F bs own b/\b<W.heap.size) (fun b hb hq=>⟨hq,hb⟩)).upd st.upd (fun b hq h=>h.elim hq.1.1.1 hq.1.1.2)).mono (fun b _ hq=>⟨⟨fun hf=>(st.sub b hf).elim hq.1.1.1 (fun h=>by omega),hq.1.1.2⟩,hq.1.2⟩)
theorem LN.po_new (hl:LN (PO F bs own) W A n c x) (hu:New W W'):LN (PO F bs own) W' A n c x:=hl.po_step (Step.of_new hu)
theorem LN.po_bs (hl:LN (PO F bs own) W A n c x) (hu:Upd (fun b=>b=bs) W W'):LN (PO F bs own) W' A n c x:=hl.upd hu (fun b hq e=>hq.1.2 e)
theorem LN.po_alloc (hl:LN (PO F bs own) W A n c x) (cs:Array Value) (t:Nat):LN (PO F bs ((W.heap.size,t,cs) :: own)) (W.alloc (.cells cs t)) A n c x:=
 ((hl.mono (Q':=fun b=>PO F bs own b/\b<W.heap.size) (fun b hb hq=>⟨hq,hb⟩)).new (zU _ _ _)).mono (fun b _ hq=>⟨hq.1.1,fun y hy e=>by
   rcases List.mem_cons.1 hy with rfl|hy
   · have e:b=W.heap.size:=e;omega
   · exact hq.1.2 y hy e⟩)
theorem LN.po_set (hl:LN (PO F bs own) W A n c x) (hi:own[i]?=some (b,t,cs)) (hu:Upd (fun c=>c=b) W W'):LN (PO F bs (own.set i (b,t,cs'))) W' A n c x:=
 (hl.upd hu (fun y hq e=>hq.2 _ (List.mem_of_getElem? hi) e)).mono (fun y _ hq=>⟨hq.1,fun z hz=>by
   obtain⟨j,hj⟩:=List.getElem?_of_mem hz;by_cases e:i=j
   · subst e;have hlt:i<own.length:=(List.getElem?_eq_some_iff.1 hi).1;rw[List.getElem?_set_self hlt]at hj;cases hj;exact(show y≠b from hq.2 (b,t,cs) (List.mem_of_getElem? hi))
   · rw[List.getElem?_set_ne e]at hj;exact hq.2 _ (List.mem_of_getElem? hj)⟩)
theorem LN.po_of (hl:LN (NB W) W' A n c x) (h:LG w F0 F bs L own W):LN (PO F bs own) W' A n c x:=hl.mono (fun b _ hb=>by
 have hb:W.heap.size<=b:=hb;exact⟨h.sf.off_new hb,fun y hy e=>by have:=h.lt hy;omega⟩)
theorem LN.po_off (hl:LN (PO F bs own) W A n c x):LN (fun b=>b≠bs) W A n c x:=hl.mono (fun b _ hb=>hb.1.2)
end
end Gz

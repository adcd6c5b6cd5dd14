/- Part of the proof. -/
import Derived.Test.YtbhnjkegkadodaaGreatDoorG04
import Derived.Test.YtbhnjkegkadodaaGreatDoorG05
import Derived.StillTailTactics
set_option linter.all false
set_option maxRecDepth 100000
set_option maxHeartbeats 8000000
namespace Gz
open Go Go.RowKit Go.Proofs Gn
theorem cast_div_pow (a n:Nat):(a:Int) / 2 ^ n=((a / 2 ^ n:Nat):Int):=by norm_cast
theorem cast_mul_pow (a n:Nat):(a:Int)*2 ^ n=((a*2 ^ n:Nat):Int):=by norm_cast
theorem Div64_c (hi lo y z t:Nat) (hlo:lo<B) (hy:hi<y) (hyB:y<B) (hz:z=(hi*B+lo) / y) (ht:t=(hi*B+lo) % y) (w:World):
 Calls Tryz.prog 212 #[.int .u64 (hi:Int),.int .u64 (lo:Int),.int .u64 (y:Int)] w fun e w'=>e=.returned (.tuple #[.int .u64 (z:Int),.int .u64 (t:Int)])/\∃q,w'=w.drewN q:=by
 rcases Nat.eq_zero_or_pos hi with h0|h0
 · subst h0;rw[Nat.zero_mul,Nat.zero_add]at hz ht;exact Div64_low lo y z t hlo hy hz ht w
 · obtain⟨a1,a5⟩:=lead_bounds (by omega:0<y) hyB;have b9:=(zbg (by omega:0<y) hyB)
   obtain⟨s,hs⟩:=zE (64-Lib.bitLen y);have a2:s<=64:=by omega
   rw[<-hs]at a1 a5;obtain⟨Y,hY⟩:=zE (y*2 ^ s);rw[<-hY]at a1 a5;have h2:=two_pos s;have c6:hi*2 ^ s<Y:=by rw[hY];exact Nat.mul_lt_mul_of_pos_right hy h2
   have a6:=shr_lt a2 hlo;obtain⟨U,hU⟩:=zE (hi*2 ^ s+lo / 2 ^ (64-s));obtain⟨L,hL⟩:=zE (lo*2 ^ s % B);have a7:L<B:=hL▸Nat.mod_lt _ B_pos;have a8:=shl_split (a:=lo) a2;rw[<-hL]at a8;have b5:U<Y:=by
    have h1:(hi+1)*2 ^ s<=y*2 ^ s:=Nat.mul_le_mul_right _ hy;rw[Nat.add_mul,<-hY]at h1;omega
   have a3:U*B+L=(hi*B+lo)*2 ^ s:=by
    rw[hU,Nat.add_mul,Nat.add_mul,<-a8];have:hi*2 ^ s*B=hi*B*2 ^ s:=(by rw[Nat.mul_assoc,Nat.mul_comm (2 ^ s),Nat.mul_assoc]);have h3:lo / 2 ^ (64-s)*B=B*(lo / 2 ^ (64-s)):=Nat.mul_comm _ _;omega
   have a9:(hi*2 ^ s % B) ||| (lo / 2 ^ (64-s))=U:=by
    rw[Nat.or_comm,or_add a2 a6,Nat.mod_eq_of_lt (by omega),hU,Nat.add_comm]
   have d5:U<B:=by omega
   have a4:lo / 2 ^ (64-s)<B:=by omega
   have b6:hi*2 ^ s % B<B:=Nat.mod_lt _ B_pos;have w1:∀a:Nat,IntKind.u64.wrap ((a:Int)*2 ^ s)=((a*2 ^ s % B:Nat):Int):=fun a=>by
    rw[IntKind.wrap_u64];have:((a:Int)*2 ^ s)=((a*2 ^ s:Nat):Int):=cast_mul_pow _ _;rw[this];unfold B;omega
   refine(Div64_high hi lo y s Y (Y / 4294967296) (Y % 4294967296) U L (L / 4294967296) (L % 4294967296) h0 hlo hy hyB ?_ (by omega) ?_ (by omega) ?_ ?_ ?_ ?_ ?_ ?_ (by omega) ?_ ?_ ?_ b5 ?_ a1 ?_ hY z t hz ht w).mono fun e w' h=>⟨h.1,0,h.2.symm⟩
   · rw[IntKind.wrap_u64];omega
   · rw[w1,<-hY,Nat.mod_eq_of_lt a1]
   · rw[Mul64.maskN Y a1]
   · unfold B at a5;omega
   · unfold B at a1;omega
   · omega
   · refine Eq.trans ?_ (congrArg (fun n:Nat=>(n:Int)) a9)
     refine Eq.trans ?_ (u64_or_nat _ _ b6 a4)
     exact congr (congrArg (bits .or .u64) (w1 hi)) (cast_div_pow lo (64-s))
   · rw[w1,hL]
   · rw[Mul64.maskN L a7]
   · unfold B at a7;omega
   · omega
   · unfold H32;omega
   · rw[<-a3];unfold H32 B;omega
theorem short_c {A:Option Addr} {n c b:Nat} {a:List Nat} {w:World} (ha:NatV 22 w A n c a) (hb:0<b) (hbB:b<B) (hn:n<=268435456):
 Calls Tryz.prog 148 #[.slice A n c,.int .u64 (b:Int)] w fun e w'=>∃R m d l,e=.returned (.tuple #[.slice R m d,.int .u64 ((val a % b:Nat):Int)])/\NatV 22 w' R m d l/\Gn.Norm l/\val l=val a / b/\Below w.heap.size w w'/\NewA w R:=by
 obtain⟨i0,c6,d0,d5,d6⟩:=info_parts info22;have b9:∀W:World,(Instr.makeSlice 24 (.int .i64 (n:Int)) (.int .i64 (n:Int))).run Tryz.prog W=.ok (.slice (some ⟨W.heap.size,0,none⟩) n n) (W.alloc (.cells ((List.replicate n 0).map Gn.u64).toArray 22)):=fun W=>
  run_make_limbs (P:=Tryz.prog) 24 22 i0 Tryz.underlying24 c6 d0 d5 d6 n (by omega) W
 obtain⟨Z,hZ⟩:=zE (val a % b);rw[<-hZ];have HZ:=Lib.hid hZ;have HA:=Lib.hid ha;have a4:=Lib.hid ha.len;have La:=Lib.hid ha.lim;clear hZ ha;go_enter Tryz.func148,Tryz.ntmps148;go_wp2;clear b9
 go_loopw [7,8] (fun rs i wr=>∃(k r:Nat) (o:List Nat),k<=n/\i=.int .i64 ((k:Int)-1)/\rs=.int .u64 (r:Int)/\LB 22 wr w.heap.size o/\Hid (r<b/\o.length=n/\Lim o)/\Hid (val (o.drop k)*b+r=val (a.drop k))/\Below w.heap.size w wr) (fun _ i _=>(intOf i+1).toNat)
 case atStart=>exact⟨n,0,List.replicate n 0,zR _,rfl,rfl,LB.zeros _ _ _,Lib.hid ⟨hb,by simp,Lim.zeros _⟩,Lib.hid (by rw[List.drop_eq_nil_of_le (by simp),List.drop_eq_nil_of_le (by rw[a4.out];omega)];simp),(Below.refl _ _).alloc (zR _) _⟩
 case round=>
  obtain⟨k,r,o,hk,rfl,rfl,a1,ho,hv,a6⟩:=hrel;by_cases h0:0<k
  · obtain⟨b1,o1,rfl,_⟩:=HA.out.row (by omega);have a5:k-1<a.length:=(by rw[a4.out];omega);have a7:k-1<o.length:=(by rw[ho.out.2.1];omega);have a8:=(HA.out.below a6).cell rfl (k-1) a5;have c5:=a1.cell (k-1) a7;have e6:=a1.frozen (k-1);have d9:w.heap.size<wr.heap.size:=a1.lt;obtain⟨p,hp⟩:=zE (a[k-1]);simp only[Gn.u64]at a8 c5;rw[<-hp]at a8;have a9:p<B:=hp▸La.out.get (k-1) a5;obtain⟨z,hz⟩:=zE ((r*B+p) / b);obtain⟨t,ht⟩:=zE ((r*B+p) % b);have b0:z<B:=by
     rw[hz];refine Nat.div_lt_of_lt_mul ?_
     have:=Nat.mul_le_mul_right B ho.out.1;rw[Nat.succ_mul]at this;omega
    have b5:t<b:=ht▸Nat.mod_lt _ hb;have b6:z*b+t=r*B+p:=(by rw[hz,ht,Nat.mul_comm];exact Nat.div_add_mod _ _);have C:=Lib.hid (Div64_c r p b z t a9 ho.out.1 hbB hz ht);have HP:=Lib.hid hp;have ZB:=Lib.hid b0;have TB:=Lib.hid b5;have ZT:=Lib.hid b6;have hi:((k:Int)-1).toNat=k-1:=(by omega);clear hp b0 b5 b6 hz ht a9
    go_wp2_with (go_at_call 212;refine(C.out _).mono ?_;rintro e w2 ⟨rfl,q,rfl⟩)
    go_roundw
    case rel=>
     refine⟨k-1,t,o.set (k-1) z,by omega,by congr 1;omega,rfl,(a1.drewN q).set (k-1) z,Lib.hid ⟨TB.out,by simp[ho.out.2.1],ho.out.2.2.set _ _ ZB.out⟩,Lib.hid ?_,(below_drewN a6 _).setCell (p:=⟨w.heap.size,k-1,none⟩) (zR _) _⟩;rw[List.drop_eq_getElem_cons (show k-1<(o.set (k-1) z).length by simpa using a7),List.drop_eq_getElem_cons a5,show k-1+1=k by omega,List.drop_set_of_lt (by omega),List.getElem_set_self];simp only[val_cons];rw[<-HP.out,<-hv.out,Nat.add_mul,Nat.mul_add,Nat.mul_assoc,Nat.mul_comm B r];have:=ZT.out;omega
    case measure=>simp[intOf];omega
  · obtain rfl:k=0:=(by omega);have nv:NatV 22 wr (some ⟨w.heap.size,0,none⟩) n n o:=a1.natV ho.out.2.2 ho.out.2.1 (zR _) (by simp[maxLen];omega);have NV:=Lib.hid nv;clear nv;have a2:=hv.out;simp only[List.drop_zero]at a2;have hq:val a / b=val o:=(by rw[<-a2,Nat.mul_comm,Nat.mul_add_div hb,Nat.div_eq_of_lt ho.out.1,Nat.add_zero]);have hr:Z=r:=(by rw[HZ.out,<-a2,Nat.mul_comm,Nat.mul_add_mod,Nat.mod_eq_of_lt ho.out.1]);subst hr;have HQ:=Lib.hid hq;clear hq a2
    go_wp2_with (go_at_call 81;refine(zbb NV.out).mono ?_;rintro e w' ⟨rfl,rfl⟩)
    go_ret2
    exact⟨_,_,_,_,rfl,NV.out.trim,norm_trim _,by rw[val_trim,HQ.out],a6,NewA.mk (zR _)⟩
theorem below_only {a w:World} {row:Option Nat} (h:a.grownBy w row):a.grownBy w.drew row:=⟨h.os,h.tape,h.output,h.size,h.block⟩
theorem wrap_shl (a s:Nat):IntKind.u64.wrap ((a:Int)*2 ^ s)=((a*2 ^ s % B:Nat):Int):=by
 rw[cast_mul_pow,IntKind.wrap_u64];unfold B;omega
theorem left_c {A:Option Addr} {n c s:Nat} {a:List Nat} {w:World} (ha:NatV 22 w A n c a) (hs:s<=63) (hn:n<=268435456):
 Calls Tryz.prog 246 #[.slice A n c,.int .i64 (s:Int)] w fun e w'=>∃g o,e=.returned (.slice (some ⟨g,0,none⟩) (n+1) (n+1))/\w.heap.size<=g/\LB 22 w' g o/\o.length=n+1/\Lim o/\val o=val a*2 ^ s/\Below w.heap.size w w':=by
 obtain⟨i0,e6,e7,e8,e9⟩:=info_parts info22;have e0:∀W:World,(Instr.makeSlice 24 (.int .i64 ((n:Int)+1)) (.int .i64 ((n:Int)+1))).run Tryz.prog W=.ok (.slice (some ⟨W.heap.size,0,none⟩) (n+1) (n+1)) (W.alloc (.cells ((List.replicate (n+1) 0).map Gn.u64).toArray 22)):=fun W=>
  run_make_limbs (P:=Tryz.prog) 24 22 i0 Tryz.underlying24 e6 e7 e8 e9 (n+1) (by omega) W
 have HA:=Lib.hid ha;have a6:=Lib.hid ha.len;have La:=Lib.hid ha.lim;have a1:s<=64:=by omega
 clear ha;go_enter Tryz.func246,Tryz.ntmps246;go_wp2;clear e0;have e1:min s 64=s:=by omega
 go_loopw [13] (fun i wr=>∃(k:Nat) (o:List Nat),k<=n/\i=.int .i64 (k:Int)/\LB 22 wr w.heap.size o/\Hid (o.length=n+1/\Lim o/\∀h:k<o.length,o[k]<2 ^ s)/\Hid (val (o.take (k+1))=val (a.take k)*2 ^ s)/\Below w.heap.size w wr) (fun i _=>n-(intOf i).toNat)
 case atStart=>exact⟨0,List.replicate (n+1) 0,Nat.zero_le _,rfl,LB.zeros _ _ _,Lib.hid ⟨by simp,Lim.zeros _,by intro h;simp;exact two_pos s⟩,Lib.hid (by simp),(Below.refl _ _).alloc (zR _) _⟩
 case round=>
  obtain⟨k,o,hk,rfl,a2,ho,hv,b6⟩:=hrel;by_cases h0:k<n
  · obtain⟨b1,o1,rfl,d5⟩:=HA.out.row (by omega);have f8:=d5.lt;have f9:¬b1=w.heap.size:=(by omega);clear d5;have a9:k<a.length:=(by rw[a6.out];omega);have a4:k<o.length:=(by rw[ho.out.1];omega);have a7:k+1<o.length:=(by rw[ho.out.1];omega);have b0:=(HA.out.below b6).cell rfl k a9;obtain⟨x,hx⟩:=zE (a[k]);obtain⟨y,hy⟩:=zE (o[k]);have b7:=a2.cell k a4;have b8:x<B:=hx▸La.out.get k a9;have a5:y<2 ^ s:=hy▸ho.out.2.2 a4;obtain⟨r,hr⟩:=zE (y+x*2 ^ s % B);have b9:r<B:=hr▸or_lt a1 a5;obtain⟨z,hz⟩:=zE (x / 2 ^ (64-s));have c5:z<2 ^ s:=hz▸shr_lt a1 b8;have b5:2 ^ s<=B:=(by rw[B_two];exact Nat.pow_le_pow_right (by omega) a1);have e3:bits .or .u64 (y:Int) (IntKind.u64.wrap ((x:Int)*2 ^ s))=(r:Int):=by
     rw[wrap_shl,u64_or_nat y (x*2 ^ s % B) (zqL a5 b5) (Nat.mod_lt _ B_pos),or_add a1 a5,hr]
    have e4:(x:Int) / 2 ^ (64-s)=(z:Int):=(by rw[cast_div_pow,hz]);have a3:=a2.set k r;have c6:=a2.cell (k+1) a7;have g0:=a2.frozen k;have f2:=a3.frozen (k+1);have f3:w.heap.size<wr.heap.size:=a2.lt;simp only[Gn.u64]at b0 b7 c6;rw[<-hx]at b0;rw[<-hy]at b7;have f4:(wr.setCell ⟨w.heap.size,k,none⟩ (.int .u64 (r:Int))).cell? ⟨b1,o1+k,none⟩=some (.int .u64 (x:Int)):=(World.cell?_setCell_other _ _ _ _ (fun e=>by injection e with e;omega)).trans b0;have HX:=Lib.hid hx;have HY:=Lib.hid hy;have HR:=Lib.hid hr;have HZ:=Lib.hid hz;have RB:=Lib.hid b9;have ZS:=Lib.hid c5;have PS:=Lib.hid b5;have e2:=Lib.hid a3;clear hx hy hr hz b9 c5 b5 b8 a5 a3;go_wp2
    go_region
    all_goals
     go_wp2
     go_roundw
     case rel=>
      have d0:=(e2.out.drew).set (k+1) z;refine⟨k+1,(o.set k r).set (k+1) z,by omega,by go_num,d0,Lib.hid ⟨by simp[ho.out.1],(ho.out.2.1.set _ _ RB.out).set _ _ (zqL ZS.out PS.out),fun h=>by rw[List.getElem_set_self];exact ZS.out⟩,Lib.hid ?_,((below_drewN b6 1).setCell (p:=⟨w.heap.size,k,none⟩) (zR _) _).setCell (p:=⟨w.heap.size,k+1,none⟩) (zR _) _⟩;have h3:=hv.out;rw[zag o k a4,<-HY.out]at h3;have h5:=congrArg (B ^ k * ·) (shl_split (a:=x) a1);simp only[Nat.mul_add]at h5;rw[zai _ _ _ (by simpa using a7),zai _ _ _ a4,zag a k a9,<-HX.out,HR.out,Nat.add_mul,Nat.mul_add,Nat.pow_succ,Nat.mul_assoc (B ^ k) B,HZ.out,Nat.mul_assoc (B ^ k) x];omega
     case measure=>simp[intOf];omega
  · obtain rfl:k=n:=(by omega);go_wp2;go_ret;refine⟨_,o,rfl,zR _,a2,ho.out.1,ho.out.2.1,?_,b6⟩;have h3:=hv.out
    rwa [zaf (l:=o) (by rw[ho.out.1];omega),zaf (l:=a) (by rw[a6.out];omega)]at h3
theorem right_c {g n c s:Nat} {a:List Nat} {w:World} (ha:LP 22 w g a) (hal:Lim a) (hn:a.length=n) (hs:s<=63) (hnb:n<=536870912) (hc:n<=c) (hcm:c<=maxLen):
 Calls Tryz.prog 249 #[.slice (some ⟨g,0,none⟩) n c,.int .i64 (s:Int)] w fun e w'=>∃R m d l,e=.returned (.slice R m d)/\NatV 22 w' R m d l/\Gn.Norm l/\val l=val a / 2 ^ s/\w.grownBy w' (some g)/\∀a,R=some a->a.block=g:=by
 have HA:=Lib.hid ha;have a1:=Lib.hid hn;have La:=Lib.hid hal;have HC:=Lib.hid hc;have e8:=Lib.hid hcm;have a8:s<=64:=by omega
 have e1:min s 64=s:=by omega
 clear ha hn hal hc hcm;go_enter Tryz.func249,Tryz.ntmps249;go_wp2
 go_loopw [8] (fun i wr=>∃(k:Nat) (o:List Nat),k<=n/\i=.int .i64 (k:Int)/\LP 22 wr g o/\Hid (o.length=n/\Lim o/\∀j,k<=j->∀(h:j<o.length) (h':j<a.length),o[j]=a[j])/\Hid (val (o.take k)+B ^ k*(val (a.drop k) / 2 ^ s)=val a / 2 ^ s)/\Hid (w.grownBy wr (some g))) (fun i _=>n-(intOf i).toNat)
 case atStart=>exact⟨0,a,Nat.zero_le _,rfl,HA.out,Lib.hid ⟨a1.out,La.out,fun _ _ _ _=>rfl⟩,Lib.hid (by simp),Lib.hid (World.grownBy.refl _ _)⟩
 case round=>
  obtain⟨k,o,hk,rfl,a5,ho,hv,hg⟩:=hrel;by_cases h0:k<n
  · have b8:k<a.length:=(by rw[a1.out];omega);have a2:k<o.length:=(by rw[ho.out.1];omega);obtain⟨x,hx⟩:=zE (a[k]);have c5:o[k]=x:=(ho.out.2.2 k (zR _) a2 b8).trans hx.symm;have c6:=a5.cell k a2;have d0:x<B:=hx▸La.out.get k b8;obtain⟨z,hz⟩:=zE (x / 2 ^ s);have e4:(x:Int) / 2 ^ s=(z:Int):=(by rw[cast_div_pow,hz]);have d5:z<=x:=hz▸Nat.div_le_self _ _;have a3:=a5.set k z a2;have g6:=a5.frozen k;have f8:=a3.frozen k;have a9:=a3.cell k (by simpa using a2);rw[List.getElem_set_self]at a9;have f9:g<wr.heap.size:=a5.lt;simp only[Gn.u64]at c6 a9;rw[c5]at c6;have HX:=Lib.hid hx;have HZ:=Lib.hid hz;have d6:=Lib.hid a3;have XB:=Lib.hid d0;have ZX:=Lib.hid d5;clear hx c5 hz a3 d0 d5;have a7:a.drop k=x :: a.drop (k+1):=(by rw[List.drop_eq_getElem_cons b8,<-HX.out]);have HD:=Lib.hid a7;clear a7;by_cases h1:k+1<n
    · have b0:k+1<a.length:=(by rw[a1.out];omega);have b5:k+1<o.length:=(by rw[ho.out.1];omega);obtain⟨y,hy⟩:=zE (a[k+1]);have b6:=a5.cell (k+1) b5;rw[(ho.out.2.2 (k+1) (by omega) b5 b0).trans hy.symm]at b6;simp only[Gn.u64]at b6;obtain⟨r,hr⟩:=zE (z+y*2 ^ (64-s) % B);have b9:z<2 ^ (64-s):=by
       rw[HZ.out];refine Nat.div_lt_of_lt_mul ?_
       rw[Nat.mul_comm,B_split a8];exact XB.out
      have b7:64-s<=64:=(by omega);have d7:r<B:=hr▸or_lt b7 b9;have d8:z<B:=Nat.lt_of_le_of_lt ZX.out XB.out;have e3:bits .or .u64 (z:Int) (IntKind.u64.wrap ((y:Int)*2 ^ (64-s)))=(r:Int):=by
       rw[wrap_shl,u64_or_nat z (y*2 ^ (64-s) % B) d8 (Nat.mod_lt _ B_pos),or_add b7 b9,hr]
      have e5:min (64-s) 64=64-s:=(by omega);have a4:a.drop (k+1)=y :: a.drop (k+2):=(by rw[List.drop_eq_getElem_cons b0,<-hy]);have f2:=Lib.hid a4;have HR:=Lib.hid hr;have RB:=Lib.hid d7;clear hy hr d7 d8 b9 a4;go_wp2
      go_region
      all_goals
       go_wp2
       go_roundw
       case rel=>
        have d9:=(d6.out.set k r (by simpa using a2)).drewN 1;refine⟨k+1,(o.set k z).set k r,by omega,by go_num,d9,Lib.hid ⟨by simp[ho.out.1],(ho.out.2.1.set _ _ (Nat.lt_of_le_of_lt ZX.out XB.out)).set _ _ RB.out,fun j hj h h'=>?_⟩,Lib.hid ?_,Lib.hid (below_only (zao (zao hg.out rfl _) rfl _))⟩
        · rw[List.getElem_set_ne (by omega),List.getElem_set_ne (by omega)];exact ho.out.2.2 j (by omega) (by simpa using h) h'
        · rw[zai _ _ _ (by simpa using a2),List.take_set_of_le (zR _),<-hv.out,HD.out,val_cons,shr_step a8,f2.out,val_cons,shr_low,<-HZ.out,<-HR.out,Nat.pow_succ];simp only[Nat.mul_add,Nat.mul_assoc];omega
       case measure=>simp[intOf];omega
    · go_wp2
      go_roundw
      case rel=>
       have f3:a.drop (k+1)=[]:=List.drop_eq_nil_of_le (by rw[a1.out];omega);refine⟨k+1,o.set k z,by omega,by go_num,d6.out,Lib.hid ⟨by simp[ho.out.1],ho.out.2.1.set _ _ (Nat.lt_of_le_of_lt ZX.out XB.out),fun j hj h h'=>by have:=a1.out;omega⟩,Lib.hid ?_,Lib.hid (zao hg.out rfl _)⟩;rw[zai _ _ _ a2,<-hv.out,HD.out,f3,HZ.out];simp only[val_cons,val_nil,Nat.mul_zero,Nat.add_zero,Nat.zero_div]
      case measure=>simp[intOf];omega
  · obtain rfl:k=n:=(by omega);have nv:NatV 22 wr (some ⟨g,0,none⟩) k c o:=a5.natV ho.out.2.1 ho.out.1 HC.out e8.out;have NV:=Lib.hid nv;clear nv
    go_wp2_with (go_at_call 81;refine(zbb NV.out).mono ?_;rintro e w' ⟨rfl,rfl⟩)
    go_ret
    refine⟨_,_,_,_,rfl,NV.out.trim,norm_trim _,?_,hg.out,fun a e=>by cases e;rfl⟩;have h3:=hv.out;rw[List.drop_eq_nil_of_le (by rw[a1.out];omega),val_nil,Nat.zero_div,Nat.mul_zero,Nat.add_zero,zaf (l:=o) (by rw[ho.out.1];omega)]at h3;rw[val_trim,h3]
theorem scope_jumps {P:Program} {a:Act} {w:World} {Q:Exit->Act->World->Prop} {c rest:Code} (l:Nat) (J:Act->World->Prop) (μ:Act->World->Nat) (hf:findLabel c l=some (Code.skip.seq rest))
 (pass:∀a w,J a w->rest.wp P (Exit.jump l (fun a' w'=>J a' w'/\μ a' w'<μ a w) Q) a w)
 (first:(∀a w,J a w->rest.wp P (Exit.jump l J Q) a w)->c.wp P (Exit.jump l J Q) a w):(Code.scope c).wp P Q a w:=
 wp_scope_jumps l J μ hf (first fun a w h=>Code.wp_mono (fun e _ _ q=>by cases e<;>first|exact q|exact⟨q.1,q.2.1⟩) (pass a w h))
  fun a w h=>wp_seq (wp_skip (pass a w h))
def GI (t2 t1 t0 b1 b0 d r v:Nat):Prop:=d*b1+(v*B+r)=t2*B+t1/\r<B/\v<=1/\d<B/\min (B-1) (((t2*B+t1)*B+t0) / (b1*B+b0))<=d
end Gz
namespace Gz
open Go Go.RowKit Go.Proofs Gn
section
variable {t2 t1 t0 b1 b0 d r v:Nat}
theorem gi_fits (h:GI t2 t1 t0 b1 b0 d r v) (hb:0<b1) (hf:d*b0<=(v*B+r)*B+t0):d=min (B-1) (((t2*B+t1)*B+t0) / (b1*B+b0)):=by
 refine Nat.le_antisymm (Nat.le_min.2 ⟨by have:=h.2.2.2.1;omega,?_⟩) h.2.2.2.2;rw[Nat.le_div_iff_mul_le (by have:=Nat.mul_pos hb B_pos;omega),<-h.1,Nat.mul_add,Nat.add_mul,Nat.mul_assoc];omega
theorem gi_over (h:GI t2 t1 t0 b1 b0 d r 1) (hb:0<b1) (hb0:b0<B):d=min (B-1) (((t2*B+t1)*B+t0) / (b1*B+b0)):=by
 refine gi_fits h hb ?_
 have h1:d*b0<=B*B:=Nat.mul_le_mul (Nat.le_of_lt h.2.2.2.1) (Nat.le_of_lt hb0);rw[Nat.one_mul,Nat.add_mul];omega
theorem gi_step (h:GI t2 t1 t0 b1 b0 d r 0) (hb:0<b1) (hf:r*B+t0<d*b0) {s c:Nat} (hs:s+B*c=r+b1) (hsB:s<B) (hc:c<=1):1<=d/\GI t2 t1 t0 b1 b0 (d-1) s c:=by
 obtain⟨h1,h2,h3,h4,h5⟩:=h;have a2:0<b1*B+b0:=by have:=Nat.mul_pos hb B_pos;omega
 have a1:((t2*B+t1)*B+t0) / (b1*B+b0)<d:=by
  rw[Nat.div_lt_iff_lt_mul a2,<-h1,Nat.mul_add,Nat.add_mul,Nat.mul_assoc,Nat.zero_mul,Nat.zero_add];omega
 have hd:1<=d:=Nat.lt_of_le_of_lt (Nat.zero_le _) a1;refine⟨hd,?_,hsB,hc,by omega,zT (Nat.min_le_right _ _) (Nat.le_sub_one_of_lt a1)⟩;obtain⟨k,rfl⟩:∃k,d=k+1:=⟨d-1,by omega⟩
 rw[Nat.add_mul]at h1;rw[Nat.add_sub_cancel,Nat.mul_comm c B];omega
theorem gi_lt (ht2:t2<b1) (ht1:t1<B) (ht0:t0<B) (hb1:b1<B) {z t:Nat} (hz:z=(t2*B+t1) / b1) (ht:t=(t2*B+t1) % b1):GI t2 t1 t0 b1 b0 z t 0:=by
 have hb:0<b1:=by omega
 have a1:z<B:=by
  rw[hz];refine Nat.div_lt_of_lt_mul ?_
  have:=Nat.mul_le_mul_right B ht2;rw[Nat.succ_mul]at this;omega
 refine⟨?_,Nat.lt_trans (ht▸Nat.mod_lt _ hb) hb1,by omega,a1,zT (Nat.min_le_right _ _) ?_⟩
 · rw[hz,ht,Nat.zero_mul,Nat.zero_add,Nat.mul_comm];exact Nat.div_add_mod _ _
 · rw[hz,Nat.le_div_iff_mul_le hb];obtain⟨Q,hQ⟩:=zE (((t2*B+t1)*B+t0) / (b1*B+b0));rw[<-hQ];have h1:=Nat.div_mul_le_self ((t2*B+t1)*B+t0) (b1*B+b0);rw[<-hQ,Nat.mul_add,<-Nat.mul_assoc]at h1;have h2:Q*b1*B<(t2*B+t1+1)*B:=by rw[Nat.add_mul (t2*B+t1)];omega
   have:=Nat.lt_of_mul_lt_mul_right h2;omega
theorem gi_eq {s c:Nat} (hs:s+B*c=t1+b1) (hsB:s<B) (hc:c<=1):GI b1 t1 t0 b1 b0 (B-1) s c:=by
 refine⟨?_,hsB,hc,by have:=B_pos;omega,Nat.min_le_left _ _⟩;rw[Nat.mul_comm c,Nat.sub_mul,Nat.one_mul,Nat.mul_comm b1 B];have:b1<=B*b1:=Nat.le_mul_of_pos_left _ B_pos;omega
end
end Gz
namespace Gz
open Go Go.RowKit Go.Proofs Gn
def GJ (t2 t1 t0 b1 b0:Nat) (w:World) (a:Act) (w':World):Prop:=∃(d r v:Nat) (u8 u9 u10 u11 u12 u13 u14 u15 u16 u17 u18 u19 u20 u21 u22 u23 u24 u25 u26 u27 u28 u29 u30 u31 u32 u33 u34 u35 u36 u37 u38 u39 u40 u41 u42 u43 u44 u45 u46 u47 u48 u49 u50 u51 u52 u53 u54 u55 u56 u57 u58 u59 u60 u61 u62 u63 u64 u65 u66 u67 u68 v0 v1:Value),a = { tmps:=#[v0,v1,.pointer (some ⟨w.heap.size,0,none⟩),.pointer (some ⟨w.heap.size+1,0,none⟩),.int .u64 0,.int .u64 (d:Int),.int .u64 (r:Int),.int .u64 (v:Int),u8,u9,u10,u11,u12,u13,u14,u15,u16,u17,u18,u19,u20,u21,u22,u23,u24,u25,u26,u27,u28,u29,u30,u31,u32,u33,u34,u35,u36,u37,u38,u39,u40,u41,u42,u43,u44,u45,u46,u47,u48,u49,u50,u51,u52,u53,u54,u55,u56,u57,u58,u59,u60,u61,u62,u63,u64,u65,u66,u67,u68],defers:=[] }/\GI t2 t1 t0 b1 b0 d r v /\
 ∃q,w'=((w.alloc (.cells #[.int .u64 (t2:Int),.int .u64 (t1:Int),.int .u64 (t0:Int)] 336)).alloc (.cells #[.int .u64 (b1:Int),.int .u64 (b0:Int)] 338)).drewN q
theorem guess_c (t2 t1 t0 b1 b0 Z:Nat) (ht2:t2<=b1) (ht1:t1<B) (ht0:t0<B) (hb1:b1<B) (hb0:b0<B) (hb:0<b1) (hZ:Z=min (B-1) (((t2*B+t1)*B+t0) / (b1*B+b0))) (w:World):
 Calls Tryz.prog 247 #[.agg #[.int .u64 (t2:Int),.int .u64 (t1:Int),.int .u64 (t0:Int)],.agg #[.int .u64 (b1:Int),.int .u64 (b0:Int)]] w fun e w'=>e=.returned (.int .u64 (Z:Int))/\Below w.heap.size w w':=by
 have HZ:=Lib.hid hZ;clear hZ;go_enter Tryz.func247,Tryz.ntmps247;go_wp2;refine scope_jumps 0 (GJ t2 t1 t0 b1 b0 w) (fun a' _=>(intOf (a'.tmps.getD 5 undef)).toNat) rfl ?_ ?_
 · rintro a' w' ⟨d,r,v,u8,u9,f3,f4,f5,f6,f7,f8,f9,g0,g1,g2,g3,g4,g5,g6,g7,g8,g9,h0,h3,h4,h5,h6,h7,h8,h9,i0,i1,i3,i4,i5,i6,i7,i9,j0,j1,j3,j4,j5,j6,j7,j8,j9,k0,k2,k3,k4,k5,k6,k7,k8,k9,l0,l1,l2,u64,l3,l4,l5,l6,v0,v1,rfl,hI,q,rfl⟩;have e9:=hI.2.2.1;have b5:=hI.2.2.2.1;have c5:=hI.2.1;have HI:=Lib.hid hI;clear hI;obtain⟨hi,lo,b7,a7,e6,e7⟩:=mul64_ex d b0 b5 hb0;obtain⟨s1,c1,a6,a8,b8,e0⟩:=add64_z r b1 c5 hb1;have a5:=Lib.hid b7;clear b7;have f0:d<=18446744073709551615:=by unfold B at b5;omega
   rcases Nat.lt_or_ge 0 v with hv|hv
   · obtain rfl:v=1:=(by omega);have hz:=gi_over HI.out hb hb0;rw[<-HZ.out]at hz;subst hz;clear a6 a8 a7;go_wp2;simp only[Exit.jump];go_ret;exact⟨rfl,below_drewN (((Below.refl _ _).alloc (zR _) _).alloc (by simp) _) _⟩
   · obtain rfl:v=0:=(by omega);have stop:¬r*B+t0<d*b0->Z=d:=fun h=>(by rw[HZ.out];exact(gi_fits HI.out hb (by rw[Nat.zero_mul,Nat.zero_add];omega)).symm);have a1:r*B+t0<d*b0 → 1<=d/\GI t2 t1 t0 b1 b0 (d-1) s1 c1:=fun h=>gi_step HI.out hb h a8 b8 e0;rw[<-a7]at stop a1;have ST:=Lib.hid stop;have GO:=Lib.hid a1;clear stop a1 a8 a7;rcases Nat.lt_trichotomy r hi with h1|h1|h1
     · have b6:decide (r<hi)=true:=decide_eq_true h1;have a2:=GO.out (by have:=Nat.mul_le_mul_right B h1;rw[Nat.succ_mul,Nat.mul_comm hi B]at this;omega);have d0:1<=d:=a2.1;have a3:=Lib.hid a2.2;obtain⟨k,hk⟩:=zE (d-1);rw[<-hk]at a3;have d5:(d:Int)-1=(k:Int):=(by omega);have KD:=Lib.hid (show k<d by omega);clear a2 hk
       go_wp2_with fail
       refine(a5.out _).mono ?_;rintro e w2 ⟨rfl,rfl⟩;go_wp2
       go_step3
       refine⟨rfl,⟨k,s1,c1,_,_,_,_,_,_,_,_,_,_,_,_,_,_,_,_,_,_,_,_,_,_,_,_,_,_,_,_,_,_,_,_,_,_,_,_,_,_,_,_,_,_,_,_,_,_,_,_,_,_,_,_,_,_,_,_,_,_,_,_,_,_,_,rfl,a3.out,_,rfl⟩,?_⟩;have:=KD.out;simp[intOf];omega
     · subst h1;have b6:decide (r<r)=false:=decide_eq_false (by omega);have d7:((r:Int) == (r:Int))=true:=(by simp);rcases Nat.lt_or_ge t0 lo with h2|h2
       · have d8:decide (t0<lo)=true:=decide_eq_true h2;have a2:=GO.out (by rw[Nat.mul_comm r B];omega);have d0:1<=d:=a2.1;have a3:=Lib.hid a2.2;obtain⟨k,hk⟩:=zE (d-1);rw[<-hk]at a3;have d5:(d:Int)-1=(k:Int):=(by omega);have KD:=Lib.hid (show k<d by omega);clear a2 hk
         go_wp2_with fail
         refine(a5.out _).mono ?_;rintro e w2 ⟨rfl,rfl⟩;go_wp2
         go_step3
         refine⟨rfl,⟨k,s1,c1,_,_,_,_,_,_,_,_,_,_,_,_,_,_,_,_,_,_,_,_,_,_,_,_,_,_,_,_,_,_,_,_,_,_,_,_,_,_,_,_,_,_,_,_,_,_,_,_,_,_,_,_,_,_,_,_,_,_,_,_,_,_,_,rfl,a3.out,_,rfl⟩,?_⟩;have:=KD.out;simp[intOf];omega
       · have d8:decide (t0<lo)=false:=decide_eq_false (by omega);have hz:=ST.out (by rw[Nat.mul_comm r B];omega);subst hz;clear a6
         go_wp2_with fail
         refine(a5.out _).mono ?_;rintro e w2 ⟨rfl,rfl⟩;go_wp2;simp only[Exit.jump];go_ret;exact⟨rfl,below_drewN (((Below.refl _ _).alloc (zR _) _).alloc (by simp) _) _⟩
     · have b6:decide (r<hi)=false:=decide_eq_false (by omega);have d7:((hi:Int) == (r:Int))=false:=(by rw[beq_eq_false_iff_ne];omega);have hz:=ST.out (by have:=Nat.mul_le_mul_right B h1;rw[Nat.succ_mul,Nat.mul_comm hi B]at this;omega);subst hz;clear a6
       go_wp2_with fail
       refine(a5.out _).mono ?_;rintro e w2 ⟨rfl,rfl⟩;go_wp2;simp only[Exit.jump];go_ret;exact⟨rfl,below_drewN (((Below.refl _ _).alloc (zR _) _).alloc (by simp) _) _⟩
 · intro hrest;have HR:=Lib.hid hrest;clear hrest;rcases Nat.lt_or_ge t2 b1 with hlt|hge
   · have hd:decide (b1<=t2)=false:=decide_eq_false (by omega);go_wp2
     go_quiet (fail)
     obtain⟨z,hz⟩:=zE ((t2*B+t1) / b1);obtain⟨t,ht⟩:=zE ((t2*B+t1) % b1);have C:=Lib.hid (Div64_c t2 t1 b1 z t ht1 hlt hb1 hz ht);have G:=Lib.hid (gi_lt (b0:=b0) hlt ht1 ht0 hb1 hz ht);clear hz ht
     go_wp2_with (go_at_call 212;refine(C.out _).mono ?_;rintro e w2 ⟨rfl,q,rfl⟩)
     go_step3
     simp only[Exit.then]
     go_step
     exact HR.out _ _ ⟨z,t,0,_,_,_,_,_,_,_,_,_,_,_,_,_,_,_,_,_,_,_,_,_,_,_,_,_,_,_,_,_,_,_,_,_,_,_,_,_,_,_,_,_,_,_,_,_,_,_,_,_,_,_,_,_,_,_,_,_,_,_,_,_,_,_,rfl,G.out,_,rfl⟩
   · obtain rfl:t2=b1:=(by omega);have hd:decide (t2<=t2)=true:=decide_eq_true (by omega);obtain⟨s,c,a6,hs,e2,hc⟩:=add64_z t1 t2 ht1 hb1;have G:Hid (GI t2 t1 t0 t2 b0 18446744073709551615 s c):=gi_eq hs e2 hc;clear hs;go_wp2
     go_quiet (fail)
     go_wp2
     go_step3
     simp only[Exit.then]
     go_step
     exact HR.out _ _ ⟨18446744073709551615,s,c,_,_,_,_,_,_,_,_,_,_,_,_,_,_,_,_,_,_,_,_,_,_,_,_,_,_,_,_,_,_,_,_,_,_,_,_,_,_,_,_,_,_,_,_,_,_,_,_,_,_,_,_,_,_,_,_,_,_,_,_,_,_,_,rfl,G.out,_,rfl⟩
end Gz
namespace Gz
open Go Go.RowKit Go.Proofs Gn
section
variable {w:World} {g:Nat} {P X S:List Nat}
theorem win_cell (h:LB 22 w g (P ++ X ++ S)) (i:Nat) (hi:i<X.length):w.cell? ⟨g,P.length+i,none⟩=some (Gn.u64 X[i]):=by
 have h1:=h.cell (P.length+i) (by simp;omega);rw[h1]
 congr 2
 rw[List.getElem_append_left (by simp;omega),List.getElem_append_right (by omega)];simp
theorem win_set (h:LB 22 w g (P ++ X ++ S)) (i x:Nat) (hi:i<X.length):LB 22 (w.setCell ⟨g,P.length+i,none⟩ (Gn.u64 x)) g (P ++ X.set i x ++ S):=by
 have h1:=h.set (P.length+i) x
 rwa [List.set_append_left _ _ (by simp;omega),List.set_append_right _ _ (by omega),Nat.add_sub_cancel_left]at h1
end
end Gz
namespace Gz
open Go Go.RowKit Go.Proofs Gn
theorem take_c {g j n c d:Nat} {A':Option Addr} {c':Nat} {P X S y:List Nat} {w:World} (ha:LB 22 w g (P ++ X ++ S)) (hj:P.length=j) (hX:X.length=n+1) (hXl:Lim X) (hb:NatV 22 w A' n c' y) (hn:0<n) (hnb:n<=268435456)
 (hne:∀b off,A'=some ⟨b,off,none⟩->b≠g) (hd:d<B) (hle:d*val y<=val X+val y):
 Calls Tryz.prog 248 #[.slice (some ⟨g,j,none⟩) (n+1) c,.slice A' n c',.int .u64 (d:Int)] w fun e w'=>∃(r:Bool) (X':List Nat),e=.returned (.bool r)/\LB 22 w' g (P ++ X' ++ S)/\X'.length=n+1/\Lim X' /\
  (r=true->val X'+d*val y=val X)/\(r=false->val X<d*val y/\val X'+d*val y=val X+val y)/\w.grownBy w' (some g):=by
 subst hj;obtain⟨b2,o2,rfl,_⟩:=hb.row hn;have f9:∀w',w.grownBy w' (some g)->NatV 22 w' (some ⟨b2,o2,none⟩) n c' y:=fun w' h=>hb.grown h fun b off _ e h1=>hne b off e (by simpa using h1);have l7:=Lib.hid (hne b2 o2 rfl);have Ha:=Lib.hid ha;have HX:=Lib.hid hX;have g0:=Lib.hid hXl;have Hb:=Lib.hid f9;have i9:=Lib.hid hle;have Hd:=Lib.hid hd;have a7:=Lib.hid hb.len;have Ly:=Lib.hid hb.lim;have l9:d<=18446744073709551615:=by unfold B at hd;omega
 clear ha hX hXl hb f9 hle hne hd;go_enter Tryz.func248,Tryz.ntmps248;go_wp2
 go_loopw [7,8,16] (fun ca bo i wr=>∃(k cy br:Nat) (Z:List Nat),k<=n/\i=.int .i64 (k:Int)/\ca=.int .u64 (cy:Int)/\bo=.int .u64 (br:Int)/\br<=1/\LB 22 wr g (P ++ Z ++ S)/\Hid (cy<B/\Z.length=n+1/\Lim Z/\∀j,k<=j->∀(h:j<Z.length) (h':j<X.length),Z[j]=X[j]) /\
  Hid (val (Z.take k)+d*val (y.take k)=val (X.take k)+B ^ k*(cy+br))/\Hid (w.grownBy wr (some g))) (fun _ _ i _=>n-(intOf i).toNat)
 case atStart=>exact⟨0,0,0,X,Nat.zero_le _,rfl,rfl,rfl,by omega,Ha.out,Lib.hid ⟨B_pos,HX.out,g0.out,fun _ _ _ _=>rfl⟩,Lib.hid (by simp),Lib.hid (World.grownBy.refl _ _)⟩
 case round=>
  obtain⟨k,cy,br,Z,hk,rfl,rfl,rfl,g6,a2,hZ,hv,hg⟩:=hrel;have a8:k<Z.length:=by rw[hZ.out.2.1];omega
  have c6:k<X.length:=by rw[HX.out];omega
  have a9:=win_cell a2 k a8;have g1:=a2.frozen (P.length+k);have d9:g<wr.heap.size:=a2.lt;obtain⟨x,hx⟩:=zE (X[k]);rw[hZ.out.2.2.2 k (zR _) a8 c6,<-hx]at a9;simp only[Gn.u64]at a9;have a4:x<B:=hx▸g0.out.get k c6;have g2:=Lib.hid hx;clear hx;by_cases h0:k<n
  · have a6:k<y.length:=(by rw[a7.out];omega);have b7:=(Hb.out wr hg.out).cell rfl k a6;obtain⟨q,hq⟩:=zE (y[k]);rw[<-hq]at b7;simp only[Gn.u64]at b7;have b0:q<B:=hq▸Ly.out.get k a6;have HQ:=Lib.hid hq;clear hq;obtain⟨hi,lo,g8,k7,e7,g9⟩:=mul64_ex d q Hd.out b0;obtain⟨s1,c1,k8,k9,e8,o0⟩:=add64_z lo cy e7 hZ.out.1;obtain⟨s2,c2,f0,c5,a5,i0⟩:=sub64_ex x s1 br a4 e8 g6;have tot:s1+B*(hi+c1)=d*q+cy:=(by rw[Nat.mul_add];omega);have f4:hi+c1<B:=by
     have h1:=mul_step_fits Hd.out b0 hZ.out.1 B_pos;rcases Nat.lt_or_ge (hi+c1) B with h|h
     · exact h
     · exfalso;have:=Nat.mul_le_mul_left B h;omega
    have m0:hi+c1<=18446744073709551615:=(by unfold B at f4;omega);have j3:=Lib.hid g8;have j4:=Lib.hid tot;have CB:=Lib.hid f4;have S2:=Lib.hid c5;have b8:=Lib.hid a5;clear g8 tot f4 c5 a5 k7 k9 e7 g9 e8 b0 a4
    go_wp2_with (go_at_call 83;refine(j3.out _).mono ?_;rintro e w2 ⟨rfl,rfl⟩)
    go_roundw
    case rel=>
     refine⟨k+1,hi+c1,c2,Z.set k s2,by omega,by go_num,by go_num,rfl,i0,win_set a2 k s2 a8,Lib.hid ⟨CB.out,by simp[hZ.out.2.1],hZ.out.2.2.1.set _ _ b8.out,fun j hj h h'=>?_⟩,Lib.hid ?_,Lib.hid (zao hg.out rfl _)⟩
     · rw[List.getElem_set_ne (by omega)];exact hZ.out.2.2.2 j (by omega) (by simpa using h) h'
     · rw[zai Z k s2 a8,zag X k c6,zag y k a6,<-g2.out,<-HQ.out,Nat.pow_succ];have h3:=hv.out;have h4:=congrArg (B ^ k * ·) S2.out;have h5:=congrArg (B ^ k * ·) j4.out;simp only[Nat.mul_add]at h3 h4 h5 ⊢;rw[Nat.mul_left_comm d,Nat.mul_assoc (B ^ k) B,Nat.mul_assoc (B ^ k) B,Nat.mul_assoc (B ^ k) B];omega
    case measure=>simp[intOf];omega
  · obtain rfl:k=n:=(by omega);obtain⟨s2,c2,f0,c5,a5,i0⟩:=sub64_ex x cy br a4 hZ.out.1 g6;have g4:val (Z.set k s2)+d*val y=val X+B ^ (k+1)*c2:=by
     rw[<-zaf (show(Z.set k s2).length<=k+1 by simp[hZ.out.2.1]),zai Z k s2 a8,<-zaf (l:=X) (show X.length<=k+1 by rw[HX.out];omega),zag X k c6,<-g2.out,Nat.pow_succ];have h3:=hv.out;rw[zaf (l:=y) (by rw[a7.out];omega)]at h3;have h4:=congrArg (B ^ k * ·) c5;simp only[Nat.mul_add]at h3 h4 ⊢;rw[Nat.mul_assoc (B ^ k) B];omega
    have e1:=win_set a2 k s2 a8;have f5:=Lib.hid e1;have V2:=Lib.hid g4;have b8:=Lib.hid a5;clear e1 g4 c5 a5 a4;rcases Nat.eq_zero_or_pos c2 with hc0|hc0
    · subst hc0;go_wp2;go_ret;refine⟨true,Z.set k s2,rfl,f5.out,by simp[hZ.out.2.1],hZ.out.2.2.1.set _ _ b8.out,fun _=>by have:=V2.out;rw[Nat.mul_zero,Nat.add_zero]at this;exact this,(fun h=>by cases h),zao hg.out rfl _⟩
    · obtain rfl:c2=1:=(by omega);go_wp2;have g5:val X<d*val y:=by
       have h1:=V2.out;have h2:=val_lt (hZ.out.2.2.1.set k s2 b8.out);rw[List.length_set,hZ.out.2.1]at h2;omega
      have j6:=Lib.hid g5;obtain⟨X1,d7⟩:=zE (Z.set k s2);have e2:X1.length=k+1:=(by rw[d7];simp[hZ.out.2.1]);have e3:Lim X1:=d7▸hZ.out.2.2.1.set _ _ b8.out;have V3:=V2.out;have L3:=f5.out;rw[<-d7]at V3 L3;have j9:=Lib.hid V3;have k0:=Lib.hid L3;have b9:=Lib.hid e2;have e4:=Lib.hid e3;have G3:=Lib.hid (zao hg.out (p:=⟨g,P.length+k,none⟩) rfl (Gn.u64 s2));clear g5 d7 e2 e3 V3 L3 f0 a9 g1 d9 f5 a2
      go_loopw [7,70] (fun ca i wr=>∃(m cy:Nat) (Z:List Nat),m<=k/\cy<=1/\i=.int .i64 (m:Int)/\ca=.int .u64 (cy:Int)/\LB 22 wr g (P ++ Z ++ S)/\Hid (Z.length=k+1/\Lim Z/\∀j,m<=j->∀(h:j<Z.length) (h':j<X1.length),Z[j]=X1[j]) /\
       Hid (val (Z.take m)+B ^ m*cy=val (X1.take m)+val (y.take m))/\Hid (w.grownBy wr (some g))) (fun _ i _=>k-(intOf i).toNat)
      case atStart=>exact⟨0,0,X1,Nat.zero_le _,by omega,rfl,rfl,k0.out,Lib.hid ⟨b9.out,e4.out,fun _ _ _ _=>rfl⟩,Lib.hid (by simp),G3⟩
      case round=>
       clear hZ hv hg;obtain⟨m,cy,Z,hm,i1,rfl,rfl,a2,hZ,hv,hg⟩:=hrel;have b5:m<Z.length:=(by rw[hZ.out.1];omega);have d0:m<X1.length:=(by rw[b9.out];omega);have a9:=win_cell a2 m b5;have g1:=a2.frozen (P.length+m);have d9:g<wr.heap.size:=a2.lt;obtain⟨x1,d8⟩:∃x,x=X1[m]:=⟨_,rfl⟩
       rw[hZ.out.2.2 m (zR _) b5 d0,<-d8]at a9;simp only[Gn.u64]at a9;have a4:x1<B:=d8▸e4.out.get m d0;have e5:=Lib.hid d8;clear d8;by_cases h0:m<k
       · have a6:m<y.length:=(by rw[a7.out];omega);have b7:=(Hb.out wr hg.out).cell rfl m a6;obtain⟨q,hq⟩:=zE (y[m]);rw[<-hq]at b7;simp only[Gn.u64]at b7;have b0:q<B:=hq▸Ly.out.get m a6;have HQ:=Lib.hid hq;clear hq;obtain⟨s3,c3,k8,i3,f3,l0⟩:=add64_ex x1 q cy a4 b0 i1;have S3:=Lib.hid i3;have k2:=Lib.hid f3;clear i3 f3 a4 b0;go_wp2
         go_region
         all_goals
          go_wp2
          go_roundw
          case rel=>
           refine⟨m+1,c3,Z.set m s3,by omega,l0,by go_num,rfl,(win_set a2 m s3 b5).drewN 1,Lib.hid ⟨by simp[hZ.out.1],hZ.out.2.1.set _ _ k2.out,fun j hj h h'=>?_⟩,Lib.hid ?_,Lib.hid (below_only (zao hg.out rfl _))⟩
           · rw[List.getElem_set_ne (by omega)];exact hZ.out.2.2 j (by omega) (by simpa using h) h'
           · rw[zai Z m s3 b5,zag X1 m d0,zag y m a6,<-e5.out,<-HQ.out,Nat.pow_succ];have h3:=hv.out;have h4:=congrArg (B ^ m * ·) S3.out;simp only[Nat.mul_add]at h3 h4;rw[Nat.mul_assoc (B ^ m) B];omega
          case measure=>simp[intOf];omega
       · obtain rfl:m=k:=(by omega);obtain⟨t,ht⟩:=zE ((x1+cy) % B);have e9:IntKind.u64.wrap ((x1:Int)+(cy:Int))=(t:Int):=(by rw[ht,IntKind.wrap_u64];unfold B;omega);have f6:t<B:=ht▸Nat.mod_lt _ B_pos;have e6:val (Z.set m t)+d*val y=val X+val y:=by
          rw[<-zaf (show(Z.set m t).length<=m+1 by simp[hZ.out.1]),zai Z m t b5];have h3:=hv.out;rw[zaf (l:=y) (by rw[a7.out];omega)]at h3;have h5:=j9.out;rw[<-zaf (l:=X1) (show X1.length<=m+1 by rw[b9.out];omega),zag X1 m d0,<-e5.out,Nat.mul_one]at h5;have h6:=i9.out;have h7:=val_lt (hZ.out.2.1.take m);rw[List.length_take_of_le (by rw[hZ.out.1];omega)]at h7;obtain⟨u,hu⟩:=zE ((x1+cy) / B);have h8:t+B*u=x1+cy:=(by rw[ht,hu];exact Nat.mod_add_div _ _);have h9:=congrArg (B ^ m * ·) h8;simp only[Nat.mul_add]at h9;have m7:u<=1:=by
           rw[hu];have:x1+cy<2*B:=(by omega);have:=Nat.div_lt_of_lt_mul (by rw[Nat.mul_comm];exact this:x1+cy<B*2);omega
          rw[Nat.pow_succ]at h5;rcases Nat.eq_zero_or_pos u with h0|h0
          · exfalso
            rw[h0,Nat.mul_zero,Nat.add_zero]at h8;have k4:t+1<=B:=f6;have:=Nat.mul_le_mul_left (B ^ m) k4;rw[Nat.mul_add]at this;have k5:=congrArg (B ^ m * ·) h8;simp only[Nat.mul_add]at k5;omega
          · obtain rfl:u=1:=(by omega);simp only[Nat.mul_one]at h9;omega
         have k6:=Lib.hid e6;have TB:=Lib.hid f6;clear e6 ht f6 a4;go_wp2;go_ret;exact⟨false,Z.set m t,rfl,win_set a2 m t b5,by simp[hZ.out.1],hZ.out.2.1.set _ _ TB.out,(fun h=>by cases h),(fun _=>⟨j6.out,k6.out⟩),zao hg.out rfl _⟩
end Gz

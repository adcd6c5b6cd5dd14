/- Part of the proof. -/
import Derived.Test.YtbhnjkegkadodaaGreatDoorNDiv2
import Derived.Test.YtbhnjkegkadodaaGreatDoorG06
import Derived.StillTailTactics
set_option linter.all false
set_option maxRecDepth 100000
set_option maxHeartbeats 8000000
namespace Go.Proofs.YtbhnjkegkadodaaGreatDoor
open Go Go.RowKit Go.Proofs Gn
theorem cast_div_pow (a n:Nat):(a:Int) / 2 ^ n=((a / 2 ^ n:Nat):Int):=by norm_cast
theorem cast_mul_pow (a n:Nat):(a:Int)*2 ^ n=((a*2 ^ n:Nat):Int):=by norm_cast
theorem Div64_c (hi lo y z t:Nat) (hlo:lo<B) (hy:hi<y) (hyB:y<B) (hz:z=(hi*B+lo) / y) (ht:t=(hi*B+lo) % y) (w:World):
 Calls Tryz.prog 212 #[.int .u64 (hi:Int),.int .u64 (lo:Int),.int .u64 (y:Int)] w fun e w'=>e=.returned (.tuple #[.int .u64 (z:Int),.int .u64 (t:Int)])/\∃q,w'=w.drewN q:=by
 rcases Nat.eq_zero_or_pos hi with h0|h0
 · subst h0
   rw[Nat.zero_mul,Nat.zero_add]at hz ht
   exact Div64_low lo y z t hlo hy hz ht w
 · obtain⟨hb1,hb2⟩:=lead_bounds (by omega:0<y) hyB
   have hbl:=(zbd (by omega:0<y) hyB)
   obtain⟨s,hs⟩:∃s,s=64-Lib.bitLen y:=⟨_,rfl⟩
   have hs64:s<=64:=by omega
   rw[<-hs]at hb1 hb2
   obtain⟨Y,hY⟩:∃Y,Y=y*2 ^ s:=⟨_,rfl⟩
   rw[<-hY]at hb1 hb2
   have h2:=two_pos s
   have hhi:hi*2 ^ s<Y:=by rw[hY];exact Nat.mul_lt_mul_of_pos_right hy h2
   have hlo2:=shr_lt hs64 hlo
   obtain⟨U,hU⟩:∃U,U=hi*2 ^ s+lo / 2 ^ (64-s):=⟨_,rfl⟩
   obtain⟨L,hL⟩:∃L,L=lo*2 ^ s % B:=⟨_,rfl⟩
   have hLB:L<B:=hL▸Nat.mod_lt _ B_pos
   have hsp:=shl_split (a:=lo) hs64
   rw[<-hL]at hsp
   have hUY:U<Y:=by
    have h1:(hi+1)*2 ^ s<=y*2 ^ s:=Nat.mul_le_mul_right _ hy
    rw[Nat.add_mul,<-hY]at h1
    omega
   have hfull:U*B+L=(hi*B+lo)*2 ^ s:=by
    rw[hU,Nat.add_mul,Nat.add_mul,<-hsp]
    have:hi*2 ^ s*B=hi*B*2 ^ s:=by rw[Nat.mul_assoc,Nat.mul_comm (2 ^ s),Nat.mul_assoc]
    have h3:lo / 2 ^ (64-s)*B=B*(lo / 2 ^ (64-s)):=Nat.mul_comm _ _
    omega
   have hUor:(hi*2 ^ s % B) ||| (lo / 2 ^ (64-s))=U:=by
    rw[Nat.or_comm,or_add hs64 hlo2,Nat.mod_eq_of_lt (by omega),hU,Nat.add_comm]
   have hUB:U<B:=by omega
   have hlosm:lo / 2 ^ (64-s)<B:=by omega
   have hi2:hi*2 ^ s % B<B:=Nat.mod_lt _ B_pos
   have w1:∀a:Nat,IntKind.u64.wrap ((a:Int)*2 ^ s)=((a*2 ^ s % B:Nat):Int):=fun a=>by
    rw[IntKind.wrap_u64]
    have:((a:Int)*2 ^ s)=((a*2 ^ s:Nat):Int):=cast_mul_pow _ _
    rw[this];unfold B;omega
   refine(Div64_high hi lo y s Y (Y / 4294967296) (Y % 4294967296) U L (L / 4294967296) (L % 4294967296) h0 hlo hy hyB ?_ (by omega) ?_ (by omega) ?_ ?_ ?_ ?_ ?_ ?_ (by omega) ?_ ?_ ?_ hUY ?_ hb1 ?_ hY z t hz ht w).mono fun e w' h=>⟨h.1,0,h.2.symm⟩
   · rw[IntKind.wrap_u64];omega
   · rw[w1,<-hY,Nat.mod_eq_of_lt hb1]
   · rw[Mul64.maskN Y hb1]
   · unfold B at hb2;omega
   · unfold B at hb1;omega
   · omega
   · refine Eq.trans ?_ (congrArg (fun n:Nat=>(n:Int)) hUor)
     refine Eq.trans ?_ (u64_or_nat _ _ hi2 hlosm)
     exact congr (congrArg (bits .or .u64) (w1 hi)) (cast_div_pow lo (64-s))
   · rw[w1,hL]
   · rw[Mul64.maskN L hLB]
   · unfold B at hLB;omega
   · omega
   · unfold H32;omega
   · rw[<-hfull];unfold H32 B;omega
theorem short_c {A:Option Addr} {n c b:Nat} {a:List Nat} {w:World} (ha:NatV 22 w A n c a) (hb:0<b) (hbB:b<B) (hn:n<=268435456):
 Calls Tryz.prog 148 #[.slice A n c,.int .u64 (b:Int)] w fun e w'=>∃R m d l,e=.returned (.tuple #[.slice R m d,.int .u64 ((val a % b:Nat):Int)])/\NatV 22 w' R m d l/\Gn.Norm l/\val l=val a / b/\Below w.heap.size w w'/\NewA w R:=by
 obtain⟨i0,hi0,hz0,hz1,hz2⟩:=info_parts info22
 have hmk:∀W:World,(Instr.makeSlice 24 (.int .i64 (n:Int)) (.int .i64 (n:Int))).run Tryz.prog W=.ok (.slice (some ⟨W.heap.size,0,none⟩) n n) (W.alloc (.cells ((List.replicate n 0).map Gn.u64).toArray 22)):=fun W=>
  run_make_limbs (P:=Tryz.prog) 24 22 i0 Tryz.underlying24 hi0 hz0 hz1 hz2 n (by omega) W
 obtain⟨Z,hZ⟩:∃Z,Z=val a % b:=⟨_,rfl⟩
 rw[<-hZ]
 have HZ:=Lib.hid hZ;have HA:=Lib.hid ha;have lena:=Lib.hid ha.len;have La:=Lib.hid ha.lim
 clear hZ ha
 go_enter Tryz.func148,Tryz.ntmps148
 go_wp2
 clear hmk
 go_loopw [7,8] (fun rs i wr=>∃(k r:Nat) (o:List Nat),k<=n/\i=.int .i64 ((k:Int)-1)/\rs=.int .u64 (r:Int)/\LB 22 wr w.heap.size o/\Hid (r<b/\o.length=n/\Lim o)/\Hid (val (o.drop k)*b+r=val (a.drop k))/\Below w.heap.size w wr) (fun _ i _=>(intOf i+1).toNat)
 case atStart=>exact⟨n,0,List.replicate n 0,Nat.le_refl _,rfl,rfl,LB.zeros _ _ _,Lib.hid ⟨hb,by simp,Lim.zeros _⟩,Lib.hid (by rw[List.drop_eq_nil_of_le (by simp),List.drop_eq_nil_of_le (by rw[lena.out];omega)];simp),(Below.refl _ _).alloc (Nat.le_refl _) _⟩
 case round=>
  obtain⟨k,r,o,hk,rfl,rfl,hlb,ho,hv,hbw⟩:=hrel
  by_cases h0:0<k
  · obtain⟨b1,o1,rfl,_⟩:=HA.out.row (by omega)
    have hka:k-1<a.length:=by rw[lena.out];omega
    have hko:k-1<o.length:=by rw[ho.out.2.1];omega
    have hcx:=(HA.out.below hbw).cell rfl (k-1) hka
    have hco:=hlb.cell (k-1) hko
    have hfr:=hlb.frozen (k-1)
    have hszw:w.heap.size<wr.heap.size:=hlb.lt
    obtain⟨p,hp⟩:∃p,p=a[k-1]:=⟨_,rfl⟩
    simp only[Gn.u64]at hcx hco
    rw[<-hp]at hcx
    have hpB:p<B:=hp▸La.out.get (k-1) hka
    obtain⟨z,hz⟩:∃z,z=(r*B+p) / b:=⟨_,rfl⟩
    obtain⟨t,ht⟩:∃t,t=(r*B+p) % b:=⟨_,rfl⟩
    have hzB:z<B:=by
     rw[hz];refine Nat.div_lt_of_lt_mul ?_
     have:=Nat.mul_le_mul_right B ho.out.1
     rw[Nat.succ_mul]at this
     omega
    have htb:t<b:=ht▸Nat.mod_lt _ hb
    have hzt:z*b+t=r*B+p:=by rw[hz,ht,Nat.mul_comm];exact Nat.div_add_mod _ _
    have C:=Lib.hid (Div64_c r p b z t hpB ho.out.1 hbB hz ht)
    have HP:=Lib.hid hp;have ZB:=Lib.hid hzB;have TB:=Lib.hid htb;have ZT:=Lib.hid hzt
    have hi:((k:Int)-1).toNat=k-1:=by omega
    clear hp hzB htb hzt hz ht hpB
    go_wp2_with (go_at_call 212;refine(C.out _).mono ?_;rintro e w2 ⟨rfl,q,rfl⟩)
    go_roundw
    case rel=>
     refine⟨k-1,t,o.set (k-1) z,by omega,by congr 1;omega,rfl,(hlb.drewN q).set (k-1) z,Lib.hid ⟨TB.out,by simp[ho.out.2.1],ho.out.2.2.set _ _ ZB.out⟩,Lib.hid ?_,(below_drewN hbw _).setCell (p:=⟨w.heap.size,k-1,none⟩) (Nat.le_refl _) _⟩
     rw[List.drop_eq_getElem_cons (show k-1<(o.set (k-1) z).length by simpa using hko),List.drop_eq_getElem_cons hka,show k-1+1=k by omega,List.drop_set_of_lt (by omega),List.getElem_set_self]
     simp only[val_cons]
     rw[<-HP.out,<-hv.out,Nat.add_mul,Nat.mul_add,Nat.mul_assoc,Nat.mul_comm B r]
     have:=ZT.out
     omega
    case measure=>simp[intOf];omega
  · obtain rfl:k=0:=by omega
    have nv:NatV 22 wr (some ⟨w.heap.size,0,none⟩) n n o:=hlb.natV ho.out.2.2 ho.out.2.1 (Nat.le_refl _) (by simp[maxLen];omega)
    have NV:=Lib.hid nv;clear nv
    have hv':=hv.out
    simp only[List.drop_zero]at hv'
    have hq:val a / b=val o:=by rw[<-hv',Nat.mul_comm,Nat.mul_add_div hb,Nat.div_eq_of_lt ho.out.1,Nat.add_zero]
    have hr:Z=r:=by rw[HZ.out,<-hv',Nat.mul_comm,Nat.mul_add_mod,Nat.mod_eq_of_lt ho.out.1]
    subst hr
    have HQ:=Lib.hid hq;clear hq hv'
    go_wp2_with (go_at_call 81;refine(zax NV.out).mono ?_;rintro e w' ⟨rfl,rfl⟩)
    go_ret2
    exact⟨_,_,_,_,rfl,NV.out.trim,norm_trim _,by rw[val_trim,HQ.out],hbw,NewA.mk (Nat.le_refl _)⟩
theorem below_only {a w:World} {row:Option Nat} (h:a.grownBy w row):a.grownBy w.drew row:=⟨h.os,h.tape,h.output,h.size,h.block⟩
theorem wrap_shl (a s:Nat):IntKind.u64.wrap ((a:Int)*2 ^ s)=((a*2 ^ s % B:Nat):Int):=by
 rw[cast_mul_pow,IntKind.wrap_u64];unfold B;omega
theorem left_c {A:Option Addr} {n c s:Nat} {a:List Nat} {w:World} (ha:NatV 22 w A n c a) (hs:s<=63) (hn:n<=268435456):
 Calls Tryz.prog 246 #[.slice A n c,.int .i64 (s:Int)] w fun e w'=>∃g o,e=.returned (.slice (some ⟨g,0,none⟩) (n+1) (n+1))/\w.heap.size<=g/\LB 22 w' g o/\o.length=n+1/\Lim o/\val o=val a*2 ^ s/\Below w.heap.size w w':=by
 obtain⟨i0,hi0,hz0,hz1,hz2⟩:=info_parts info22
 have hmk:∀W:World,(Instr.makeSlice 24 (.int .i64 ((n:Int)+1)) (.int .i64 ((n:Int)+1))).run Tryz.prog W=.ok (.slice (some ⟨W.heap.size,0,none⟩) (n+1) (n+1)) (W.alloc (.cells ((List.replicate (n+1) 0).map Gn.u64).toArray 22)):=fun W=>
  run_make_limbs (P:=Tryz.prog) 24 22 i0 Tryz.underlying24 hi0 hz0 hz1 hz2 (n+1) (by omega) W
 have HA:=Lib.hid ha;have lena:=Lib.hid ha.len;have La:=Lib.hid ha.lim
 have hs64:s<=64:=by omega
 clear ha
 go_enter Tryz.func246,Tryz.ntmps246
 go_wp2
 clear hmk
 have e1:min s 64=s:=by omega
 go_loopw [13] (fun i wr=>∃(k:Nat) (o:List Nat),k<=n/\i=.int .i64 (k:Int)/\LB 22 wr w.heap.size o/\Hid (o.length=n+1/\Lim o/\∀h:k<o.length,o[k]<2 ^ s)/\Hid (val (o.take (k+1))=val (a.take k)*2 ^ s)/\Below w.heap.size w wr) (fun i _=>n-(intOf i).toNat)
 case atStart=>exact⟨0,List.replicate (n+1) 0,Nat.zero_le _,rfl,LB.zeros _ _ _,Lib.hid ⟨by simp,Lim.zeros _,by intro h;simp;exact two_pos s⟩,Lib.hid (by simp),(Below.refl _ _).alloc (Nat.le_refl _) _⟩
 case round=>
  obtain⟨k,o,hk,rfl,hlb,ho,hv,hbw⟩:=hrel
  by_cases h0:k<n
  · obtain⟨b1,o1,rfl,hrw⟩:=HA.out.row (by omega)
    have hb1:=hrw.lt
    have hne:¬b1=w.heap.size:=by omega
    clear hrw
    have hka:k<a.length:=by rw[lena.out];omega
    have hko:k<o.length:=by rw[ho.out.1];omega
    have hko1:k+1<o.length:=by rw[ho.out.1];omega
    have hcx:=(HA.out.below hbw).cell rfl k hka
    obtain⟨x,hx⟩:∃x,x=a[k]:=⟨_,rfl⟩
    obtain⟨y,hy⟩:∃y,y=o[k]:=⟨_,rfl⟩
    have hco:=hlb.cell k hko
    have hxB:x<B:=hx▸La.out.get k hka
    have hys:y<2 ^ s:=hy▸ho.out.2.2 hko
    obtain⟨r,hr⟩:∃r,r=y+x*2 ^ s % B:=⟨_,rfl⟩
    have hrB:r<B:=hr▸or_lt hs64 hys
    obtain⟨z,hz⟩:∃z,z=x / 2 ^ (64-s):=⟨_,rfl⟩
    have hzs:z<2 ^ s:=hz▸shr_lt hs64 hxB
    have hps:2 ^ s<=B:=by rw[B_two];exact Nat.pow_le_pow_right (by omega) hs64
    have e3:bits .or .u64 (y:Int) (IntKind.u64.wrap ((x:Int)*2 ^ s))=(r:Int):=by
     rw[wrap_shl,u64_or_nat y (x*2 ^ s % B) (zqL hys hps) (Nat.mod_lt _ B_pos),or_add hs64 hys,hr]
    have e4:(x:Int) / 2 ^ (64-s)=(z:Int):=by rw[cast_div_pow,hz]
    have hlb1:=hlb.set k r
    have hco1:=hlb.cell (k+1) hko1
    have hfr:=hlb.frozen k
    have hfr1:=hlb1.frozen (k+1)
    have hszw:w.heap.size<wr.heap.size:=hlb.lt
    simp only[Gn.u64]at hcx hco hco1
    rw[<-hx]at hcx;rw[<-hy]at hco
    have hcx2:(wr.setCell ⟨w.heap.size,k,none⟩ (.int .u64 (r:Int))).cell? ⟨b1,o1+k,none⟩=some (.int .u64 (x:Int)):=(World.cell?_setCell_other _ _ _ _ (fun e=>by injection e with e;omega)).trans hcx
    have HX:=Lib.hid hx;have HY:=Lib.hid hy;have HR:=Lib.hid hr;have HZ:=Lib.hid hz;have RB:=Lib.hid hrB;have ZS:=Lib.hid hzs;have PS:=Lib.hid hps;have LB1:=Lib.hid hlb1
    clear hx hy hr hz hrB hzs hps hxB hys hlb1
    go_wp2
    go_region
    all_goals
     go_wp2
     go_roundw
     case rel=>
      have hlb2:=(LB1.out.drew).set (k+1) z
      refine⟨k+1,(o.set k r).set (k+1) z,by omega,by go_num,hlb2,Lib.hid ⟨by simp[ho.out.1],(ho.out.2.1.set _ _ RB.out).set _ _ (zqL ZS.out PS.out),fun h=>by rw[List.getElem_set_self];exact ZS.out⟩,Lib.hid ?_,((below_drewN hbw 1).setCell (p:=⟨w.heap.size,k,none⟩) (Nat.le_refl _) _).setCell (p:=⟨w.heap.size,k+1,none⟩) (Nat.le_refl _) _⟩
      have h3:=hv.out
      rw[zag o k hko,<-HY.out]at h3
      have h5:=congrArg (B ^ k * ·) (shl_split (a:=x) hs64)
      simp only[Nat.mul_add]at h5
      rw[zai _ _ _ (by simpa using hko1),zai _ _ _ hko,zag a k hka,<-HX.out,HR.out,Nat.add_mul,Nat.mul_add,Nat.pow_succ,Nat.mul_assoc (B ^ k) B,HZ.out,Nat.mul_assoc (B ^ k) x]
      omega
     case measure=>simp[intOf];omega
  · obtain rfl:k=n:=by omega
    go_wp2
    go_ret
    refine⟨_,o,rfl,Nat.le_refl _,hlb,ho.out.1,ho.out.2.1,?_,hbw⟩
    have h3:=hv.out
    rwa [zaf (l:=o) (by rw[ho.out.1];omega),zaf (l:=a) (by rw[lena.out];omega)]at h3
theorem right_c {g n c s:Nat} {a:List Nat} {w:World} (ha:LP 22 w g a) (hal:Lim a) (hn:a.length=n) (hs:s<=63) (hnb:n<=536870912) (hc:n<=c) (hcm:c<=maxLen):
 Calls Tryz.prog 249 #[.slice (some ⟨g,0,none⟩) n c,.int .i64 (s:Int)] w fun e w'=>∃R m d l,e=.returned (.slice R m d)/\NatV 22 w' R m d l/\Gn.Norm l/\val l=val a / 2 ^ s/\w.grownBy w' (some g)/\∀a,R=some a->a.block=g:=by
 have HA:=Lib.hid ha;have lena:=Lib.hid hn;have La:=Lib.hid hal;have HC:=Lib.hid hc;have HCM:=Lib.hid hcm
 have hs64:s<=64:=by omega
 have e1:min s 64=s:=by omega
 clear ha hn hal hc hcm
 go_enter Tryz.func249,Tryz.ntmps249
 go_wp2
 go_loopw [8] (fun i wr=>∃(k:Nat) (o:List Nat),k<=n/\i=.int .i64 (k:Int)/\LP 22 wr g o/\Hid (o.length=n/\Lim o/\∀j,k<=j->∀(h:j<o.length) (h':j<a.length),o[j]=a[j])/\Hid (val (o.take k)+B ^ k*(val (a.drop k) / 2 ^ s)=val a / 2 ^ s)/\Hid (w.grownBy wr (some g))) (fun i _=>n-(intOf i).toNat)
 case atStart=>exact⟨0,a,Nat.zero_le _,rfl,HA.out,Lib.hid ⟨lena.out,La.out,fun _ _ _ _=>rfl⟩,Lib.hid (by simp),Lib.hid (World.grownBy.refl _ _)⟩
 case round=>
  obtain⟨k,o,hk,rfl,hlp,ho,hv,hg⟩:=hrel
  by_cases h0:k<n
  · have hka:k<a.length:=by rw[lena.out];omega
    have hko:k<o.length:=by rw[ho.out.1];omega
    obtain⟨x,hx⟩:∃x,x=a[k]:=⟨_,rfl⟩
    have hox:o[k]=x:=(ho.out.2.2 k (Nat.le_refl _) hko hka).trans hx.symm
    have hco:=hlp.cell k hko
    have hxB:x<B:=hx▸La.out.get k hka
    obtain⟨z,hz⟩:∃z,z=x / 2 ^ s:=⟨_,rfl⟩
    have e4:(x:Int) / 2 ^ s=(z:Int):=by rw[cast_div_pow,hz]
    have hzx:z<=x:=hz▸Nat.div_le_self _ _
    have hlp1:=hlp.set k z hko
    have hfr:=hlp.frozen k
    have hfr1:=hlp1.frozen k
    have hco0:=hlp1.cell k (by simpa using hko)
    rw[List.getElem_set_self]at hco0
    have hszw:g<wr.heap.size:=hlp.lt
    simp only[Gn.u64]at hco hco0
    rw[hox]at hco
    have HX:=Lib.hid hx;have HZ:=Lib.hid hz;have LP1:=Lib.hid hlp1;have XB:=Lib.hid hxB;have ZX:=Lib.hid hzx
    clear hx hox hz hlp1 hxB hzx
    have hdrop:a.drop k=x :: a.drop (k+1):=by rw[List.drop_eq_getElem_cons hka,<-HX.out]
    have HD:=Lib.hid hdrop;clear hdrop
    by_cases h1:k+1<n
    · have hka1:k+1<a.length:=by rw[lena.out];omega
      have hko1:k+1<o.length:=by rw[ho.out.1];omega
      obtain⟨y,hy⟩:∃y,y=a[k+1]:=⟨_,rfl⟩
      have hco1:=hlp.cell (k+1) hko1
      rw[(ho.out.2.2 (k+1) (by omega) hko1 hka1).trans hy.symm]at hco1
      simp only[Gn.u64]at hco1
      obtain⟨r,hr⟩:∃r,r=z+y*2 ^ (64-s) % B:=⟨_,rfl⟩
      have hzs:z<2 ^ (64-s):=by
       rw[HZ.out];refine Nat.div_lt_of_lt_mul ?_
       rw[Nat.mul_comm,B_split hs64];exact XB.out
      have h64s:64-s<=64:=by omega
      have hrB:r<B:=hr▸or_lt h64s hzs
      have hzB:z<B:=Nat.lt_of_le_of_lt ZX.out XB.out
      have e3:bits .or .u64 (z:Int) (IntKind.u64.wrap ((y:Int)*2 ^ (64-s)))=(r:Int):=by
       rw[wrap_shl,u64_or_nat z (y*2 ^ (64-s) % B) hzB (Nat.mod_lt _ B_pos),or_add h64s hzs,hr]
      have e5:min (64-s) 64=64-s:=by omega
      have hdrop1:a.drop (k+1)=y :: a.drop (k+2):=by rw[List.drop_eq_getElem_cons hka1,<-hy]
      have HD1:=Lib.hid hdrop1;have HR:=Lib.hid hr;have RB:=Lib.hid hrB
      clear hy hr hrB hzB hzs hdrop1
      go_wp2
      go_region
      all_goals
       go_wp2
       go_roundw
       case rel=>
        have hlp2:=(LP1.out.set k r (by simpa using hko)).drewN 1
        refine⟨k+1,(o.set k z).set k r,by omega,by go_num,hlp2,Lib.hid ⟨by simp[ho.out.1],(ho.out.2.1.set _ _ (Nat.lt_of_le_of_lt ZX.out XB.out)).set _ _ RB.out,fun j hj h h'=>?_⟩,Lib.hid ?_,Lib.hid (below_only (zal (zal hg.out rfl _) rfl _))⟩
        · rw[List.getElem_set_ne (by omega),List.getElem_set_ne (by omega)];exact ho.out.2.2 j (by omega) (by simpa using h) h'
        · rw[zai _ _ _ (by simpa using hko),List.take_set_of_le (Nat.le_refl _),<-hv.out,HD.out,val_cons,shr_step hs64,HD1.out,val_cons,shr_low,<-HZ.out,<-HR.out,Nat.pow_succ]
          simp only[Nat.mul_add,Nat.mul_assoc]
          omega
       case measure=>simp[intOf];omega
    · go_wp2
      go_roundw
      case rel=>
       have hd1:a.drop (k+1)=[]:=List.drop_eq_nil_of_le (by rw[lena.out];omega)
       refine⟨k+1,o.set k z,by omega,by go_num,LP1.out,Lib.hid ⟨by simp[ho.out.1],ho.out.2.1.set _ _ (Nat.lt_of_le_of_lt ZX.out XB.out),fun j hj h h'=>by have:=lena.out;omega⟩,Lib.hid ?_,Lib.hid (zal hg.out rfl _)⟩
       rw[zai _ _ _ hko,<-hv.out,HD.out,hd1,HZ.out]
       simp only[val_cons,val_nil,Nat.mul_zero,Nat.add_zero,Nat.zero_div]
      case measure=>simp[intOf];omega
  · obtain rfl:k=n:=by omega
    have nv:NatV 22 wr (some ⟨g,0,none⟩) k c o:=hlp.natV ho.out.2.1 ho.out.1 HC.out HCM.out
    have NV:=Lib.hid nv;clear nv
    go_wp2_with (go_at_call 81;refine(zax NV.out).mono ?_;rintro e w' ⟨rfl,rfl⟩)
    go_ret
    refine⟨_,_,_,_,rfl,NV.out.trim,norm_trim _,?_,hg.out,fun a e=>by cases e;rfl⟩
    have h3:=hv.out
    rw[List.drop_eq_nil_of_le (by rw[lena.out];omega),val_nil,Nat.zero_div,Nat.mul_zero,Nat.add_zero,zaf (l:=o) (by rw[ho.out.1];omega)]at h3
    rw[val_trim,h3]
theorem scope_jumps {P:Program} {a:Act} {w:World} {Q:Exit->Act->World->Prop} {c rest:Code} (l:Nat) (J:Act->World->Prop) (μ:Act->World->Nat) (hf:findLabel c l=some (Code.skip.seq rest))
 (pass:∀a w,J a w->rest.wp P (Exit.jump l (fun a' w'=>J a' w'/\μ a' w'<μ a w) Q) a w)
 (first:(∀a w,J a w->rest.wp P (Exit.jump l J Q) a w)->c.wp P (Exit.jump l J Q) a w):(Code.scope c).wp P Q a w:=
 wp_scope_jumps l J μ hf (first fun a w h=>Code.wp_mono (fun e _ _ q=>by cases e<;>first|exact q|exact⟨q.1,q.2.1⟩) (pass a w h))
  fun a w h=>wp_seq (wp_skip (pass a w h))
def GI (t2 t1 t0 b1 b0 d r v:Nat):Prop:=d*b1+(v*B+r)=t2*B+t1/\r<B/\v<=1/\d<B/\min (B-1) (((t2*B+t1)*B+t0) / (b1*B+b0))<=d
end Go.Proofs.YtbhnjkegkadodaaGreatDoor
namespace Go.Proofs.YtbhnjkegkadodaaGreatDoor
open Go Go.RowKit Go.Proofs Gn
section
variable {t2 t1 t0 b1 b0 d r v:Nat}
theorem gi_fits (h:GI t2 t1 t0 b1 b0 d r v) (hb:0<b1) (hf:d*b0<=(v*B+r)*B+t0):d=min (B-1) (((t2*B+t1)*B+t0) / (b1*B+b0)):=by
 refine Nat.le_antisymm (Nat.le_min.2 ⟨by have:=h.2.2.2.1;omega,?_⟩) h.2.2.2.2
 rw[Nat.le_div_iff_mul_le (by have:=Nat.mul_pos hb B_pos;omega),<-h.1,Nat.mul_add,Nat.add_mul,Nat.mul_assoc]
 omega
theorem gi_over (h:GI t2 t1 t0 b1 b0 d r 1) (hb:0<b1) (hb0:b0<B):d=min (B-1) (((t2*B+t1)*B+t0) / (b1*B+b0)):=by
 refine gi_fits h hb ?_
 have h1:d*b0<=B*B:=Nat.mul_le_mul (Nat.le_of_lt h.2.2.2.1) (Nat.le_of_lt hb0)
 rw[Nat.one_mul,Nat.add_mul];omega
theorem gi_step (h:GI t2 t1 t0 b1 b0 d r 0) (hb:0<b1) (hf:r*B+t0<d*b0) {s c:Nat} (hs:s+B*c=r+b1) (hsB:s<B) (hc:c<=1):1<=d/\GI t2 t1 t0 b1 b0 (d-1) s c:=by
 obtain⟨h1,h2,h3,h4,h5⟩:=h
 have hbp:0<b1*B+b0:=by have:=Nat.mul_pos hb B_pos;omega
 have hlt:((t2*B+t1)*B+t0) / (b1*B+b0)<d:=by
  rw[Nat.div_lt_iff_lt_mul hbp,<-h1,Nat.mul_add,Nat.add_mul,Nat.mul_assoc,Nat.zero_mul,Nat.zero_add]
  omega
 have hd:1<=d:=Nat.lt_of_le_of_lt (Nat.zero_le _) hlt
 refine⟨hd,?_,hsB,hc,by omega,Nat.le_trans (Nat.min_le_right _ _) (Nat.le_sub_one_of_lt hlt)⟩
 obtain⟨k,rfl⟩:∃k,d=k+1:=⟨d-1,by omega⟩
 rw[Nat.add_mul]at h1
 rw[Nat.add_sub_cancel,Nat.mul_comm c B]
 omega
theorem gi_lt (ht2:t2<b1) (ht1:t1<B) (ht0:t0<B) (hb1:b1<B) {z t:Nat} (hz:z=(t2*B+t1) / b1) (ht:t=(t2*B+t1) % b1):GI t2 t1 t0 b1 b0 z t 0:=by
 have hb:0<b1:=by omega
 have hzB:z<B:=by
  rw[hz];refine Nat.div_lt_of_lt_mul ?_
  have:=Nat.mul_le_mul_right B ht2
  rw[Nat.succ_mul]at this;omega
 refine⟨?_,Nat.lt_trans (ht▸Nat.mod_lt _ hb) hb1,by omega,hzB,Nat.le_trans (Nat.min_le_right _ _) ?_⟩
 · rw[hz,ht,Nat.zero_mul,Nat.zero_add,Nat.mul_comm];exact Nat.div_add_mod _ _
 · rw[hz,Nat.le_div_iff_mul_le hb]
   obtain⟨Q,hQ⟩:∃Q,Q=((t2*B+t1)*B+t0) / (b1*B+b0):=⟨_,rfl⟩
   rw[<-hQ]
   have h1:=Nat.div_mul_le_self ((t2*B+t1)*B+t0) (b1*B+b0)
   rw[<-hQ,Nat.mul_add,<-Nat.mul_assoc]at h1
   have h2:Q*b1*B<(t2*B+t1+1)*B:=by rw[Nat.add_mul (t2*B+t1)];omega
   have:=Nat.lt_of_mul_lt_mul_right h2
   omega
theorem gi_eq {s c:Nat} (hs:s+B*c=t1+b1) (hsB:s<B) (hc:c<=1):GI b1 t1 t0 b1 b0 (B-1) s c:=by
 refine⟨?_,hsB,hc,by have:=B_pos;omega,Nat.min_le_left _ _⟩
 rw[Nat.mul_comm c,Nat.sub_mul,Nat.one_mul,Nat.mul_comm b1 B]
 have:b1<=B*b1:=Nat.le_mul_of_pos_left _ B_pos
 omega
end
end Go.Proofs.YtbhnjkegkadodaaGreatDoor
namespace Go.Proofs.YtbhnjkegkadodaaGreatDoor
open Go Go.RowKit Go.Proofs Gn
def GJ (t2 t1 t0 b1 b0:Nat) (w:World) (a:Act) (w':World):Prop:=∃(d r v:Nat) (u8 u9 u10 u11 u12 u13 u14 u15 u16 u17 u18 u19 u20 u21 u22 u23 u24 u25 u26 u27 u28 u29 u30 u31 u32 u33 u34 u35 u36 u37 u38 u39 u40 u41 u42 u43 u44 u45 u46 u47 u48 u49 u50 u51 u52 u53 u54 u55 u56 u57 u58 u59 u60 u61 u62 u63 u64 u65 u66 u67 u68 v0 v1:Value),a = { tmps:=#[v0,v1,.pointer (some ⟨w.heap.size,0,none⟩),.pointer (some ⟨w.heap.size+1,0,none⟩),.int .u64 0,.int .u64 (d:Int),.int .u64 (r:Int),.int .u64 (v:Int),u8,u9,u10,u11,u12,u13,u14,u15,u16,u17,u18,u19,u20,u21,u22,u23,u24,u25,u26,u27,u28,u29,u30,u31,u32,u33,u34,u35,u36,u37,u38,u39,u40,u41,u42,u43,u44,u45,u46,u47,u48,u49,u50,u51,u52,u53,u54,u55,u56,u57,u58,u59,u60,u61,u62,u63,u64,u65,u66,u67,u68],defers:=[] }/\GI t2 t1 t0 b1 b0 d r v /\
 ∃q,w'=((w.alloc (.cells #[.int .u64 (t2:Int),.int .u64 (t1:Int),.int .u64 (t0:Int)] 336)).alloc (.cells #[.int .u64 (b1:Int),.int .u64 (b0:Int)] 338)).drewN q
theorem guess_c (t2 t1 t0 b1 b0 Z:Nat) (ht2:t2<=b1) (ht1:t1<B) (ht0:t0<B) (hb1:b1<B) (hb0:b0<B) (hb:0<b1) (hZ:Z=min (B-1) (((t2*B+t1)*B+t0) / (b1*B+b0))) (w:World):
 Calls Tryz.prog 247 #[.agg #[.int .u64 (t2:Int),.int .u64 (t1:Int),.int .u64 (t0:Int)],.agg #[.int .u64 (b1:Int),.int .u64 (b0:Int)]] w fun e w'=>e=.returned (.int .u64 (Z:Int))/\Below w.heap.size w w':=by
 have HZ:=Lib.hid hZ
 clear hZ
 go_enter Tryz.func247,Tryz.ntmps247
 go_wp2
 refine scope_jumps 0 (GJ t2 t1 t0 b1 b0 w) (fun a' _=>(intOf (a'.tmps.getD 5 undef)).toNat) rfl ?_ ?_
 · rintro a' w' ⟨d,r,v,u8,u9,u10,u11,u12,u13,u14,u15,u16,u17,u18,u19,u20,u21,u22,u23,u24,u25,u26,u27,u28,u29,u30,u31,u32,u33,u34,u35,u36,u37,u38,u39,u40,u41,u42,u43,u44,u45,u46,u47,u48,u49,u50,u51,u52,u53,u54,u55,u56,u57,u58,u59,u60,u61,u62,u63,u64,u65,u66,u67,u68,v0,v1,rfl,hI,q,rfl⟩
   have hv1:=hI.2.2.1
   have hdB:=hI.2.2.2.1
   have hrB:=hI.2.1
   have HI:=Lib.hid hI;clear hI
   obtain⟨hi,lo,h83,hml,hloB,hhiB⟩:=mul64_ex d b0 hdB hb0
   obtain⟨s1,c1,h82,hs1,hs1B,hc1⟩:=add64_z r b1 hrB hb1
   have H83:=Lib.hid h83;clear h83
   have hdb:d<=18446744073709551615:=by unfold B at hdB;omega
   rcases Nat.lt_or_ge 0 v with hv|hv
   · obtain rfl:v=1:=by omega
     have hz:=gi_over HI.out hb hb0
     rw[<-HZ.out]at hz
     subst hz
     clear h82 hs1 hml
     go_wp2
     simp only[Exit.jump]
     go_ret
     exact⟨rfl,below_drewN (((Below.refl _ _).alloc (Nat.le_refl _) _).alloc (by simp) _) _⟩
   · obtain rfl:v=0:=by omega
     have stop:¬r*B+t0<d*b0->Z=d:=fun h=>by rw[HZ.out];exact(gi_fits HI.out hb (by rw[Nat.zero_mul,Nat.zero_add];omega)).symm
     have go_on:r*B+t0<d*b0 → 1<=d/\GI t2 t1 t0 b1 b0 (d-1) s1 c1:=fun h=>gi_step HI.out hb h hs1 hs1B hc1
     rw[<-hml]at stop go_on
     have ST:=Lib.hid stop;have GO:=Lib.hid go_on
     clear stop go_on hs1 hml
     rcases Nat.lt_trichotomy r hi with h1|h1|h1
     · have hg1:decide (r<hi)=true:=decide_eq_true h1
       have hgo:=GO.out (by have:=Nat.mul_le_mul_right B h1;rw[Nat.succ_mul,Nat.mul_comm hi B]at this;omega)
       have hd1:1<=d:=hgo.1
       have GO2:=Lib.hid hgo.2
       obtain⟨k,hk⟩:∃k,k=d-1:=⟨_,rfl⟩
       rw[<-hk]at GO2
       have e21:(d:Int)-1=(k:Int):=by omega
       have KD:=Lib.hid (show k<d by omega)
       clear hgo hk
       go_wp2_with fail
       refine(H83.out _).mono ?_;rintro e w2 ⟨rfl,rfl⟩
       go_wp2
       go_step3
       refine⟨rfl,⟨k,s1,c1,_,_,_,_,_,_,_,_,_,_,_,_,_,_,_,_,_,_,_,_,_,_,_,_,_,_,_,_,_,_,_,_,_,_,_,_,_,_,_,_,_,_,_,_,_,_,_,_,_,_,_,_,_,_,_,_,_,_,_,_,_,_,_,rfl,GO2.out,_,rfl⟩,?_⟩
       have:=KD.out
       simp[intOf];omega
     · subst h1
       have hg1:decide (r<r)=false:=decide_eq_false (by omega)
       have hg2:((r:Int) == (r:Int))=true:=by simp
       rcases Nat.lt_or_ge t0 lo with h2|h2
       · have hg3:decide (t0<lo)=true:=decide_eq_true h2
         have hgo:=GO.out (by rw[Nat.mul_comm r B];omega)
         have hd1:1<=d:=hgo.1
         have GO2:=Lib.hid hgo.2
         obtain⟨k,hk⟩:∃k,k=d-1:=⟨_,rfl⟩
         rw[<-hk]at GO2
         have e21:(d:Int)-1=(k:Int):=by omega
         have KD:=Lib.hid (show k<d by omega)
         clear hgo hk
         go_wp2_with fail
         refine(H83.out _).mono ?_;rintro e w2 ⟨rfl,rfl⟩
         go_wp2
         go_step3
         refine⟨rfl,⟨k,s1,c1,_,_,_,_,_,_,_,_,_,_,_,_,_,_,_,_,_,_,_,_,_,_,_,_,_,_,_,_,_,_,_,_,_,_,_,_,_,_,_,_,_,_,_,_,_,_,_,_,_,_,_,_,_,_,_,_,_,_,_,_,_,_,_,rfl,GO2.out,_,rfl⟩,?_⟩
         have:=KD.out
         simp[intOf];omega
       · have hg3:decide (t0<lo)=false:=decide_eq_false (by omega)
         have hz:=ST.out (by rw[Nat.mul_comm r B];omega)
         subst hz
         clear h82
         go_wp2_with fail
         refine(H83.out _).mono ?_;rintro e w2 ⟨rfl,rfl⟩
         go_wp2
         simp only[Exit.jump]
         go_ret
         exact⟨rfl,below_drewN (((Below.refl _ _).alloc (Nat.le_refl _) _).alloc (by simp) _) _⟩
     · have hg1:decide (r<hi)=false:=decide_eq_false (by omega)
       have hg2:((hi:Int) == (r:Int))=false:=by rw[beq_eq_false_iff_ne];omega
       have hz:=ST.out (by have:=Nat.mul_le_mul_right B h1;rw[Nat.succ_mul,Nat.mul_comm hi B]at this;omega)
       subst hz
       clear h82
       go_wp2_with fail
       refine(H83.out _).mono ?_;rintro e w2 ⟨rfl,rfl⟩
       go_wp2
       simp only[Exit.jump]
       go_ret
       exact⟨rfl,below_drewN (((Below.refl _ _).alloc (Nat.le_refl _) _).alloc (by simp) _) _⟩
 · intro hrest
   have HR:=Lib.hid hrest;clear hrest
   rcases Nat.lt_or_ge t2 b1 with hlt|hge
   · have hd:decide (b1<=t2)=false:=decide_eq_false (by omega)
     go_wp2
     go_quiet (fail)
     obtain⟨z,hz⟩:∃z,z=(t2*B+t1) / b1:=⟨_,rfl⟩
     obtain⟨t,ht⟩:∃t,t=(t2*B+t1) % b1:=⟨_,rfl⟩
     have C:=Lib.hid (Div64_c t2 t1 b1 z t ht1 hlt hb1 hz ht)
     have G:=Lib.hid (gi_lt (b0:=b0) hlt ht1 ht0 hb1 hz ht)
     clear hz ht
     go_wp2_with (go_at_call 212;refine(C.out _).mono ?_;rintro e w2 ⟨rfl,q,rfl⟩)
     go_step3
     simp only[Exit.then]
     go_step
     exact HR.out _ _ ⟨z,t,0,_,_,_,_,_,_,_,_,_,_,_,_,_,_,_,_,_,_,_,_,_,_,_,_,_,_,_,_,_,_,_,_,_,_,_,_,_,_,_,_,_,_,_,_,_,_,_,_,_,_,_,_,_,_,_,_,_,_,_,_,_,_,_,rfl,G.out,_,rfl⟩
   · obtain rfl:t2=b1:=by omega
     have hd:decide (t2<=t2)=true:=decide_eq_true (by omega)
     obtain⟨s,c,h82,hs,hsB,hc⟩:=add64_z t1 t2 ht1 hb1
     have G:Hid (GI t2 t1 t0 t2 b0 18446744073709551615 s c):=gi_eq hs hsB hc
     clear hs
     go_wp2
     go_quiet (fail)
     go_wp2
     go_step3
     simp only[Exit.then]
     go_step
     exact HR.out _ _ ⟨18446744073709551615,s,c,_,_,_,_,_,_,_,_,_,_,_,_,_,_,_,_,_,_,_,_,_,_,_,_,_,_,_,_,_,_,_,_,_,_,_,_,_,_,_,_,_,_,_,_,_,_,_,_,_,_,_,_,_,_,_,_,_,_,_,_,_,_,_,rfl,G.out,_,rfl⟩
end Go.Proofs.YtbhnjkegkadodaaGreatDoor
namespace Go.Proofs.YtbhnjkegkadodaaGreatDoor
open Go Go.RowKit Go.Proofs Gn
section
variable {w:World} {g:Nat} {P X S:List Nat}
theorem win_cell (h:LB 22 w g (P ++ X ++ S)) (i:Nat) (hi:i<X.length):w.cell? ⟨g,P.length+i,none⟩=some (Gn.u64 X[i]):=by
 have h1:=h.cell (P.length+i) (by simp;omega)
 rw[h1]
 congr 2
 rw[List.getElem_append_left (by simp;omega),List.getElem_append_right (by omega)]
 simp
theorem win_set (h:LB 22 w g (P ++ X ++ S)) (i x:Nat) (hi:i<X.length):LB 22 (w.setCell ⟨g,P.length+i,none⟩ (Gn.u64 x)) g (P ++ X.set i x ++ S):=by
 have h1:=h.set (P.length+i) x
 rwa [List.set_append_left _ _ (by simp;omega),List.set_append_right _ _ (by omega),Nat.add_sub_cancel_left]at h1
end
end Go.Proofs.YtbhnjkegkadodaaGreatDoor
namespace Go.Proofs.YtbhnjkegkadodaaGreatDoor
open Go Go.RowKit Go.Proofs Gn
theorem take_c {g j n c d:Nat} {A':Option Addr} {c':Nat} {P X S y:List Nat} {w:World} (ha:LB 22 w g (P ++ X ++ S)) (hj:P.length=j) (hX:X.length=n+1) (hXl:Lim X) (hb:NatV 22 w A' n c' y) (hn:0<n) (hnb:n<=268435456)
 (hne:∀b off,A'=some ⟨b,off,none⟩->b≠g) (hd:d<B) (hle:d*val y<=val X+val y):
 Calls Tryz.prog 248 #[.slice (some ⟨g,j,none⟩) (n+1) c,.slice A' n c',.int .u64 (d:Int)] w fun e w'=>∃(r:Bool) (X':List Nat),e=.returned (.bool r)/\LB 22 w' g (P ++ X' ++ S)/\X'.length=n+1/\Lim X' /\
  (r=true->val X'+d*val y=val X)/\(r=false->val X<d*val y/\val X'+d*val y=val X+val y)/\w.grownBy w' (some g):=by
 subst hj
 obtain⟨b2,o2,rfl,_⟩:=hb.row hn
 have hb':∀w',w.grownBy w' (some g)->NatV 22 w' (some ⟨b2,o2,none⟩) n c' y:=fun w' h=>hb.grown h fun b off _ e h1=>hne b off e (by simpa using h1)
 have Hne:=Lib.hid (hne b2 o2 rfl)
 have Ha:=Lib.hid ha;have HX:=Lib.hid hX;have HXl:=Lib.hid hXl;have Hb:=Lib.hid hb';have Hle:=Lib.hid hle;have Hd:=Lib.hid hd
 have leny:=Lib.hid hb.len;have Ly:=Lib.hid hb.lim
 have hdb:d<=18446744073709551615:=by unfold B at hd;omega
 clear ha hX hXl hb hb' hle hne hd
 go_enter Tryz.func248,Tryz.ntmps248
 go_wp2
 go_loopw [7,8,16] (fun ca bo i wr=>∃(k cy br:Nat) (Z:List Nat),k<=n/\i=.int .i64 (k:Int)/\ca=.int .u64 (cy:Int)/\bo=.int .u64 (br:Int)/\br<=1/\LB 22 wr g (P ++ Z ++ S)/\Hid (cy<B/\Z.length=n+1/\Lim Z/\∀j,k<=j->∀(h:j<Z.length) (h':j<X.length),Z[j]=X[j]) /\
  Hid (val (Z.take k)+d*val (y.take k)=val (X.take k)+B ^ k*(cy+br))/\Hid (w.grownBy wr (some g))) (fun _ _ i _=>n-(intOf i).toNat)
 case atStart=>exact⟨0,0,0,X,Nat.zero_le _,rfl,rfl,rfl,by omega,Ha.out,Lib.hid ⟨B_pos,HX.out,HXl.out,fun _ _ _ _=>rfl⟩,Lib.hid (by simp),Lib.hid (World.grownBy.refl _ _)⟩
 case round=>
  obtain⟨k,cy,br,Z,hk,rfl,rfl,rfl,hbr,hlb,hZ,hv,hg⟩:=hrel
  have hkZ:k<Z.length:=by rw[hZ.out.2.1];omega
  have hkX:k<X.length:=by rw[HX.out];omega
  have hcz:=win_cell hlb k hkZ
  have hfr:=hlb.frozen (P.length+k)
  have hszw:g<wr.heap.size:=hlb.lt
  obtain⟨x,hx⟩:∃x,x=X[k]:=⟨_,rfl⟩
  rw[hZ.out.2.2.2 k (Nat.le_refl _) hkZ hkX,<-hx]at hcz
  simp only[Gn.u64]at hcz
  have hxB:x<B:=hx▸HXl.out.get k hkX
  have HXk:=Lib.hid hx;clear hx
  by_cases h0:k<n
  · have hky:k<y.length:=by rw[leny.out];omega
    have hcy:=(Hb.out wr hg.out).cell rfl k hky
    obtain⟨q,hq⟩:∃q,q=y[k]:=⟨_,rfl⟩
    rw[<-hq]at hcy
    simp only[Gn.u64]at hcy
    have hqB:q<B:=hq▸Ly.out.get k hky
    have HQ:=Lib.hid hq;clear hq
    obtain⟨hi,lo,h83,hml,hloB,hhiB⟩:=mul64_ex d q Hd.out hqB
    obtain⟨s1,c1,h82,hs1,hs1B,hc1⟩:=add64_z lo cy hloB hZ.out.1
    obtain⟨s2,c2,h250,hs2,hs2B,hc2⟩:=sub64_ex x s1 br hxB hs1B hbr
    have tot:s1+B*(hi+c1)=d*q+cy:=by rw[Nat.mul_add];omega
    have hcB:hi+c1<B:=by
     have h1:=mul_step_fits Hd.out hqB hZ.out.1 B_pos
     rcases Nat.lt_or_ge (hi+c1) B with h|h
     · exact h
     · exfalso;have:=Nat.mul_le_mul_left B h;omega
    have hw1:hi+c1<=18446744073709551615:=by unfold B at hcB;omega
    have H83:=Lib.hid h83;have TOT:=Lib.hid tot;have CB:=Lib.hid hcB;have S2:=Lib.hid hs2;have S2B:=Lib.hid hs2B
    clear h83 tot hcB hs2 hs2B hml hs1 hloB hhiB hs1B hqB hxB
    go_wp2_with (go_at_call 83;refine(H83.out _).mono ?_;rintro e w2 ⟨rfl,rfl⟩)
    go_roundw
    case rel=>
     refine⟨k+1,hi+c1,c2,Z.set k s2,by omega,by go_num,by go_num,rfl,hc2,win_set hlb k s2 hkZ,Lib.hid ⟨CB.out,by simp[hZ.out.2.1],hZ.out.2.2.1.set _ _ S2B.out,fun j hj h h'=>?_⟩,Lib.hid ?_,Lib.hid (zal hg.out rfl _)⟩
     · rw[List.getElem_set_ne (by omega)];exact hZ.out.2.2.2 j (by omega) (by simpa using h) h'
     · rw[zai Z k s2 hkZ,zag X k hkX,zag y k hky,<-HXk.out,<-HQ.out,Nat.pow_succ]
       have h3:=hv.out
       have h4:=congrArg (B ^ k * ·) S2.out
       have h5:=congrArg (B ^ k * ·) TOT.out
       simp only[Nat.mul_add]at h3 h4 h5 ⊢
       rw[Nat.mul_left_comm d,Nat.mul_assoc (B ^ k) B,Nat.mul_assoc (B ^ k) B,Nat.mul_assoc (B ^ k) B]
       omega
    case measure=>simp[intOf];omega
  · obtain rfl:k=n:=by omega
    obtain⟨s2,c2,h250,hs2,hs2B,hc2⟩:=sub64_ex x cy br hxB hZ.out.1 hbr
    have hv2:val (Z.set k s2)+d*val y=val X+B ^ (k+1)*c2:=by
     rw[<-zaf (show(Z.set k s2).length<=k+1 by simp[hZ.out.2.1]),zai Z k s2 hkZ,<-zaf (l:=X) (show X.length<=k+1 by rw[HX.out];omega),zag X k hkX,<-HXk.out,Nat.pow_succ]
     have h3:=hv.out
     rw[zaf (l:=y) (by rw[leny.out];omega)]at h3
     have h4:=congrArg (B ^ k * ·) hs2
     simp only[Nat.mul_add]at h3 h4 ⊢
     rw[Nat.mul_assoc (B ^ k) B]
     omega
    have hlb2:=win_set hlb k s2 hkZ
    have LB2:=Lib.hid hlb2;have V2:=Lib.hid hv2;have S2B:=Lib.hid hs2B
    clear hlb2 hv2 hs2 hs2B hxB
    rcases Nat.eq_zero_or_pos c2 with hc0|hc0
    · subst hc0
      go_wp2
      go_ret
      refine⟨true,Z.set k s2,rfl,LB2.out,by simp[hZ.out.2.1],hZ.out.2.2.1.set _ _ S2B.out,fun _=>by have:=V2.out;rw[Nat.mul_zero,Nat.add_zero]at this;exact this,(fun h=>by cases h),zal hg.out rfl _⟩
    · obtain rfl:c2=1:=by omega
      go_wp2
      have hlt:val X<d*val y:=by
       have h1:=V2.out
       have h2:=val_lt (hZ.out.2.2.1.set k s2 S2B.out)
       rw[List.length_set,hZ.out.2.1]at h2
       omega
      have HLT:=Lib.hid hlt
      obtain⟨X1,hX1⟩:∃X1,X1=Z.set k s2:=⟨_,rfl⟩
      have hX1l:X1.length=k+1:=by rw[hX1];simp[hZ.out.2.1]
      have hX1m:Lim X1:=hX1▸hZ.out.2.2.1.set _ _ S2B.out
      have V3:=V2.out
      have L3:=LB2.out
      rw[<-hX1]at V3 L3
      have V3':=Lib.hid V3;have L3':=Lib.hid L3;have HX1l:=Lib.hid hX1l;have HX1m:=Lib.hid hX1m
      have G3:=Lib.hid (zal hg.out (p:=⟨g,P.length+k,none⟩) rfl (Gn.u64 s2))
      clear hlt hX1 hX1l hX1m V3 L3 h250 hcz hfr hszw LB2 hlb
      go_loopw [7,70] (fun ca i wr=>∃(m cy:Nat) (Z:List Nat),m<=k/\cy<=1/\i=.int .i64 (m:Int)/\ca=.int .u64 (cy:Int)/\LB 22 wr g (P ++ Z ++ S)/\Hid (Z.length=k+1/\Lim Z/\∀j,m<=j->∀(h:j<Z.length) (h':j<X1.length),Z[j]=X1[j]) /\
       Hid (val (Z.take m)+B ^ m*cy=val (X1.take m)+val (y.take m))/\Hid (w.grownBy wr (some g))) (fun _ i _=>k-(intOf i).toNat)
      case atStart=>exact⟨0,0,X1,Nat.zero_le _,by omega,rfl,rfl,L3'.out,Lib.hid ⟨HX1l.out,HX1m.out,fun _ _ _ _=>rfl⟩,Lib.hid (by simp),G3⟩
      case round=>
       clear hZ hv hg
       obtain⟨m,cy,Z,hm,hcy1,rfl,rfl,hlb,hZ,hv,hg⟩:=hrel
       have hmZ:m<Z.length:=by rw[hZ.out.1];omega
       have hmX:m<X1.length:=by rw[HX1l.out];omega
       have hcz:=win_cell hlb m hmZ
       have hfr:=hlb.frozen (P.length+m)
       have hszw:g<wr.heap.size:=hlb.lt
       obtain⟨x1,hx1⟩:∃x,x=X1[m]:=⟨_,rfl⟩
       rw[hZ.out.2.2 m (Nat.le_refl _) hmZ hmX,<-hx1]at hcz
       simp only[Gn.u64]at hcz
       have hxB:x1<B:=hx1▸HX1m.out.get m hmX
       have HX1k:=Lib.hid hx1;clear hx1
       by_cases h0:m<k
       · have hky:m<y.length:=by rw[leny.out];omega
         have hcy:=(Hb.out wr hg.out).cell rfl m hky
         obtain⟨q,hq⟩:∃q,q=y[m]:=⟨_,rfl⟩
         rw[<-hq]at hcy
         simp only[Gn.u64]at hcy
         have hqB:q<B:=hq▸Ly.out.get m hky
         have HQ:=Lib.hid hq;clear hq
         obtain⟨s3,c3,h82,hs3,hs3B,hc3⟩:=add64_ex x1 q cy hxB hqB hcy1
         have S3:=Lib.hid hs3;have S3B:=Lib.hid hs3B
         clear hs3 hs3B hxB hqB
         go_wp2
         go_region
         all_goals
          go_wp2
          go_roundw
          case rel=>
           refine⟨m+1,c3,Z.set m s3,by omega,hc3,by go_num,rfl,(win_set hlb m s3 hmZ).drewN 1,Lib.hid ⟨by simp[hZ.out.1],hZ.out.2.1.set _ _ S3B.out,fun j hj h h'=>?_⟩,Lib.hid ?_,Lib.hid (below_only (zal hg.out rfl _))⟩
           · rw[List.getElem_set_ne (by omega)];exact hZ.out.2.2 j (by omega) (by simpa using h) h'
           · rw[zai Z m s3 hmZ,zag X1 m hmX,zag y m hky,<-HX1k.out,<-HQ.out,Nat.pow_succ]
             have h3:=hv.out
             have h4:=congrArg (B ^ m * ·) S3.out
             simp only[Nat.mul_add]at h3 h4
             rw[Nat.mul_assoc (B ^ m) B]
             omega
          case measure=>simp[intOf];omega
       · obtain rfl:m=k:=by omega
         obtain⟨t,ht⟩:∃t,t=(x1+cy) % B:=⟨_,rfl⟩
         have e9:IntKind.u64.wrap ((x1:Int)+(cy:Int))=(t:Int):=by rw[ht,IntKind.wrap_u64];unfold B;omega
         have htB:t<B:=ht▸Nat.mod_lt _ B_pos
         have hfin:val (Z.set m t)+d*val y=val X+val y:=by
          rw[<-zaf (show(Z.set m t).length<=m+1 by simp[hZ.out.1]),zai Z m t hmZ]
          have h3:=hv.out
          rw[zaf (l:=y) (by rw[leny.out];omega)]at h3
          have h5:=V3'.out
          rw[<-zaf (l:=X1) (show X1.length<=m+1 by rw[HX1l.out];omega),zag X1 m hmX,<-HX1k.out,Nat.mul_one]at h5
          have h6:=Hle.out
          have h7:=val_lt (hZ.out.2.1.take m)
          rw[List.length_take_of_le (by rw[hZ.out.1];omega)]at h7
          obtain⟨u,hu⟩:∃u,u=(x1+cy) / B:=⟨_,rfl⟩
          have h8:t+B*u=x1+cy:=by rw[ht,hu];exact Nat.mod_add_div _ _
          have h9:=congrArg (B ^ m * ·) h8
          simp only[Nat.mul_add]at h9
          have hu1:u<=1:=by
           rw[hu];have:x1+cy<2*B:=by omega
           have:=Nat.div_lt_of_lt_mul (by rw[Nat.mul_comm];exact this:x1+cy<B*2)
           omega
          rw[Nat.pow_succ]at h5
          rcases Nat.eq_zero_or_pos u with h0|h0
          · exfalso
            rw[h0,Nat.mul_zero,Nat.add_zero]at h8
            have ht1:t+1<=B:=htB
            have:=Nat.mul_le_mul_left (B ^ m) ht1
            rw[Nat.mul_add]at this
            have h10:=congrArg (B ^ m * ·) h8
            simp only[Nat.mul_add]at h10
            omega
          · obtain rfl:u=1:=by omega
            simp only[Nat.mul_one]at h9
            omega
         have FIN:=Lib.hid hfin;have TB:=Lib.hid htB
         clear hfin ht htB hxB
         go_wp2
         go_ret
         exact⟨false,Z.set m t,rfl,win_set hlb m t hmZ,by simp[hZ.out.1],hZ.out.2.1.set _ _ TB.out,(fun h=>by cases h),(fun _=>⟨HLT.out,FIN.out⟩),zal hg.out rfl _⟩
end Go.Proofs.YtbhnjkegkadodaaGreatDoor

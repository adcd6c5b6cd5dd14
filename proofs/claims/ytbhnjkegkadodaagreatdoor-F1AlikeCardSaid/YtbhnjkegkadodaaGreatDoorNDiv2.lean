/- Part of the proof. -/
import Derived.Test.YtbhnjkegkadodaaGreatDoorG04
set_option linter.all false
set_option maxRecDepth 100000
set_option maxHeartbeats 8000000
namespace Go.Proofs.YtbhnjkegkadodaaGreatDoor
open Go Go.RowKit Go.Proofs Gn
theorem ret_two {a b c d:Int} (h:a=c) (h':b=d):Ending.returned (.tuple #[.int .u64 a,.int .u64 b])=Ending.returned (.tuple #[.int .u64 c,.int .u64 d]):=by rw[h,h']
theorem Div64_low (lo y z t:Nat) (hlo:lo<B) (hy:0<y) (hz:z=lo / y) (ht:t=lo % y) (w:World):
 Calls Tryz.prog 212 #[.int .u64 0,.int .u64 (lo:Int),.int .u64 (y:Int)] w fun e w'=>e=.returned (.tuple #[.int .u64 (z:Int),.int .u64 (t:Int)])/\∃q,w'=w.drewN q:=by
 have h1:((y:Int) == 0)=false:=by rw[beq_eq_false_iff_ne];omega
 have h2:(y:Int)≠0:=by omega
 have h3:decide (y<=0)=false:=by simp;omega
 have e1:(lo:Int) / (y:Int)=(z:Int):=by rw[hz];rfl
 have e2:(lo:Int) % (y:Int)=(t:Int):=by rw[ht];rfl
 have hzb:z<=18446744073709551615:=by have:=Nat.div_le_self lo y;unfold B at *;omega
 have e3:IntKind.u64.wrap (z:Int)=(z:Int):=by rw[IntKind.wrap_u64];omega
 clear hz ht hzb
 go_enter Tryz.func212,Tryz.ntmps212
 go_wp2
 go_quiet (fail)
 go_wp2
 go_ret2
 exact⟨ret_two rfl e2,_,rfl⟩
def H32:Nat:=4294967296
def HalfInv (U y1 y0 n q r:Nat):Prop:=q*y1+r=U/\(U*H32+n) / (y1*H32+y0)<=q/\q<=H32+1/\r<H32
theorem zbh {U y1 y0 n q r:Nat} (h:HalfInv U y1 y0 n q r) (hU:U<y1*H32+y0) (hn:n<H32) (hc:H32<=q\/H32*r+n<q*y0):
 1<=q/\(q-1)*y1+(r+y1)=U/\(U*H32+n) / (y1*H32+y0)<=q-1/\q-1<=H32:=by
 obtain⟨h1,h2,h3,h4⟩:=h
 have hy:0<y1*H32+y0:=by omega
 have hlt:(U*H32+n) / (y1*H32+y0)<q:=by
  rcases hc with hc|hc
  · refine zqL (Nat.div_lt_of_lt_mul ?_) hc
    have:(U+1)*H32<=(y1*H32+y0)*H32:=Nat.mul_le_mul_right _ hU
    rw[Nat.add_mul]at this
    omega
  · rw[Nat.div_lt_iff_lt_mul hy]
    exact half_over h1 hc
 obtain⟨k,rfl⟩:∃k,q=k+1:=⟨q-1,by have:=Nat.lt_of_le_of_lt (Nat.zero_le _) hlt;omega⟩
 rw[Nat.add_mul]at h1
 refine⟨by omega,?_,Nat.le_of_lt_succ hlt,by omega⟩
 rw[Nat.add_sub_cancel];omega
theorem zaw {U y1 y0 n q r:Nat} (h1:q*y1+r=U) (h2:(U*H32+n) / (y1*H32+y0)<=q) (hy:0<y1) (hc:q*y0<=H32*r+n):(U*H32+n) / (y1*H32+y0)=q:=by
 refine Nat.le_antisymm h2 ?_
 rw[Nat.le_div_iff_mul_le (by have:=Nat.mul_pos hy (show 0<H32 by decide);omega)]
 exact half_fit h1 hc
theorem half_brk {q y0 r n:Nat} (hq:q<=H32) (hy0:y0<H32) (hr:H32<=r):q*y0<=H32*r+n:=by
 have h1:q*y0<=H32*H32:=Nat.mul_le_mul hq (Nat.le_of_lt hy0)
 have h2:H32*H32<=H32*r:=Nat.mul_le_mul_left _ hr
 omega
theorem half_start {U y1 y0 n:Nat} (hy1:2147483648<=y1) (hy1':y1<H32) (hy0:y0<H32) (hU:U<y1*H32+y0) (hn:n<H32):HalfInv U y1 y0 n (U / y1) (U-U / y1*y1):=by
 have hpos:0<y1:=by omega
 have hd:=Nat.div_mul_le_self U y1
 have hl:=Nat.lt_mul_div_succ U hpos
 rw[Nat.mul_add,Nat.mul_one,Nat.mul_comm]at hl
 refine⟨by omega,?_,?_,by unfold H32 at *;omega⟩
 · rw[Nat.le_div_iff_mul_le hpos]
   have h1:=Nat.div_mul_le_self (U*H32+n) (y1*H32+y0)
   obtain⟨Q,hQ⟩:∃Q,Q=(U*H32+n) / (y1*H32+y0):=⟨_,rfl⟩
   rw[<-hQ]at h1 ⊢
   have h2:Q*y1*H32<=Q*(y1*H32+y0):=by rw[Nat.mul_assoc];exact Nat.mul_le_mul_left _ (by omega)
   have h3:Q*y1*H32<(U+1)*H32:=by rw[Nat.add_mul];omega
   have:=Nat.lt_of_mul_lt_mul_right h3
   omega
 · have h1:U / y1*y1<=U:=hd
   rcases Nat.lt_or_ge (H32+1) (U / y1) with h|h
   · exfalso
     have h2:(H32+2)*y1<=U / y1*y1:=Nat.mul_le_mul_right _ h
     rw[Nat.add_mul,Nat.mul_comm H32]at h2
     unfold H32 at *
     omega
   · exact h
theorem zau {U n P R:Nat} (h:R+P=U*4294967296+n) (hR:R<18446744073709551616):
 IntKind.u64.wrap (IntKind.u64.wrap (IntKind.u64.wrap ((U:Int)*4294967296)+(n:Int))-IntKind.u64.wrap (P:Int))=(R:Int):=by
 simp only[IntKind.wrap_u64];omega
theorem zbp {q k z:Nat} (h:q*4294967296+k=z) (hz:z<18446744073709551616):IntKind.u64.wrap (IntKind.u64.wrap ((q:Int)*4294967296)+(k:Int))=(z:Int):=by
 simp only[IntKind.wrap_u64];omega
theorem wrap_mul {a b P:Nat} (h:P=a*b) (hP:P<18446744073709551616):IntKind.u64.wrap ((a:Int)*(b:Int))=(P:Int):=by
 rw[<-Int.natCast_mul,<-h,IntKind.wrap_u64];omega
theorem wrap_sub {a b r:Nat} (h:b+r=a) (ha:a<18446744073709551616):IntKind.u64.wrap ((a:Int)-(b:Int))=(r:Int):=by
 rw[IntKind.wrap_u64];omega
theorem zav {U n y1 y0 Q Y:Nat} (hQ:(U*H32+n) / (y1*H32+y0)=Q) (hY:Y=y1*H32+y0) (hYp:0<Y):∃R P,P=Q*Y/\R+P=U*4294967296+n/\R<Y/\R=(U*H32+n) % Y:=by
 refine⟨(U*H32+n) % Y,Q*Y,rfl,?_,Nat.mod_lt _ hYp,rfl⟩
 have:=Nat.mod_add_div (U*H32+n) Y
 rw[<-hY]at hQ
 rw[hQ,Nat.mul_comm Y]at this
 exact this
theorem zbe {hi lo y s U n1 n0 Y Q R1 Q0 R0:Nat} (hfull:(U*H32+n1)*H32+n0=(hi*B+lo)*2 ^ s) (hYy:Y=y*2 ^ s) (hYp:0<Y) (hU:U<Y) (hn1:n1<H32) (hn0:n0<H32)
 (hQ:(U*H32+n1) / Y=Q) (hR1:R1=(U*H32+n1) % Y) (hQ0:(R1*H32+n0) / Y=Q0) (hR0:R0=(R1*H32+n0) % Y):
 Q*4294967296+Q0=(hi*B+lo) / y/\R0 / 2 ^ s=(hi*B+lo) % y:=by
 have h2:0<2 ^ s:=Nat.pow_pos (by omega)
 have ht:=two_halves (u:=U) (n1:=n1) (n0:=n0) (y:=Y) (H:=H32) hYp hn0 hn1 hU
 rw[hQ,<-hR1,hQ0,<-hR0,hfull,hYy,div_shift h2,mod_shift]at ht
 refine⟨ht.1,?_⟩
 rw[ht.2,Nat.mul_div_cancel _ h2]
theorem Div64_high (hi lo y s Y y1 y0 U L n1 n0:Nat) (hhi:0<hi) (hlo:lo<B) (hy:hi<y) (hyB:y<B) (e1:IntKind.u64.wrap (64-(Lib.bitLen y:Int))=(s:Int)) (e1':min s 64=s)
 (e2:IntKind.u64.wrap ((y:Int)*2 ^ s)=(Y:Int)) (e3:(Y:Int) / 4294967296=(y1:Int)) (e4:bits .and .u64 (Y:Int) 4294967295=(y0:Int)) (hy1:2147483648<=y1) (hy1':y1<4294967296) (hy0:y0<4294967296)
 (e5:bits .or .u64 (IntKind.u64.wrap ((hi:Int)*2 ^ s)) ((lo:Int) / 2 ^ (64-s))=(U:Int)) (e6:IntKind.u64.wrap ((lo:Int)*2 ^ s)=(L:Int)) (e7:(L:Int) / 4294967296=(n1:Int)) (e8:bits .and .u64 (L:Int) 4294967295=(n0:Int))
 (hn1:n1<4294967296) (hn0:n0<4294967296) (hU:U<Y) (hY:Y=y1*H32+y0) (hYB:Y<B) (hfull:(U*H32+n1)*H32+n0=(hi*B+lo)*2 ^ s) (hYy:Y=y*2 ^ s) (z t:Nat) (hz:z=(hi*B+lo) / y) (ht:t=(hi*B+lo) % y) (w:World):
 Calls Tryz.prog 212 #[.int .u64 (hi:Int),.int .u64 (lo:Int),.int .u64 (y:Int)] w fun e w'=>e=.returned (.tuple #[.int .u64 (z:Int),.int .u64 (t:Int)])/\w=w':=by
 have h1:((y:Int) == 0)=false:=by rw[beq_eq_false_iff_ne];omega
 have h2:((hi:Int) == 0)=false:=by rw[beq_eq_false_iff_ne];omega
 have h3:decide (y<=hi)=false:=by simp;omega
 have h4:(y1:Int)≠0:=by omega
 have HH:=half_start (n:=n1) hy1 hy1' hy0 (hY▸hU) hn1
 obtain⟨q0,hq0⟩:∃q0,q0=U / y1:=⟨_,rfl⟩
 obtain⟨r0,hr0⟩:∃r0,r0=U-q0*y1:=⟨_,rfl⟩
 have e9:(U:Int) / (y1:Int)=(q0:Int):=by rw[hq0];rfl
 rw[<-hq0,<-hr0]at HH
 have hq0b:q0<=4294967297:=HH.2.2.1
 have hr0b:r0<4294967296:=HH.2.2.2
 obtain⟨P0,hP0⟩:∃P0,P0=q0*y1:=⟨_,rfl⟩
 have hPU:P0+r0=U:=hP0▸HH.1
 have hUB:U<18446744073709551616:=by unfold B at hYB;omega
 have e10:IntKind.u64.wrap ((q0:Int)*(y1:Int))=(P0:Int):=by rw[<-Int.natCast_mul,<-hP0,IntKind.wrap_u64];omega
 have e11:IntKind.u64.wrap ((U:Int)-(P0:Int))=(r0:Int):=by rw[IntKind.wrap_u64];omega
 have HHH:=Lib.hid HH
 clear hP0 hPU hUB
 have HY:=Lib.hid hY;have HU:=Lib.hid hU
 have hYp:0<Y:=by omega
 have HF:=Lib.hid hfull;have HYy:=Lib.hid hYy;have HZ:=Lib.hid hz;have HT:=Lib.hid ht
 clear hq0 hr0 hY HH hU hfull hYy hz ht
 go_enter Tryz.func212,Tryz.ntmps212
 go_wp2_with (go_at_call 245;refine(Tryz.bits_LeadingZeros64 _ _ (by omega) (by unfold B at *;omega)).mono ?_;rintro e w' ⟨rfl,rfl⟩)
 have HV:=Lib.hid (show 0<y1*H32+y0 from by unfold H32;omega)
 clear e1 e2 e3 e4 e5 e6 e7 e8 e9 e10 e11
 go_loop [15,16] (fun a b=>∃q r:Nat,a=.int .u64 (q:Int)/\b=.int .u64 (r:Int)/\q<=4294967297/\r<4294967296/\Hid (HalfInv U y1 y0 n1 q r)) (fun a _=>(intOf a).toNat)
 case atStart=>exact⟨q0,r0,rfl,rfl,hq0b,hr0b,HHH⟩
 case round=>
  obtain⟨q,r,rfl,rfl,hq,hr,hI⟩:=hrel
  by_cases hqH:4294967296<=q
  · have hst:=zbh hI.out (HY.out▸HU.out) hn1 (.inl hqH)
    obtain⟨k,hk⟩:∃k,k=q-1:=⟨_,rfl⟩
    rw[<-hk]at hst
    have e21:(q:Int)-1=(k:Int):=by omega
    have hk1:k+1<=4294967297:=by omega
    have KQ:=Lib.hid (show k<q by omega)
    have ST:=Lib.hid hst;clear hst hk
    have hgd:decide ((4294967296:Int)<=(q:Int))=true:=decide_eq_true (by omega)
    by_cases hbr:4294967296<=r+y1
    · have hbd:decide ((4294967296:Int)<=(r:Int)+(y1:Int))=true:=decide_eq_true (by omega)
      have hex:=zaw (n:=n1) (q:=k) (r:=r+y1) ST.out.2.1 ST.out.2.2.1 (by omega) (half_brk ST.out.2.2.2 hy0 hbr)
      obtain⟨R1,P1,hP1,hRP,hR1,hR1e⟩:=zav hex HY.out hYp
      have e12:=zau hRP (by unfold B at hYB;omega)
      have e12':IntKind.u64.wrap ((k:Int)*(Y:Int))=IntKind.u64.wrap (P1:Int):=by rw[hP1,Int.natCast_mul]
      rw[<-e12']at e12
      have HH2:=half_start (n:=n0) hy1 hy1' hy0 (HY.out▸hR1) hn0
      obtain⟨q2,hq2⟩:∃q2,q2=R1 / y1:=⟨_,rfl⟩
      obtain⟨r2,hr2⟩:∃r2,r2=R1-q2*y1:=⟨_,rfl⟩
      have e13:(R1:Int) / (y1:Int)=(q2:Int):=by rw[hq2];rfl
      rw[<-hq2,<-hr2]at HH2
      have hq2b:q2<=4294967297:=HH2.2.2.1
      have hr2b:r2<4294967296:=HH2.2.2.2
      obtain⟨P2,hP2⟩:∃P2,P2=q2*y1:=⟨_,rfl⟩
      have hPU:P2+r2=R1:=hP2▸HH2.1
      have e14:=wrap_mul hP2 (by unfold B at hYB;omega)
      have e15:=wrap_sub hPU (by unfold B at hYB;omega)
      have HH2':=Lib.hid HH2;have HEX:=Lib.hid (show(U*H32+n1) / Y=k by rw[HY.out];exact hex);have HR1:=Lib.hid hR1e
      clear hq2 hr2 hP2 hPU HH2 hP1 hRP hR1e e12' hex
      go_wp2
      clear e12 e13 e14 e15
      go_loop [18,16] (fun a b=>∃q r:Nat,a=.int .u64 (q:Int)/\b=.int .u64 (r:Int)/\q<=4294967297/\r<4294967296/\Hid (HalfInv R1 y1 y0 n0 q r)) (fun a _=>(intOf a).toNat)
      case atStart=>exact⟨q2,r2,rfl,rfl,hq2b,hr2b,HH2'⟩
      case round=>
       clear hI
       obtain⟨q,r,rfl,rfl,hq,hr,hI⟩:=hrel
       by_cases hqH:4294967296<=q
       · have hst:=zbh hI.out (HY.out▸hR1) hn0 (.inl hqH)
         obtain⟨k,hk⟩:∃k,k=q-1:=⟨_,rfl⟩
         rw[<-hk]at hst
         have e21:(q:Int)-1=(k:Int):=by omega
         have hk1:k+1<=4294967297:=by omega
         have KQ:=Lib.hid (show k<q by omega)
         have ST:=Lib.hid hst;clear hst hk
         have hgd:decide ((4294967296:Int)<=(q:Int))=true:=decide_eq_true (by omega)
         by_cases hbr:4294967296<=r+y1
         · have hbd:decide ((4294967296:Int)<=(r:Int)+(y1:Int))=true:=decide_eq_true (by omega)
           have hex:=zaw (n:=n0) (q:=k) (r:=r+y1) ST.out.2.1 ST.out.2.2.1 (by omega) (half_brk ST.out.2.2.2 hy0 hbr)
           obtain⟨R0,P3,hP3,hRP3,hR0,hR0e⟩:=zav hex HY.out hYp
           have hfin:=zbe HF.out HYy.out hYp HU.out hn1 hn0 HEX.out HR1.out (show(R1*H32+n0) / Y=k by rw[HY.out];exact hex) hR0e
           rw[<-HZ.out,<-HT.out]at hfin
           have hzB:z<18446744073709551616:=by
            rw[HZ.out];refine Nat.div_lt_of_lt_mul ?_
            have:(hi+1)*B<=y*B:=Nat.mul_le_mul_right _ hy
            rw[Nat.add_mul]at this
            unfold B at *
            omega
           have e30:=zau hRP3 (by unfold B at hYB;omega)
           have e31:=zbp hfin.1 hzB
           have e32:IntKind.u64.wrap ((k:Int)*(Y:Int))=IntKind.u64.wrap (P3:Int):=by rw[hP3,Int.natCast_mul]
           rw[<-e32]at e30
           have e33:(R0:Int) / 2 ^ s=(t:Int):=by rw[<-hfin.2];norm_cast
           have F1:=Lib.hid hfin.1;have ZB:=Lib.hid hzB
           clear hP3 hRP3 hR0e hfin e32 hex hzB
           go_wp2
           go_ret2
           exact⟨ret_two (by first|rfl|(have:=F1.out;have:=ZB.out;omega)|(have:=F1.out;have:=ZB.out;simp only[IntKind.wrap_u64];omega)) (by first|rfl|exact e33),rfl⟩
         · have hbd:decide ((4294967296:Int)<=(r:Int)+(y1:Int))=false:=decide_eq_false (by omega)
           go_wp2
           go_round
           case rel=>exact⟨k,r+y1,by go_num,by go_num,by omega,by omega,Lib.hid ⟨ST.out.2.1,ST.out.2.2.1,by have:=ST.out.2.2.2;omega,by unfold H32;omega⟩⟩
           case measure=>have:=KQ.out;simp[intOf];omega
       · have hgd:decide ((4294967296:Int)<=(q:Int))=false:=decide_eq_false (by omega)
         obtain⟨P,hP⟩:∃P,P=q*y0:=⟨_,rfl⟩
         have hPb:P<18446744073709551616:=by
          have:q*y0<=4294967295*4294967295:=Nat.mul_le_mul (by omega) (by omega)
          omega
         have e20:=wrap_mul hP hPb
         by_cases hov:4294967296*r+n0<P
         · have hst:=zbh hI.out (HY.out▸hR1) hn0 (.inr (by rw[<-hP];exact hov))
           obtain⟨k,hk⟩:∃k,k=q-1:=⟨_,rfl⟩
           rw[<-hk]at hst
           have hq1:1<=q:=hst.1
           have e21:(q:Int)-1=(k:Int):=by omega
           have hk1:k+1<=4294967296:=by omega
           have KQ:=Lib.hid (show k<q by omega)
           have ST:=Lib.hid hst;clear hst hP hk
           have hov':(4294967296:Int)*(r:Int)+(n0:Int)<(P:Int):=by omega
           by_cases hbr:4294967296<=r+y1
           · have hbd:decide ((4294967296:Int)<=(r:Int)+(y1:Int))=true:=decide_eq_true (by omega)
             have hex:=zaw (n:=n0) (q:=k) (r:=r+y1) ST.out.2.1 ST.out.2.2.1 (by omega) (half_brk ST.out.2.2.2 hy0 hbr)
             obtain⟨R0,P3,hP3,hRP3,hR0,hR0e⟩:=zav hex HY.out hYp
             have hfin:=zbe HF.out HYy.out hYp HU.out hn1 hn0 HEX.out HR1.out (show(R1*H32+n0) / Y=k by rw[HY.out];exact hex) hR0e
             rw[<-HZ.out,<-HT.out]at hfin
             have hzB:z<18446744073709551616:=by
              rw[HZ.out];refine Nat.div_lt_of_lt_mul ?_
              have:(hi+1)*B<=y*B:=Nat.mul_le_mul_right _ hy
              rw[Nat.add_mul]at this
              unfold B at *
              omega
             have e30:=zau hRP3 (by unfold B at hYB;omega)
             have e31:=zbp hfin.1 hzB
             have e32:IntKind.u64.wrap ((k:Int)*(Y:Int))=IntKind.u64.wrap (P3:Int):=by rw[hP3,Int.natCast_mul]
             rw[<-e32]at e30
             have e33:(R0:Int) / 2 ^ s=(t:Int):=by rw[<-hfin.2];norm_cast
             have F1:=Lib.hid hfin.1;have ZB:=Lib.hid hzB
             clear hP3 hRP3 hR0e hfin e32 hex hzB
             go_wp2
             go_ret2
             exact⟨ret_two (by first|rfl|(have:=F1.out;have:=ZB.out;omega)|(have:=F1.out;have:=ZB.out;simp only[IntKind.wrap_u64];omega)) (by first|rfl|exact e33),rfl⟩
           · have hbd:decide ((4294967296:Int)<=(r:Int)+(y1:Int))=false:=decide_eq_false (by omega)
             go_wp2
             go_round
             case rel=>exact⟨k,r+y1,by go_num,by go_num,by omega,by omega,Lib.hid ⟨ST.out.2.1,ST.out.2.2.1,by have:=ST.out.2.2.2;omega,by unfold H32;omega⟩⟩
             case measure=>have:=KQ.out;simp[intOf];omega
         · have hex:=zaw (n:=n0) hI.out.1 hI.out.2.1 (by omega) (by rw[<-hP];unfold H32;omega)
           have hov':(P:Int)<=(4294967296:Int)*(r:Int)+(n0:Int):=by omega
           clear hP hov
           obtain⟨R0,P3,hP3,hRP3,hR0,hR0e⟩:=zav hex HY.out hYp
           have hfin:=zbe HF.out HYy.out hYp HU.out hn1 hn0 HEX.out HR1.out (show(R1*H32+n0) / Y=q by rw[HY.out];exact hex) hR0e
           rw[<-HZ.out,<-HT.out]at hfin
           have hzB:z<18446744073709551616:=by
            rw[HZ.out];refine Nat.div_lt_of_lt_mul ?_
            have:(hi+1)*B<=y*B:=Nat.mul_le_mul_right _ hy
            rw[Nat.add_mul]at this
            unfold B at *
            omega
           have e30:=zau hRP3 (by unfold B at hYB;omega)
           have e31:=zbp hfin.1 hzB
           have e32:IntKind.u64.wrap ((q:Int)*(Y:Int))=IntKind.u64.wrap (P3:Int):=by rw[hP3,Int.natCast_mul]
           rw[<-e32]at e30
           have e33:(R0:Int) / 2 ^ s=(t:Int):=by rw[<-hfin.2];norm_cast
           have F1:=Lib.hid hfin.1;have ZB:=Lib.hid hzB
           clear hP3 hRP3 hR0e hfin e32 hex hzB
           go_wp2
           go_ret2
           exact⟨ret_two (by first|rfl|(have:=F1.out;have:=ZB.out;omega)|(have:=F1.out;have:=ZB.out;simp only[IntKind.wrap_u64];omega)) (by first|rfl|exact e33),rfl⟩
    · have hbd:decide ((4294967296:Int)<=(r:Int)+(y1:Int))=false:=decide_eq_false (by omega)
      go_wp2
      go_round
      case rel=>exact⟨k,r+y1,by go_num,by go_num,by omega,by omega,Lib.hid ⟨ST.out.2.1,ST.out.2.2.1,by have:=ST.out.2.2.2;omega,by unfold H32;omega⟩⟩
      case measure=>have:=KQ.out;simp[intOf];omega
  · have hgd:decide ((4294967296:Int)<=(q:Int))=false:=decide_eq_false (by omega)
    obtain⟨P,hP⟩:∃P,P=q*y0:=⟨_,rfl⟩
    have hPb:P<18446744073709551616:=by
     have:q*y0<=4294967295*4294967295:=Nat.mul_le_mul (by omega) (by omega)
     omega
    have e20:=wrap_mul hP hPb
    by_cases hov:4294967296*r+n1<P
    · have hst:=zbh hI.out (HY.out▸HU.out) hn1 (.inr (by rw[<-hP];exact hov))
      obtain⟨k,hk⟩:∃k,k=q-1:=⟨_,rfl⟩
      rw[<-hk]at hst
      have hq1:1<=q:=hst.1
      have e21:(q:Int)-1=(k:Int):=by omega
      have hk1:k+1<=4294967296:=by omega
      have KQ:=Lib.hid (show k<q by omega)
      have ST:=Lib.hid hst;clear hst hP hk
      have hov':(4294967296:Int)*(r:Int)+(n1:Int)<(P:Int):=by omega
      by_cases hbr:4294967296<=r+y1
      · have hbd:decide ((4294967296:Int)<=(r:Int)+(y1:Int))=true:=decide_eq_true (by omega)
        have hex:=zaw (n:=n1) (q:=k) (r:=r+y1) ST.out.2.1 ST.out.2.2.1 (by omega) (half_brk ST.out.2.2.2 hy0 hbr)
        obtain⟨R1,P1,hP1,hRP,hR1,hR1e⟩:=zav hex HY.out hYp
        have e12:=zau hRP (by unfold B at hYB;omega)
        have e12':IntKind.u64.wrap ((k:Int)*(Y:Int))=IntKind.u64.wrap (P1:Int):=by rw[hP1,Int.natCast_mul]
        rw[<-e12']at e12
        have HH2:=half_start (n:=n0) hy1 hy1' hy0 (HY.out▸hR1) hn0
        obtain⟨q2,hq2⟩:∃q2,q2=R1 / y1:=⟨_,rfl⟩
        obtain⟨r2,hr2⟩:∃r2,r2=R1-q2*y1:=⟨_,rfl⟩
        have e13:(R1:Int) / (y1:Int)=(q2:Int):=by rw[hq2];rfl
        rw[<-hq2,<-hr2]at HH2
        have hq2b:q2<=4294967297:=HH2.2.2.1
        have hr2b:r2<4294967296:=HH2.2.2.2
        obtain⟨P2,hP2⟩:∃P2,P2=q2*y1:=⟨_,rfl⟩
        have hPU:P2+r2=R1:=hP2▸HH2.1
        have e14:=wrap_mul hP2 (by unfold B at hYB;omega)
        have e15:=wrap_sub hPU (by unfold B at hYB;omega)
        have HH2':=Lib.hid HH2;have HEX:=Lib.hid (show(U*H32+n1) / Y=k by rw[HY.out];exact hex);have HR1:=Lib.hid hR1e
        clear hq2 hr2 hP2 hPU HH2 hP1 hRP hR1e e12' hex
        go_wp2
        clear e12 e13 e14 e15
        go_loop [18,16] (fun a b=>∃q r:Nat,a=.int .u64 (q:Int)/\b=.int .u64 (r:Int)/\q<=4294967297/\r<4294967296/\Hid (HalfInv R1 y1 y0 n0 q r)) (fun a _=>(intOf a).toNat)
        case atStart=>exact⟨q2,r2,rfl,rfl,hq2b,hr2b,HH2'⟩
        case round=>
         clear hI
         obtain⟨q,r,rfl,rfl,hq,hr,hI⟩:=hrel
         by_cases hqH:4294967296<=q
         · have hst:=zbh hI.out (HY.out▸hR1) hn0 (.inl hqH)
           obtain⟨k,hk⟩:∃k,k=q-1:=⟨_,rfl⟩
           rw[<-hk]at hst
           have e21:(q:Int)-1=(k:Int):=by omega
           have hk1:k+1<=4294967297:=by omega
           have KQ:=Lib.hid (show k<q by omega)
           have ST:=Lib.hid hst;clear hst hk
           have hgd:decide ((4294967296:Int)<=(q:Int))=true:=decide_eq_true (by omega)
           by_cases hbr:4294967296<=r+y1
           · have hbd:decide ((4294967296:Int)<=(r:Int)+(y1:Int))=true:=decide_eq_true (by omega)
             have hex:=zaw (n:=n0) (q:=k) (r:=r+y1) ST.out.2.1 ST.out.2.2.1 (by omega) (half_brk ST.out.2.2.2 hy0 hbr)
             obtain⟨R0,P3,hP3,hRP3,hR0,hR0e⟩:=zav hex HY.out hYp
             have hfin:=zbe HF.out HYy.out hYp HU.out hn1 hn0 HEX.out HR1.out (show(R1*H32+n0) / Y=k by rw[HY.out];exact hex) hR0e
             rw[<-HZ.out,<-HT.out]at hfin
             have hzB:z<18446744073709551616:=by
              rw[HZ.out];refine Nat.div_lt_of_lt_mul ?_
              have:(hi+1)*B<=y*B:=Nat.mul_le_mul_right _ hy
              rw[Nat.add_mul]at this
              unfold B at *
              omega
             have e30:=zau hRP3 (by unfold B at hYB;omega)
             have e31:=zbp hfin.1 hzB
             have e32:IntKind.u64.wrap ((k:Int)*(Y:Int))=IntKind.u64.wrap (P3:Int):=by rw[hP3,Int.natCast_mul]
             rw[<-e32]at e30
             have e33:(R0:Int) / 2 ^ s=(t:Int):=by rw[<-hfin.2];norm_cast
             have F1:=Lib.hid hfin.1;have ZB:=Lib.hid hzB
             clear hP3 hRP3 hR0e hfin e32 hex hzB
             go_wp2
             go_ret2
             exact⟨ret_two (by first|rfl|(have:=F1.out;have:=ZB.out;omega)|(have:=F1.out;have:=ZB.out;simp only[IntKind.wrap_u64];omega)) (by first|rfl|exact e33),rfl⟩
           · have hbd:decide ((4294967296:Int)<=(r:Int)+(y1:Int))=false:=decide_eq_false (by omega)
             go_wp2
             go_round
             case rel=>exact⟨k,r+y1,by go_num,by go_num,by omega,by omega,Lib.hid ⟨ST.out.2.1,ST.out.2.2.1,by have:=ST.out.2.2.2;omega,by unfold H32;omega⟩⟩
             case measure=>have:=KQ.out;simp[intOf];omega
         · have hgd:decide ((4294967296:Int)<=(q:Int))=false:=decide_eq_false (by omega)
           obtain⟨P,hP⟩:∃P,P=q*y0:=⟨_,rfl⟩
           have hPb:P<18446744073709551616:=by
            have:q*y0<=4294967295*4294967295:=Nat.mul_le_mul (by omega) (by omega)
            omega
           have e20:=wrap_mul hP hPb
           by_cases hov:4294967296*r+n0<P
           · have hst:=zbh hI.out (HY.out▸hR1) hn0 (.inr (by rw[<-hP];exact hov))
             obtain⟨k,hk⟩:∃k,k=q-1:=⟨_,rfl⟩
             rw[<-hk]at hst
             have hq1:1<=q:=hst.1
             have e21:(q:Int)-1=(k:Int):=by omega
             have hk1:k+1<=4294967296:=by omega
             have KQ:=Lib.hid (show k<q by omega)
             have ST:=Lib.hid hst;clear hst hP hk
             have hov':(4294967296:Int)*(r:Int)+(n0:Int)<(P:Int):=by omega
             by_cases hbr:4294967296<=r+y1
             · have hbd:decide ((4294967296:Int)<=(r:Int)+(y1:Int))=true:=decide_eq_true (by omega)
               have hex:=zaw (n:=n0) (q:=k) (r:=r+y1) ST.out.2.1 ST.out.2.2.1 (by omega) (half_brk ST.out.2.2.2 hy0 hbr)
               obtain⟨R0,P3,hP3,hRP3,hR0,hR0e⟩:=zav hex HY.out hYp
               have hfin:=zbe HF.out HYy.out hYp HU.out hn1 hn0 HEX.out HR1.out (show(R1*H32+n0) / Y=k by rw[HY.out];exact hex) hR0e
               rw[<-HZ.out,<-HT.out]at hfin
               have hzB:z<18446744073709551616:=by
                rw[HZ.out];refine Nat.div_lt_of_lt_mul ?_
                have:(hi+1)*B<=y*B:=Nat.mul_le_mul_right _ hy
                rw[Nat.add_mul]at this
                unfold B at *
                omega
               have e30:=zau hRP3 (by unfold B at hYB;omega)
               have e31:=zbp hfin.1 hzB
               have e32:IntKind.u64.wrap ((k:Int)*(Y:Int))=IntKind.u64.wrap (P3:Int):=by rw[hP3,Int.natCast_mul]
               rw[<-e32]at e30
               have e33:(R0:Int) / 2 ^ s=(t:Int):=by rw[<-hfin.2];norm_cast
               have F1:=Lib.hid hfin.1;have ZB:=Lib.hid hzB
               clear hP3 hRP3 hR0e hfin e32 hex hzB
               go_wp2
               go_ret2
               exact⟨ret_two (by first|rfl|(have:=F1.out;have:=ZB.out;omega)|(have:=F1.out;have:=ZB.out;simp only[IntKind.wrap_u64];omega)) (by first|rfl|exact e33),rfl⟩
             · have hbd:decide ((4294967296:Int)<=(r:Int)+(y1:Int))=false:=decide_eq_false (by omega)
               go_wp2
               go_round
               case rel=>exact⟨k,r+y1,by go_num,by go_num,by omega,by omega,Lib.hid ⟨ST.out.2.1,ST.out.2.2.1,by have:=ST.out.2.2.2;omega,by unfold H32;omega⟩⟩
               case measure=>have:=KQ.out;simp[intOf];omega
           · have hex:=zaw (n:=n0) hI.out.1 hI.out.2.1 (by omega) (by rw[<-hP];unfold H32;omega)
             have hov':(P:Int)<=(4294967296:Int)*(r:Int)+(n0:Int):=by omega
             clear hP hov
             obtain⟨R0,P3,hP3,hRP3,hR0,hR0e⟩:=zav hex HY.out hYp
             have hfin:=zbe HF.out HYy.out hYp HU.out hn1 hn0 HEX.out HR1.out (show(R1*H32+n0) / Y=q by rw[HY.out];exact hex) hR0e
             rw[<-HZ.out,<-HT.out]at hfin
             have hzB:z<18446744073709551616:=by
              rw[HZ.out];refine Nat.div_lt_of_lt_mul ?_
              have:(hi+1)*B<=y*B:=Nat.mul_le_mul_right _ hy
              rw[Nat.add_mul]at this
              unfold B at *
              omega
             have e30:=zau hRP3 (by unfold B at hYB;omega)
             have e31:=zbp hfin.1 hzB
             have e32:IntKind.u64.wrap ((q:Int)*(Y:Int))=IntKind.u64.wrap (P3:Int):=by rw[hP3,Int.natCast_mul]
             rw[<-e32]at e30
             have e33:(R0:Int) / 2 ^ s=(t:Int):=by rw[<-hfin.2];norm_cast
             have F1:=Lib.hid hfin.1;have ZB:=Lib.hid hzB
             clear hP3 hRP3 hR0e hfin e32 hex hzB
             go_wp2
             go_ret2
             exact⟨ret_two (by first|rfl|(have:=F1.out;have:=ZB.out;omega)|(have:=F1.out;have:=ZB.out;simp only[IntKind.wrap_u64];omega)) (by first|rfl|exact e33),rfl⟩
      · have hbd:decide ((4294967296:Int)<=(r:Int)+(y1:Int))=false:=decide_eq_false (by omega)
        go_wp2
        go_round
        case rel=>exact⟨k,r+y1,by go_num,by go_num,by omega,by omega,Lib.hid ⟨ST.out.2.1,ST.out.2.2.1,by have:=ST.out.2.2.2;omega,by unfold H32;omega⟩⟩
        case measure=>have:=KQ.out;simp[intOf];omega
    · have hex:=zaw (n:=n1) hI.out.1 hI.out.2.1 (by omega) (by rw[<-hP];unfold H32;omega)
      have hov':(P:Int)<=(4294967296:Int)*(r:Int)+(n1:Int):=by omega
      clear hP hov
      obtain⟨R1,P1,hP1,hRP,hR1,hR1e⟩:=zav hex HY.out hYp
      have e12:=zau hRP (by unfold B at hYB;omega)
      have e12':IntKind.u64.wrap ((q:Int)*(Y:Int))=IntKind.u64.wrap (P1:Int):=by rw[hP1,Int.natCast_mul]
      rw[<-e12']at e12
      have HH2:=half_start (n:=n0) hy1 hy1' hy0 (HY.out▸hR1) hn0
      obtain⟨q2,hq2⟩:∃q2,q2=R1 / y1:=⟨_,rfl⟩
      obtain⟨r2,hr2⟩:∃r2,r2=R1-q2*y1:=⟨_,rfl⟩
      have e13:(R1:Int) / (y1:Int)=(q2:Int):=by rw[hq2];rfl
      rw[<-hq2,<-hr2]at HH2
      have hq2b:q2<=4294967297:=HH2.2.2.1
      have hr2b:r2<4294967296:=HH2.2.2.2
      obtain⟨P2,hP2⟩:∃P2,P2=q2*y1:=⟨_,rfl⟩
      have hPU:P2+r2=R1:=hP2▸HH2.1
      have e14:=wrap_mul hP2 (by unfold B at hYB;omega)
      have e15:=wrap_sub hPU (by unfold B at hYB;omega)
      have HH2':=Lib.hid HH2;have HEX:=Lib.hid (show(U*H32+n1) / Y=q by rw[HY.out];exact hex);have HR1:=Lib.hid hR1e
      clear hq2 hr2 hP2 hPU HH2 hP1 hRP hR1e e12' hex
      go_wp2
      clear e12 e13 e14 e15
      go_loop [18,16] (fun a b=>∃q r:Nat,a=.int .u64 (q:Int)/\b=.int .u64 (r:Int)/\q<=4294967297/\r<4294967296/\Hid (HalfInv R1 y1 y0 n0 q r)) (fun a _=>(intOf a).toNat)
      case atStart=>exact⟨q2,r2,rfl,rfl,hq2b,hr2b,HH2'⟩
      case round=>
       clear hI
       obtain⟨q,r,rfl,rfl,hq,hr,hI⟩:=hrel
       by_cases hqH:4294967296<=q
       · have hst:=zbh hI.out (HY.out▸hR1) hn0 (.inl hqH)
         obtain⟨k,hk⟩:∃k,k=q-1:=⟨_,rfl⟩
         rw[<-hk]at hst
         have e21:(q:Int)-1=(k:Int):=by omega
         have hk1:k+1<=4294967297:=by omega
         have KQ:=Lib.hid (show k<q by omega)
         have ST:=Lib.hid hst;clear hst hk
         have hgd:decide ((4294967296:Int)<=(q:Int))=true:=decide_eq_true (by omega)
         by_cases hbr:4294967296<=r+y1
         · have hbd:decide ((4294967296:Int)<=(r:Int)+(y1:Int))=true:=decide_eq_true (by omega)
           have hex:=zaw (n:=n0) (q:=k) (r:=r+y1) ST.out.2.1 ST.out.2.2.1 (by omega) (half_brk ST.out.2.2.2 hy0 hbr)
           obtain⟨R0,P3,hP3,hRP3,hR0,hR0e⟩:=zav hex HY.out hYp
           have hfin:=zbe HF.out HYy.out hYp HU.out hn1 hn0 HEX.out HR1.out (show(R1*H32+n0) / Y=k by rw[HY.out];exact hex) hR0e
           rw[<-HZ.out,<-HT.out]at hfin
           have hzB:z<18446744073709551616:=by
            rw[HZ.out];refine Nat.div_lt_of_lt_mul ?_
            have:(hi+1)*B<=y*B:=Nat.mul_le_mul_right _ hy
            rw[Nat.add_mul]at this
            unfold B at *
            omega
           have e30:=zau hRP3 (by unfold B at hYB;omega)
           have e31:=zbp hfin.1 hzB
           have e32:IntKind.u64.wrap ((k:Int)*(Y:Int))=IntKind.u64.wrap (P3:Int):=by rw[hP3,Int.natCast_mul]
           rw[<-e32]at e30
           have e33:(R0:Int) / 2 ^ s=(t:Int):=by rw[<-hfin.2];norm_cast
           have F1:=Lib.hid hfin.1;have ZB:=Lib.hid hzB
           clear hP3 hRP3 hR0e hfin e32 hex hzB
           go_wp2
           go_ret2
           exact⟨ret_two (by first|rfl|(have:=F1.out;have:=ZB.out;omega)|(have:=F1.out;have:=ZB.out;simp only[IntKind.wrap_u64];omega)) (by first|rfl|exact e33),rfl⟩
         · have hbd:decide ((4294967296:Int)<=(r:Int)+(y1:Int))=false:=decide_eq_false (by omega)
           go_wp2
           go_round
           case rel=>exact⟨k,r+y1,by go_num,by go_num,by omega,by omega,Lib.hid ⟨ST.out.2.1,ST.out.2.2.1,by have:=ST.out.2.2.2;omega,by unfold H32;omega⟩⟩
           case measure=>have:=KQ.out;simp[intOf];omega
       · have hgd:decide ((4294967296:Int)<=(q:Int))=false:=decide_eq_false (by omega)
         obtain⟨P,hP⟩:∃P,P=q*y0:=⟨_,rfl⟩
         have hPb:P<18446744073709551616:=by
          have:q*y0<=4294967295*4294967295:=Nat.mul_le_mul (by omega) (by omega)
          omega
         have e20:=wrap_mul hP hPb
         by_cases hov:4294967296*r+n0<P
         · have hst:=zbh hI.out (HY.out▸hR1) hn0 (.inr (by rw[<-hP];exact hov))
           obtain⟨k,hk⟩:∃k,k=q-1:=⟨_,rfl⟩
           rw[<-hk]at hst
           have hq1:1<=q:=hst.1
           have e21:(q:Int)-1=(k:Int):=by omega
           have hk1:k+1<=4294967296:=by omega
           have KQ:=Lib.hid (show k<q by omega)
           have ST:=Lib.hid hst;clear hst hP hk
           have hov':(4294967296:Int)*(r:Int)+(n0:Int)<(P:Int):=by omega
           by_cases hbr:4294967296<=r+y1
           · have hbd:decide ((4294967296:Int)<=(r:Int)+(y1:Int))=true:=decide_eq_true (by omega)
             have hex:=zaw (n:=n0) (q:=k) (r:=r+y1) ST.out.2.1 ST.out.2.2.1 (by omega) (half_brk ST.out.2.2.2 hy0 hbr)
             obtain⟨R0,P3,hP3,hRP3,hR0,hR0e⟩:=zav hex HY.out hYp
             have hfin:=zbe HF.out HYy.out hYp HU.out hn1 hn0 HEX.out HR1.out (show(R1*H32+n0) / Y=k by rw[HY.out];exact hex) hR0e
             rw[<-HZ.out,<-HT.out]at hfin
             have hzB:z<18446744073709551616:=by
              rw[HZ.out];refine Nat.div_lt_of_lt_mul ?_
              have:(hi+1)*B<=y*B:=Nat.mul_le_mul_right _ hy
              rw[Nat.add_mul]at this
              unfold B at *
              omega
             have e30:=zau hRP3 (by unfold B at hYB;omega)
             have e31:=zbp hfin.1 hzB
             have e32:IntKind.u64.wrap ((k:Int)*(Y:Int))=IntKind.u64.wrap (P3:Int):=by rw[hP3,Int.natCast_mul]
             rw[<-e32]at e30
             have e33:(R0:Int) / 2 ^ s=(t:Int):=by rw[<-hfin.2];norm_cast
             have F1:=Lib.hid hfin.1;have ZB:=Lib.hid hzB
             clear hP3 hRP3 hR0e hfin e32 hex hzB
             go_wp2
             go_ret2
             exact⟨ret_two (by first|rfl|(have:=F1.out;have:=ZB.out;omega)|(have:=F1.out;have:=ZB.out;simp only[IntKind.wrap_u64];omega)) (by first|rfl|exact e33),rfl⟩
           · have hbd:decide ((4294967296:Int)<=(r:Int)+(y1:Int))=false:=decide_eq_false (by omega)
             go_wp2
             go_round
             case rel=>exact⟨k,r+y1,by go_num,by go_num,by omega,by omega,Lib.hid ⟨ST.out.2.1,ST.out.2.2.1,by have:=ST.out.2.2.2;omega,by unfold H32;omega⟩⟩
             case measure=>have:=KQ.out;simp[intOf];omega
         · have hex:=zaw (n:=n0) hI.out.1 hI.out.2.1 (by omega) (by rw[<-hP];unfold H32;omega)
           have hov':(P:Int)<=(4294967296:Int)*(r:Int)+(n0:Int):=by omega
           clear hP hov
           obtain⟨R0,P3,hP3,hRP3,hR0,hR0e⟩:=zav hex HY.out hYp
           have hfin:=zbe HF.out HYy.out hYp HU.out hn1 hn0 HEX.out HR1.out (show(R1*H32+n0) / Y=q by rw[HY.out];exact hex) hR0e
           rw[<-HZ.out,<-HT.out]at hfin
           have hzB:z<18446744073709551616:=by
            rw[HZ.out];refine Nat.div_lt_of_lt_mul ?_
            have:(hi+1)*B<=y*B:=Nat.mul_le_mul_right _ hy
            rw[Nat.add_mul]at this
            unfold B at *
            omega
           have e30:=zau hRP3 (by unfold B at hYB;omega)
           have e31:=zbp hfin.1 hzB
           have e32:IntKind.u64.wrap ((q:Int)*(Y:Int))=IntKind.u64.wrap (P3:Int):=by rw[hP3,Int.natCast_mul]
           rw[<-e32]at e30
           have e33:(R0:Int) / 2 ^ s=(t:Int):=by rw[<-hfin.2];norm_cast
           have F1:=Lib.hid hfin.1;have ZB:=Lib.hid hzB
           clear hP3 hRP3 hR0e hfin e32 hex hzB
           go_wp2
           go_ret2
           exact⟨ret_two (by first|rfl|(have:=F1.out;have:=ZB.out;omega)|(have:=F1.out;have:=ZB.out;simp only[IntKind.wrap_u64];omega)) (by first|rfl|exact e33),rfl⟩
end Go.Proofs.YtbhnjkegkadodaaGreatDoor

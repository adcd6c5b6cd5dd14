/- A part of the proof of the statement of this seat: no condition. -/
import Derived.Test.YtbhnjkegkadodaaGreatDoorKN01
import Derived.Lib.BitFns
set_option linter.unusedVariables false
set_option linter.unusedSimpArgs false
set_option maxRecDepth 100000
set_option maxHeartbeats 8000000
namespace Go.Proofs.YtbhnjkegkadodaaGreatDoor
open Go Go.RowKit Go.Proofs Gn
theorem mul64_ex (x y:Nat) (hx:x<B) (hy:y<B):∃hi lo:Nat,
 (∀W,Calls Tryz.prog 83 #[.int .u64 (x:Int),.int .u64 (y:Int)] W fun e w'=>e=.returned (.tuple #[.int .u64 (hi:Int),.int .u64 (lo:Int)])/\W=w')/\lo+B*hi=x*y/\lo<B/\hi<B:=by
 refine⟨x*y / 18446744073709551616,x*y % 18446744073709551616,fun W=>(Tryz.bits_Mul64 x y hx hy W).mono fun e w' h=>⟨h.1,h.2.symm⟩,?_,?_,?_⟩
 · exact Nat.mod_add_div (x*y) B
 · exact Nat.mod_lt _ B_pos
 · refine Nat.div_lt_of_lt_mul ?_
   rcases Nat.eq_zero_or_pos y with h0|h0
   · rw[h0,Nat.mul_zero];decide
   · exact Nat.lt_of_lt_of_le (Nat.mul_lt_mul_of_pos_right hx h0) (Nat.mul_le_mul_left B (Nat.le_of_lt hy))
theorem add64_z (x y:Nat) (hx:x<B) (hy:y<B):∃s d:Nat,
 (∀W,(callFunc 82 #[.int .u64 (x:Int),.int .u64 (y:Int),.int .u64 0]).run Tryz.prog W=.ok (.value (.tuple #[.int .u64 (s:Int),.int .u64 (d:Int)])) W)/\s+B*d=x+y/\s<B/\d<=1:=add64_ex x y 0 hx hy (by omega)
theorem mul_step_fits {p q r c:Nat} (hp:p<B) (hq:q<B) (hr:r<B) (hc:c<B):p*q+r+c<B*B:=by
 have h1:p*q<=(B-1)*(B-1):=Nat.mul_le_mul (by omega) (by omega)
 have h2:(B-1)*(B-1)+(B-1)+(B-1)<B*B:=by decide
 omega
theorem Mul_c {A A':Option Addr} {n c n' c':Nat} {a b:List Nat} {w:World} (ha:NatV 22 w A n c a) (hb:NatV 22 w A' n' c' b) (hn:n<=268435456) (hn':n'<=268435456):
 Calls Tryz.prog 29 #[.slice A n c,.slice A' n' c'] w fun e w'=>∃R m d l,e=.returned (.slice R m d)/\NatV 22 w' R m d l/\Gn.Norm l/\val l=val a*val b/\Below w.heap.size w w'/\NewA w R:=by
 obtain⟨i0,hi0,hz0,hz1,hz2⟩:=info_parts info22
 obtain⟨N,hN⟩:∃N,N=trimLen a:=⟨_,rfl⟩
 obtain⟨M,hM⟩:∃M,M=trimLen b:=⟨_,rfl⟩
 have t1:=ha.trim;have t2:=hb.trim
 rw[<-hN]at t1;rw[<-hM]at t2
 have hNb:N<=268435456:=by have:=trimLen_le a;have:=ha.len;omega
 have hMb:M<=268435456:=by have:=trimLen_le b;have:=hb.len;omega
 have hmk:∀W:World,(Instr.makeSlice 24 (.int .i64 ((N:Int)+(M:Int))) (.int .i64 ((N:Int)+(M:Int)))).run Tryz.prog W=.ok (.slice (some ⟨W.heap.size,0,none⟩) (N+M) (N+M)) (W.alloc (.cells ((List.replicate (N+M) 0).map u64).toArray 22)):=fun W=>by
  have h:=run_make_limbs (P:=Tryz.prog) 24 22 i0 Tryz.underlying24 hi0 hz0 hz1 hz2 (N+M) (by omega) W
  rwa [Int.natCast_add]at h
 obtain⟨x,hx⟩:∃x,x=trim a:=⟨_,rfl⟩
 obtain⟨y,hy⟩:∃y,y=trim b:=⟨_,rfl⟩
 rw[<-hx]at t1;rw[<-hy]at t2
 have Hx:=Lib.hid (show val x=val a from hx▸val_trim _)
 have Hy:=Lib.hid (show val y=val b from hy▸val_trim _)
 have HN:=Lib.hid hN;have HM:=Lib.hid hM;have T1:=Lib.hid t1;have T2:=Lib.hid t2
 have H1:=Lib.hid ha;have H2:=Lib.hid hb
 have lenx:=Lib.hid t1.len;have leny:=Lib.hid t2.len
 have Lx:=Lib.hid t1.lim;have Ly:=Lib.hid t2.lim
 clear hN hM t1 t2 ha hb hx hy
 go_enter Tryz.func29,Tryz.ntmps29
 go_wp2_with (first
  | (go_at_call_of 81 (Value.slice A n c);refine(trim_c H1.out).mono ?_;rintro e w' ⟨rfl,rfl⟩;rw[<-HN.out])
  | (go_at_call_of 81 (Value.slice A' n' c');refine(trim_c H2.out).mono ?_;rintro e w' ⟨rfl,rfl⟩;rw[<-HM.out]))
 clear hmk
 go_loopw [24] (fun i wr=>∃(k:Nat) (o:List Nat),k<=N/\i=.int .i64 (k:Int)/\LB 22 wr w.heap.size o/\Hid (o.length=N+M/\Lim o/\∀j,k+M<=j->∀h:j<o.length,o[j]=0)/\Hid (val o=val (x.take k)*val y)/\Below w.heap.size w wr) (fun i _=>N-(intOf i).toNat)
 case atStart=>exact⟨0,List.replicate (N+M) 0,Nat.zero_le _,rfl,LB.zeros _ _ _,Lib.hid ⟨by simp,Lim.zeros _,by simp⟩,Lib.hid (by simp[val_zeros]),(Below.refl _ _).alloc (Nat.le_refl _) _⟩
 case round=>
  obtain⟨k,o,hk,rfl,hlb,ho,hv,hbw⟩:=hrel
  by_cases h0:k<N
  · obtain⟨b1,o1,rfl,_⟩:=T1.out.row (by omega)
    have hkx:k<x.length:=by rw[lenx.out];exact h0
    obtain⟨p,hp⟩:∃p,p=x[k]:=⟨_,rfl⟩
    have hpB:=Lib.hid (show p<B from hp▸Lx.out.get k hkx)
    have HP:=Lib.hid hp;clear hp
    go_wp2
    go_loopw [7,29] (fun cy i wr2=>∃(j d:Nat) (o2:List Nat),j<=M/\i=.int .i64 (j:Int)/\cy=.int .u64 (d:Int)/\LB 22 wr2 w.heap.size o2/\Hid (d<B/\o2.length=N+M/\Lim o2/\∀j,k+M<=j->∀h:j<o2.length,o2[j]=0)/\Hid (val o2+B ^ (k+j)*d=val (x.take k)*val y+B ^ k*(p*val (y.take j)))/\Below w.heap.size w wr2) (fun _ i _=>M-(intOf i).toNat)
    case atStart=>exact⟨0,0,o,Nat.zero_le _,rfl,rfl,hlb,Lib.hid ⟨B_pos,ho.out⟩,Lib.hid (by simp[hv.out]),hbw⟩
    case round=>
     obtain⟨j,d,o2,hj,rfl,rfl,hlb2,ho2,hv2,hbw2⟩:=hrel
     by_cases h1:j<M
     · obtain⟨b2,off2,rfl,_⟩:=T2.out.row (by omega)
       have hky:j<y.length:=by rw[leny.out];exact h1
       have hcx:=(T1.out.below hbw2).cell rfl k hkx
       have hcy:=(T2.out.below hbw2).cell rfl j hky
       obtain⟨q,hq⟩:∃q,q=y[j]:=⟨_,rfl⟩
       have hko:k+j<o2.length:=by rw[ho2.out.2.1];omega
       have hco:=hlb2.cell (k+j) hko
       obtain⟨r,hr⟩:∃r,r=o2[k+j]:=⟨_,rfl⟩
       simp only[Gn.u64]at hcx hcy hco
       rw[<-HP.out]at hcx;rw[<-hq]at hcy;rw[<-hr]at hco
       have hqB:q<B:=hq▸Ly.out.get j hky
       have hrB:r<B:=hr▸ho2.out.2.2.1.get _ hko
       have hfit:=mul_step_fits hpB.out hqB hrB ho2.out.1
       obtain⟨hi,lo,h83,hml,hloB,hhiB⟩:=mul64_ex p q hpB.out hqB
       obtain⟨s1,c1,h82,hs1,hs1B,hc1⟩:=add64_z lo r hloB hrB
       obtain⟨s2,c2,h82',hs2,hs2B,hc2⟩:=add64_z s1 d hs1B ho2.out.1
       have tot:s2+B*(hi+c1+c2)=p*q+r+d:=by rw[Nat.mul_add,Nat.mul_add];omega
       have hB2:hi+c1+c2<B:=by
        rcases Nat.lt_or_ge (hi+c1+c2) B with h|h
        · exact h
        · exfalso
          have:=Nat.mul_le_mul_left B h
          omega
       have hw1:hi+c1<=18446744073709551615:=by unfold B at hB2;omega
       have hw2:hi+c1+c2<=18446744073709551615:=by unfold B at hB2;omega
       have TOT:=Lib.hid tot;have HB2:=Lib.hid hB2;have HQ:=Lib.hid hq;have HR:=Lib.hid hr;have S2B:=Lib.hid hs2B;have H83:=Lib.hid h83
       have hfr:=hlb2.frozen (k+j)
       have hix:((k:Int)+(j:Int)).toNat=k+j:=by omega
       have hszw:w.heap.size<wr.heap.size:=hlb2.lt
       clear tot hB2 hq hr hs2B h83 hml hs1 hs2 hs1B hloB hhiB hfit hqB hrB
       go_wp2_with fail
       go_quiet ((go_at_call 83;exact quiet_l (H83.out _)))
       go_wp2
       go_roundw
       case rel=>
        refine⟨j+1,hi+c1+c2,o2.set (k+j) s2,by omega,by go_num,by go_num,hlb2.set (k+j) s2,Lib.hid ⟨HB2.out,by simp[ho2.out.2.1],ho2.out.2.2.1.set _ _ S2B.out,fun t ht h=>?_⟩,Lib.hid ?_,(below_drewN hbw2 _).setCell (p:=⟨w.heap.size,k+j,none⟩) (Nat.le_refl _) _⟩
        · rw[List.getElem_set_ne (by omega)];exact ho2.out.2.2.2 t ht (by simpa using h)
        · have h3:=hv2.out
          have h4:=val_set o2 (k+j) s2 hko
          rw[<-HR.out]at h4
          have h5:=congrArg (B ^ (k+j) * ·) TOT.out
          simp only[Nat.mul_add]at h5
          rw[val_take_succ y j hky,<-HQ.out,<-Nat.add_assoc,Nat.pow_succ,Nat.mul_add p,Nat.mul_add (B ^ k),Nat.mul_assoc (B ^ (k+j)) B]
          have h6:B ^ k*(p*(B ^ j*q))=B ^ (k+j)*(p*q):=by
           rw[Nat.pow_add,Nat.mul_left_comm p,Nat.mul_assoc]
          rw[h6]
          simp only[Nat.mul_add]
          omega
       case measure=>simp[intOf];omega
     · obtain rfl:j=M:=by omega
       have hko:k+j<o2.length:=by rw[ho2.out.2.1];omega
       have hco:=hlb2.cell (k+j) hko
       have hfr:=hlb2.frozen (k+j)
       have hix:((k:Int)+(j:Int)).toNat=k+j:=by omega
       have hszw:w.heap.size<wr.heap.size:=hlb2.lt
       have hz:o2[k+j]=0:=ho2.out.2.2.2 _ (Nat.le_refl _) hko
       have Z:=Lib.hid hz;clear hz
       simp only[Gn.u64]at hco
       go_wp2
       go_roundw
       case rel=>
        refine⟨k+1,o2.set (k+j) d,by omega,by go_num,hlb2.set (k+j) d,Lib.hid ⟨by simp[ho2.out.2.1],ho2.out.2.2.1.set _ _ ho2.out.1,fun t ht h=>?_⟩,Lib.hid ?_,hbw2.setCell (p:=⟨w.heap.size,k+j,none⟩) (Nat.le_refl _) _⟩
        · rw[List.getElem_set_ne (by omega)];exact ho2.out.2.2.2 t (by omega) (by simpa using h)
        · have h3:=hv2.out
          have h4:=val_set o2 (k+j) d hko
          rw[Z.out,Nat.mul_zero,Nat.add_zero]at h4
          rw[h4,h3,val_take_succ x k hkx,<-HP.out,Nat.add_mul,val_take_all (l:=y) (by rw[leny.out];omega),Nat.mul_assoc]
       case measure=>simp[intOf];omega
  · obtain rfl:k=N:=by omega
    have nv:NatV 22 wr (some ⟨w.heap.size,0,none⟩) (k+M) (k+M) o:=hlb.natV ho.out.2.1 ho.out.1 (Nat.le_refl _) (by simp[maxLen];omega)
    have NV:=Lib.hid nv;clear nv
    go_wp2_with (go_at_call 81;refine(trim_c NV.out).mono ?_;rintro e w' ⟨rfl,rfl⟩)
    go_ret
    refine⟨_,_,_,_,rfl,NV.out.trim,norm_trim _,?_,hbw,NewA.mk (Nat.le_refl _)⟩
    rw[val_trim,hv.out,val_take_all (by rw[lenx.out];omega),Hx.out,Hy.out]
theorem less_nil {A:Option Addr} {c:Nat} {A':Option Addr} {n' c':Nat} {w:World}:Calls Tryz.prog 207 #[.slice A 0 c,.slice A' n' c'] w fun e w'=>e=.returned (.tuple #[])/\w=w':=by
 go_enter Tryz.func207,Tryz.ntmps207
 go_wp2
 go_loop [9] (fun i=>i=.int .i64 0) (fun _=>0)
 case atStart=>rfl
 case round=>
  subst hrel
  go_wp2
  go_end0
  exact⟨rfl,rfl⟩
theorem less_c {g n c:Nat} {A':Option Addr} {n' c':Nat} {a y:List Nat} {w:World} (ha:LP 22 w g a) (hal:Lim a) (hn:a.length=n) (hb:NatV 22 w A' n' c' y) (hnn:n'<=n) (hn1:n<=1073741824) (hv:val y<=val a)
 (hne:∀b off,0<n'->A'=some ⟨b,off,none⟩->b≠g):
 Calls Tryz.prog 207 #[.slice (some ⟨g,0,none⟩) n c,.slice A' n' c'] w fun e w'=>e=.returned (.tuple #[])/\(∃o,LP 22 w' g o/\o.length=n/\Lim o/\val o+val y=val a)/\w.grownBy w' (some g):=by
 have hb':∀w',w.grownBy w' (some g)->NatV 22 w' A' n' c' y:=fun w' h=>hb.grown h fun b off h0 e h1=>hne b off h0 e (by simpa using h1)
 have Ha:=Lib.hid ha;have Hal:=Lib.hid hal;have Hn:=Lib.hid hn;have Hb:=Lib.hid hb';have Hv:=Lib.hid hv
 have leny:=Lib.hid hb.len;have Ly:=Lib.hid hb.lim
 clear ha hal hn hb hv hne hb'
 go_enter Tryz.func207,Tryz.ntmps207
 go_wp2
 go_loopw [4,9] (fun bo i wr=>∃(k d:Nat) (o:List Nat),k<=n/\d<=1/\i=.int .i64 (k:Int)/\bo=.int .u64 (d:Int)/\LP 22 wr g o/\Hid (o.length=n/\Lim o/\∀j,k<=j->∀(h:j<o.length) (h':j<a.length),o[j]=a[j])/\Hid (val (o.take k)+val (y.take k)=val (a.take k)+B ^ k*d)/\Hid (w.grownBy wr (some g))) (fun _ i _=>n-(intOf i).toNat)
 case atStart=>exact⟨0,0,a,Nat.zero_le _,by omega,rfl,rfl,Ha.out,Lib.hid ⟨Hn.out,Hal.out,fun _ _ _ _=>rfl⟩,Lib.hid (by simp),Lib.hid (World.grownBy.refl _ _)⟩
 case round=>
  obtain⟨k,d,o,hk,hd,rfl,rfl,hlp,ho,hv,hg⟩:=hrel
  by_cases h0:k<n
  · have hko:k<o.length:=by rw[ho.out.1];exact h0
    have hka:k<a.length:=by rw[Hn.out];exact h0
    have hcx:=hlp.cell k hko
    have hfr:=hlp.frozen k
    have hszw:g<wr.heap.size:=hlp.lt
    obtain⟨p,hp⟩:∃p,p=o[k]:=⟨_,rfl⟩
    have hpB:p<B:=hp▸ho.out.2.1.get k hko
    simp only[Gn.u64]at hcx
    rw[<-hp]at hcx
    have HP:=Lib.hid (show p=a[k] from hp.trans (ho.out.2.2 k (Nat.le_refl _) hko hka));clear hp
    by_cases h1:k<n'
    · have hbk:=Hb.out wr hg.out
      obtain⟨b2,o2,rfl,_⟩:=hbk.row (by omega)
      have hky:k<y.length:=by rw[leny.out];exact h1
      have hcy:=hbk.cell rfl k hky
      obtain⟨q,hq⟩:∃q,q=y[k]:=⟨_,rfl⟩
      simp only[Gn.u64]at hcy
      rw[<-hq]at hcy
      have hqB:q<B:=hq▸Ly.out.get k hky
      have HQ:=Lib.hid hq;clear hq
      obtain⟨s,d',h82,hs,hsB,hd'⟩:=sub64_ex p q d hpB hqB hd
      have HS:=Lib.hid hs;have SB:=Lib.hid hsB;clear hs hpB hqB hsB hbk
      go_wp2
      go_roundw
      case rel=>
       refine⟨k+1,d',o.set k s,by omega,hd',by go_num,rfl,hlp.set k s hko,Lib.hid ⟨by simp[ho.out.1],ho.out.2.1.set k s SB.out,fun j hj h h'=>?_⟩,Lib.hid ?_,Lib.hid (only_setCell hg.out rfl _)⟩
       · rw[List.getElem_set_ne (by omega)];exact ho.out.2.2 j (by omega) (by simpa using h) h'
       · rw[val_take_set o k s hko,val_take_succ a k hka,val_take_succ y k hky,<-HP.out,<-HQ.out,Nat.pow_succ]
         have h3:=hv.out
         have h4:=congrArg (B ^ k * ·) HS.out
         simp only[Nat.mul_add]at h4
         rw[<-Nat.mul_assoc]at h4
         omega
      case measure=>simp[intOf];omega
    · have hky:y.length<=k:=by rw[leny.out];omega
      obtain⟨s,d',h82,hs,hsB,hd'⟩:=sub64_ex p 0 d hpB B_pos hd
      rw[show((0:Nat):Int)=0 from rfl]at h82
      have HS:=Lib.hid hs;have SB:=Lib.hid hsB;clear hs hpB hsB
      go_wp2
      go_roundw
      case rel=>
       refine⟨k+1,d',o.set k s,by omega,hd',by go_num,rfl,hlp.set k s hko,Lib.hid ⟨by simp[ho.out.1],ho.out.2.1.set k s SB.out,fun j hj h h'=>?_⟩,Lib.hid ?_,Lib.hid (only_setCell hg.out rfl _)⟩
       · rw[List.getElem_set_ne (by omega)];exact ho.out.2.2 j (by omega) (by simpa using h) h'
       · rw[val_take_set o k s hko,val_take_succ a k hka,val_take_all (by omega:y.length<=k+1),<-HP.out,Nat.pow_succ]
         have h3:=hv.out
         rw[val_take_all (l:=y) hky]at h3
         have h4:=congrArg (B ^ k * ·) HS.out
         simp only[Nat.mul_add,Nat.add_zero]at h4
         rw[<-Nat.mul_assoc]at h4
         omega
      case measure=>simp[intOf];omega
  · obtain rfl:k=n:=by omega
    go_wp2
    go_end0
    refine⟨rfl,⟨o,hlp,ho.out.1,ho.out.2.1,?_⟩,hg.out⟩
    have h3:=hv.out
    rw[val_take_all (l:=o) (by rw[ho.out.1];omega),val_take_all (l:=y) (by rw[leny.out];omega),val_take_all (l:=a) (by rw[Hn.out];omega)]at h3
    have h4:=val_lt ho.out.2.1
    rw[ho.out.1]at h4
    have h5:=Hv.out
    rcases Nat.eq_zero_or_pos d with hd0|hd0
    · rw[hd0,Nat.mul_zero]at h3;omega
    · obtain rfl:d=1:=by omega
      omega
theorem Sub_c {A A':Option Addr} {n c n' c':Nat} {a b:List Nat} {w:World} (ha:NatV 22 w A n c a) (hb:NatV 22 w A' n' c' b) (hn:n<=1073741824) (hv:val b<=val a):
 Calls Tryz.prog 141 #[.slice A n c,.slice A' n' c'] w fun e w'=>∃R m d l,e=.returned (.tuple #[.slice R m d,.int .i64 0])/\NatV 22 w' R m d l/\Gn.Norm l/\val l+val b=val a/\Below w.heap.size w w'/\NewA w R:=by
 obtain⟨z,hz⟩:∃z,z=cmpI (val a) (val b):=⟨_,rfl⟩
 have hzb:decide (z<0)=false:=by
  rw[hz]
  rcases Nat.lt_or_ge (val b) (val a) with h|h
  · rw[cmpI_gt (by omega)];rfl
  · rw[cmpI_eq (by omega) (by omega)];rfl
 have C:=Lib.hid (show Calls Tryz.prog 31 #[.slice A n c,.slice A' n' c'] w fun e w'=>e=.returned (.int .i64 z)/\∃q,w'=w.drewN q from hz▸Cmp_c ha hb)
 clear hz
 have lenb:trimLen b<=trimLen a:=by
  rcases Nat.lt_or_ge (trimLen a) (trimLen b) with h|h
  · have:=val_lt_len (lim_trim ha.lim) (norm_trim b) (by rw[trim_length,trim_length];exact h)
    rw[val_trim,val_trim]at this;omega
  · exact h
 have hta:trimLen a<=1073741824:=by have:=trimLen_le a;have:=ha.len;omega
 have Ha:=Lib.hid ha;have Hb:=Lib.hid hb;have Hv:=Lib.hid hv
 clear ha hb hv
 go_enter Tryz.func141,Tryz.ntmps141
 go_wp2_with (first
  | (go_at_call 31;refine C.out.mono ?_;rintro e w' ⟨rfl,q,rfl⟩)
  | (go_at_call 147;refine(Norm_c (Ha.out.drewN q) hn).mono ?_;rintro e w1 ⟨A1,c1,rfl,hown,hb1⟩)
  | (go_at_call_of 81 (Value.slice A' n' c');refine(trim_c ((Hb.out.drewN q).below hb1)).mono ?_;rintro e w2 ⟨rfl,rfl⟩))
 rcases Nat.eq_zero_or_pos (trimLen a) with h0|h0
 · have h0':trimLen b=0:=by omega
   rw[h0]
   refine less_nil.mono ?_
   rintro e w2 ⟨rfl,rfl⟩
   have nv:NatV 22 w1 A1 0 c1 []:=⟨rfl,Nat.zero_le _,by obtain⟨_,h⟩:=hown;rcases h with⟨e,_⟩|⟨_,_,_,e,_,_,_,hm,_⟩<;>(injection e with _ _ e3;subst e3;first|exact Nat.zero_le _|exact hm),Lim.nil,fun h=>absurd h (by omega)⟩
   have NV:=Lib.hid nv;clear nv h0' lenb
   have H0:=Lib.hid h0;clear h0
   go_wp2_with (go_at_call 81;refine(trim_c NV.out).mono ?_;rintro e w3 ⟨rfl,rfl⟩)
   go_ret2
   refine⟨_,_,_,_,rfl,NV.out.trim,norm_trim _,?_,?_,own_new hown⟩
   · have ea:trim a=[]:=List.eq_nil_of_length_eq_zero (by rw[trim_length];exact H0.out)
     have e1:=val_trim a
     rw[ea]at e1
     have:=Hv.out
     rw[show trim ([]:List Nat)=[] from rfl]
     simp only[val_nil]at e1 ⊢
     omega
   · exact(below_drewN (Below.refl w.heap.size w) q).trans hb1
 · obtain⟨g,rfl,hg,hlp,hnc,hcm⟩:=LP.of_own hown h0
   have hbt:=((Hb.out.drewN q).below hb1).trim
   have hbl:∀b2 off,0<trimLen b->A'=some ⟨b2,off,none⟩->b2≠g:=by
    intro b2 off h1 h2 h3
    obtain⟨b3,o3,e,hr⟩:=Hb.out.row (by have:=trimLen_le b;have:=Hb.out.len;omega)
    rw[h2]at e
    injection e with e
    injection e with e4 e5
    have:=hr.lt
    have hg':w.heap.size<=g:=hg
    omega
   refine(less_c hlp (lim_trim Ha.out.lim) (trim_length a) hbt lenb hta (by rw[val_trim,val_trim];exact Hv.out) hbl).mono ?_
   rintro e w2 ⟨rfl,⟨o,hlp2,hol,hol2,hov⟩,hg2⟩
   have nv:NatV 22 w2 (some ⟨g,0,none⟩) (trimLen a) c1 o:=hlp2.natV hol2 hol hnc hcm
   have NV:=Lib.hid nv;have HO:=Lib.hid hov;have HG:=Lib.hid hg2;have HB:=Lib.hid hb1;have HGG:=Lib.hid hg
   clear nv hov hg2 hb1 hol hol2 hlp hlp2 hbt hbl hown hg
   go_wp2_with (go_at_call 81;refine(trim_c NV.out).mono ?_;rintro e w3 ⟨rfl,rfl⟩)
   go_ret2
   refine⟨_,_,_,_,rfl,NV.out.trim,norm_trim _,?_,?_,NewA.mk HGG.out⟩
   · have:=HO.out
     rw[val_trim,val_trim]at this
     rw[val_trim];exact this
   · exact((below_drewN (Below.refl w.heap.size w) q).trans HB.out).grown HG.out HB.out.size (fun k e=>by injection e with e;subst e;exact HGG.out)
end Go.Proofs.YtbhnjkegkadodaaGreatDoor
namespace Gn
theorem mul_lt_of {a b m:Nat} (_hm:0<m) (h:a*m<b*m):a<b:=Nat.lt_of_mul_lt_mul_right h
theorem guess_bounds {m M T b2 bl rl:Nat} (hM:0<M) (hbl:bl<M) (hrl:rl<M) (hb2:m<=b2) (_hm:0<m)
 (hR:T*M+rl<(b2*M+bl)*m):
 (T*M+rl) / (b2*M+bl)<=min (m-1) (T / b2)/\min (m-1) (T / b2)<=(T*M+rl) / (b2*M+bl)+1:=by
 have hb2p:0<b2:=by omega
 have hbp:0<b2*M+bl:=by have:=Nat.mul_pos hb2p hM;omega
 obtain⟨q,hq⟩:∃q,q=(T*M+rl) / (b2*M+bl):=⟨_,rfl⟩
 have hq1:q*(b2*M+bl)<=T*M+rl:=hq▸Nat.div_mul_le_self _ _
 have hq2:T*M+rl<(q+1)*(b2*M+bl):=by
  have h0:=Nat.lt_mul_div_succ (T*M+rl) hbp
  rw[<-hq,Nat.mul_comm (b2*M+bl)]at h0;exact h0
 rw[<-hq]
 constructor
 · refine Nat.le_min.2 ⟨?_,?_⟩
   · have h1:q*(b2*M+bl)<m*(b2*M+bl):=by rw[Nat.mul_comm m];omega
     have:=mul_lt_of hbp h1
     omega
   · rw[Nat.le_div_iff_mul_le hb2p]
     have h1:q*b2*M<=q*(b2*M+bl):=by rw[Nat.mul_assoc];exact Nat.mul_le_mul_left q (Nat.le_add_right _ _)
     have h2:q*b2*M<(T+1)*M:=by rw[Nat.add_mul];omega
     have:=mul_lt_of hM h2
     omega
 · rcases Nat.lt_or_ge (q+1) (min (m-1) (T / b2)) with h|h
   · exfalso
     obtain⟨d,hd⟩:∃d,d=min (m-1) (T / b2):=⟨_,rfl⟩
     rw[<-hd]at h
     have hd1:d<=m-1:=hd▸Nat.min_le_left _ _
     have hd2:d*b2<=T:=by
      have:d<=T / b2:=hd▸Nat.min_le_right _ _
      rwa [Nat.le_div_iff_mul_le hb2p]at this
     obtain⟨c,hc⟩:∃c,d=c+1:=⟨d-1,by omega⟩
     have hqc:q+1<=c:=by omega
     have e1:(q+1)*(b2*M+bl)<=c*(b2*M+bl):=Nat.mul_le_mul_right _ hqc
     have e2:c*(b2*M+bl)<=c*((b2+1)*M):=Nat.mul_le_mul_left _ (by rw[Nat.add_mul];omega)
     have e3:d*b2*M<=T*M:=Nat.mul_le_mul_right _ hd2
     have e4:d*b2*M<c*(b2+1)*M:=by rw[Nat.mul_assoc c];omega
     have e5:=mul_lt_of hM e4
     rw[hc,Nat.add_mul,Nat.mul_add]at e5
     omega
   · exact h
theorem half_fit {q r y1 y0 u H n:Nat} (he:q*y1+r=u) (h:q*y0<=H*r+n):q*(y1*H+y0)<=u*H+n:=by
 have e:q*(y1*H+y0)=q*y1*H+q*y0:=by rw[Nat.mul_add,Nat.mul_assoc]
 rw[e,<-he,Nat.add_mul,Nat.mul_comm r H];omega
theorem half_over {q r y1 y0 u H n:Nat} (he:q*y1+r=u) (h:H*r+n<q*y0):u*H+n<q*(y1*H+y0):=by
 have e:q*(y1*H+y0)=q*y1*H+q*y0:=by rw[Nat.mul_add,Nat.mul_assoc]
 rw[e,<-he,Nat.add_mul,Nat.mul_comm r H];omega
theorem two_halves {u n1 n0 y H:Nat} (hy:0<y) (h0:n0<H) (h1:n1<H) (hu:u<y):
 ((u*H+n1) / y)*H+(((u*H+n1) % y)*H+n0) / y=((u*H+n1)*H+n0) / y/\(((u*H+n1) % y)*H+n0) % y=((u*H+n1)*H+n0) % y:=by
 have _:=h0;have _:=h1;have _:=hu
 have e:(u*H+n1)*H+n0=((u*H+n1) % y)*H+n0+y*(((u*H+n1) / y)*H):=by
  conv=>lhs;rw[<-Nat.mod_add_div (u*H+n1) y]
  rw[Nat.add_mul,Nat.mul_assoc];omega
 constructor
 · rw[e,Nat.add_mul_div_left _ _ hy,Nat.add_comm]
 · rw[e,Nat.add_mul_mod_self_left]
theorem div_shift {u y s:Nat} (hs:0<s):u*s / (y*s)=u / y:=Nat.mul_div_mul_right u y hs
theorem mod_shift {u y s:Nat}:u*s % (y*s)=u % y*s:=Nat.mul_mod_mul_right s u y
end Gn
namespace Go.Proofs.YtbhnjkegkadodaaGreatDoor
open Go Go.RowKit Go.Proofs Gn
theorem ret_two {a b c d:Int} (h:a=c) (h':b=d):Ending.returned (.tuple #[.int .u64 a,.int .u64 b])=Ending.returned (.tuple #[.int .u64 c,.int .u64 d]):=by rw[h,h']
theorem Div64_low (lo y z t:Nat) (hlo:lo<B) (hy:0<y) (hz:z=lo / y) (ht:t=lo % y) (w:World):
 Calls Tryz.prog 212 #[.int .u64 0,.int .u64 (lo:Int),.int .u64 (y:Int)] w fun e w'=>e=.returned (.tuple #[.int .u64 (z:Int),.int .u64 (t:Int)])/\∃q,w'=w.drewN q:=by
 have h1:((y:Int) == 0)=false:=by rw[beq_eq_false_iff_ne];omega
 have h2:(y:Int)≠0:=by omega
 have h3:decide (y<=0)=false:=by simp;omega
 have e1:(lo:Int) / (y:Int)=(z:Int):=by rw[hz];rfl
 have e2:(lo:Int) % (y:Int)=(t:Int):=by rw[ht];rfl
 have hzb:z<=18446744073709551615:=by have:=Nat.div_le_self lo y;unfold B at *;omega
 have e3:IntKind.u64.wrap (z:Int)=(z:Int):=by rw[IntKind.wrap_u64];omega
 clear hz ht hzb
 go_enter Tryz.func212,Tryz.ntmps212
 go_wp2
 go_quiet (fail)
 go_wp2
 go_ret2
 exact⟨ret_two rfl e2,_,rfl⟩
def H32:Nat:=4294967296
def HalfInv (U y1 y0 n q r:Nat):Prop:=q*y1+r=U/\(U*H32+n) / (y1*H32+y0)<=q/\q<=H32+1/\r<H32
theorem half_step {U y1 y0 n q r:Nat} (h:HalfInv U y1 y0 n q r) (hU:U<y1*H32+y0) (hn:n<H32) (hc:H32<=q\/H32*r+n<q*y0):
 1<=q/\(q-1)*y1+(r+y1)=U/\(U*H32+n) / (y1*H32+y0)<=q-1/\q-1<=H32:=by
 obtain⟨h1,h2,h3,h4⟩:=h
 have hy:0<y1*H32+y0:=by omega
 have hlt:(U*H32+n) / (y1*H32+y0)<q:=by
  rcases hc with hc|hc
  · refine Nat.lt_of_lt_of_le (Nat.div_lt_of_lt_mul ?_) hc
    have:(U+1)*H32<=(y1*H32+y0)*H32:=Nat.mul_le_mul_right _ hU
    rw[Nat.add_mul]at this
    omega
  · rw[Nat.div_lt_iff_lt_mul hy]
    exact half_over h1 hc
 obtain⟨k,rfl⟩:∃k,q=k+1:=⟨q-1,by have:=Nat.lt_of_le_of_lt (Nat.zero_le _) hlt;omega⟩
 rw[Nat.add_mul]at h1
 refine⟨by omega,?_,Nat.le_of_lt_succ hlt,by omega⟩
 rw[Nat.add_sub_cancel];omega
theorem half_done {U y1 y0 n q r:Nat} (h1:q*y1+r=U) (h2:(U*H32+n) / (y1*H32+y0)<=q) (hy:0<y1) (hc:q*y0<=H32*r+n):(U*H32+n) / (y1*H32+y0)=q:=by
 refine Nat.le_antisymm h2 ?_
 rw[Nat.le_div_iff_mul_le (by have:=Nat.mul_pos hy (show 0<H32 by decide);omega)]
 exact half_fit h1 hc
theorem half_brk {q y0 r n:Nat} (hq:q<=H32) (hy0:y0<H32) (hr:H32<=r):q*y0<=H32*r+n:=by
 have h1:q*y0<=H32*H32:=Nat.mul_le_mul hq (Nat.le_of_lt hy0)
 have h2:H32*H32<=H32*r:=Nat.mul_le_mul_left _ hr
 omega
theorem half_start {U y1 y0 n:Nat} (hy1:2147483648<=y1) (hy1':y1<H32) (hy0:y0<H32) (hU:U<y1*H32+y0) (hn:n<H32):HalfInv U y1 y0 n (U / y1) (U-U / y1*y1):=by
 have hpos:0<y1:=by omega
 have hd:=Nat.div_mul_le_self U y1
 have hl:=Nat.lt_mul_div_succ U hpos
 rw[Nat.mul_add,Nat.mul_one,Nat.mul_comm]at hl
 refine⟨by omega,?_,?_,by unfold H32 at *;omega⟩
 · rw[Nat.le_div_iff_mul_le hpos]
   have h1:=Nat.div_mul_le_self (U*H32+n) (y1*H32+y0)
   obtain⟨Q,hQ⟩:∃Q,Q=(U*H32+n) / (y1*H32+y0):=⟨_,rfl⟩
   rw[<-hQ]at h1 ⊢
   have h2:Q*y1*H32<=Q*(y1*H32+y0):=by rw[Nat.mul_assoc];exact Nat.mul_le_mul_left _ (by omega)
   have h3:Q*y1*H32<(U+1)*H32:=by rw[Nat.add_mul];omega
   have:=Nat.lt_of_mul_lt_mul_right h3
   omega
 · have h1:U / y1*y1<=U:=hd
   rcases Nat.lt_or_ge (H32+1) (U / y1) with h|h
   · exfalso
     have h2:(H32+2)*y1<=U / y1*y1:=Nat.mul_le_mul_right _ h
     rw[Nat.add_mul,Nat.mul_comm H32]at h2
     unfold H32 at *
     omega
   · exact h
theorem wrap_rest {U n P R:Nat} (h:R+P=U*4294967296+n) (hR:R<18446744073709551616):
 IntKind.u64.wrap (IntKind.u64.wrap (IntKind.u64.wrap ((U:Int)*4294967296)+(n:Int))-IntKind.u64.wrap (P:Int))=(R:Int):=by
 simp only[IntKind.wrap_u64];omega
theorem wrap_two {q k z:Nat} (h:q*4294967296+k=z) (hz:z<18446744073709551616):IntKind.u64.wrap (IntKind.u64.wrap ((q:Int)*4294967296)+(k:Int))=(z:Int):=by
 simp only[IntKind.wrap_u64];omega
theorem wrap_mul {a b P:Nat} (h:P=a*b) (hP:P<18446744073709551616):IntKind.u64.wrap ((a:Int)*(b:Int))=(P:Int):=by
 rw[<-Int.natCast_mul,<-h,IntKind.wrap_u64];omega
theorem wrap_sub {a b r:Nat} (h:b+r=a) (ha:a<18446744073709551616):IntKind.u64.wrap ((a:Int)-(b:Int))=(r:Int):=by
 rw[IntKind.wrap_u64];omega
theorem half_next {U n y1 y0 Q Y:Nat} (hQ:(U*H32+n) / (y1*H32+y0)=Q) (hY:Y=y1*H32+y0) (hYp:0<Y):∃R P,P=Q*Y/\R+P=U*4294967296+n/\R<Y/\R=(U*H32+n) % Y:=by
 refine⟨(U*H32+n) % Y,Q*Y,rfl,?_,Nat.mod_lt _ hYp,rfl⟩
 have:=Nat.mod_add_div (U*H32+n) Y
 rw[<-hY]at hQ
 rw[hQ,Nat.mul_comm Y]at this
 exact this
theorem div_final {hi lo y s U n1 n0 Y Q R1 Q0 R0:Nat} (hfull:(U*H32+n1)*H32+n0=(hi*B+lo)*2 ^ s) (hYy:Y=y*2 ^ s) (hYp:0<Y) (hU:U<Y) (hn1:n1<H32) (hn0:n0<H32)
 (hQ:(U*H32+n1) / Y=Q) (hR1:R1=(U*H32+n1) % Y) (hQ0:(R1*H32+n0) / Y=Q0) (hR0:R0=(R1*H32+n0) % Y):
 Q*4294967296+Q0=(hi*B+lo) / y/\R0 / 2 ^ s=(hi*B+lo) % y:=by
 have h2:0<2 ^ s:=Nat.pow_pos (by omega)
 have ht:=two_halves (u:=U) (n1:=n1) (n0:=n0) (y:=Y) (H:=H32) hYp hn0 hn1 hU
 rw[hQ,<-hR1,hQ0,<-hR0,hfull,hYy,div_shift h2,mod_shift]at ht
 refine⟨ht.1,?_⟩
 rw[ht.2,Nat.mul_div_cancel _ h2]
theorem Div64_high (hi lo y s Y y1 y0 U L n1 n0:Nat) (hhi:0<hi) (hlo:lo<B) (hy:hi<y) (hyB:y<B) (e1:IntKind.u64.wrap (64-(Lib.bitLen y:Int))=(s:Int)) (e1':min s 64=s)
 (e2:IntKind.u64.wrap ((y:Int)*2 ^ s)=(Y:Int)) (e3:(Y:Int) / 4294967296=(y1:Int)) (e4:bits .and .u64 (Y:Int) 4294967295=(y0:Int)) (hy1:2147483648<=y1) (hy1':y1<4294967296) (hy0:y0<4294967296)
 (e5:bits .or .u64 (IntKind.u64.wrap ((hi:Int)*2 ^ s)) ((lo:Int) / 2 ^ (64-s))=(U:Int)) (e6:IntKind.u64.wrap ((lo:Int)*2 ^ s)=(L:Int)) (e7:(L:Int) / 4294967296=(n1:Int)) (e8:bits .and .u64 (L:Int) 4294967295=(n0:Int))
 (hn1:n1<4294967296) (hn0:n0<4294967296) (hU:U<Y) (hY:Y=y1*H32+y0) (hYB:Y<B) (hfull:(U*H32+n1)*H32+n0=(hi*B+lo)*2 ^ s) (hYy:Y=y*2 ^ s) (z t:Nat) (hz:z=(hi*B+lo) / y) (ht:t=(hi*B+lo) % y) (w:World):
 Calls Tryz.prog 212 #[.int .u64 (hi:Int),.int .u64 (lo:Int),.int .u64 (y:Int)] w fun e w'=>e=.returned (.tuple #[.int .u64 (z:Int),.int .u64 (t:Int)])/\w=w':=by
 have h1:((y:Int) == 0)=false:=by rw[beq_eq_false_iff_ne];omega
 have h2:((hi:Int) == 0)=false:=by rw[beq_eq_false_iff_ne];omega
 have h3:decide (y<=hi)=false:=by simp;omega
 have h4:(y1:Int)≠0:=by omega
 have HH:=half_start (n:=n1) hy1 hy1' hy0 (hY▸hU) hn1
 obtain⟨q0,hq0⟩:∃q0,q0=U / y1:=⟨_,rfl⟩
 obtain⟨r0,hr0⟩:∃r0,r0=U-q0*y1:=⟨_,rfl⟩
 have e9:(U:Int) / (y1:Int)=(q0:Int):=by rw[hq0];rfl
 rw[<-hq0,<-hr0]at HH
 have hq0b:q0<=4294967297:=HH.2.2.1
 have hr0b:r0<4294967296:=HH.2.2.2
 obtain⟨P0,hP0⟩:∃P0,P0=q0*y1:=⟨_,rfl⟩
 have hPU:P0+r0=U:=hP0▸HH.1
 have hUB:U<18446744073709551616:=by unfold B at hYB;omega
 have e10:IntKind.u64.wrap ((q0:Int)*(y1:Int))=(P0:Int):=by rw[<-Int.natCast_mul,<-hP0,IntKind.wrap_u64];omega
 have e11:IntKind.u64.wrap ((U:Int)-(P0:Int))=(r0:Int):=by rw[IntKind.wrap_u64];omega
 have HHH:=Lib.hid HH
 clear hP0 hPU hUB
 have HY:=Lib.hid hY;have HU:=Lib.hid hU
 have hYp:0<Y:=by omega
 have HF:=Lib.hid hfull;have HYy:=Lib.hid hYy;have HZ:=Lib.hid hz;have HT:=Lib.hid ht
 clear hq0 hr0 hY HH hU hfull hYy hz ht
 go_enter Tryz.func212,Tryz.ntmps212
 go_wp2_with (go_at_call 245;refine(Tryz.bits_LeadingZeros64 _ _ (by omega) (by unfold B at *;omega)).mono ?_;rintro e w' ⟨rfl,rfl⟩)
 have HV:=Lib.hid (show 0<y1*H32+y0 from by unfold H32;omega)
 clear e1 e2 e3 e4 e5 e6 e7 e8 e9 e10 e11
 go_loop [15,16] (fun a b=>∃q r:Nat,a=.int .u64 (q:Int)/\b=.int .u64 (r:Int)/\q<=4294967297/\r<4294967296/\Hid (HalfInv U y1 y0 n1 q r)) (fun a _=>(intOf a).toNat)
 case atStart=>exact⟨q0,r0,rfl,rfl,hq0b,hr0b,HHH⟩
 case round=>
  obtain⟨q,r,rfl,rfl,hq,hr,hI⟩:=hrel
  by_cases hqH:4294967296<=q
  · have hst:=half_step hI.out (HY.out▸HU.out) hn1 (.inl hqH)
    obtain⟨k,hk⟩:∃k,k=q-1:=⟨_,rfl⟩
    rw[<-hk]at hst
    have e21:(q:Int)-1=(k:Int):=by omega
    have hk1:k+1<=4294967297:=by omega
    have KQ:=Lib.hid (show k<q by omega)
    have ST:=Lib.hid hst;clear hst hk
    have hgd:decide ((4294967296:Int)<=(q:Int))=true:=decide_eq_true (by omega)
    by_cases hbr:4294967296<=r+y1
    · have hbd:decide ((4294967296:Int)<=(r:Int)+(y1:Int))=true:=decide_eq_true (by omega)
      have hex:=half_done (n:=n1) (q:=k) (r:=r+y1) ST.out.2.1 ST.out.2.2.1 (by omega) (half_brk ST.out.2.2.2 hy0 hbr)
      obtain⟨R1,P1,hP1,hRP,hR1,hR1e⟩:=half_next hex HY.out hYp
      have e12:=wrap_rest hRP (by unfold B at hYB;omega)
      have e12':IntKind.u64.wrap ((k:Int)*(Y:Int))=IntKind.u64.wrap (P1:Int):=by rw[hP1,Int.natCast_mul]
      rw[<-e12']at e12
      have HH2:=half_start (n:=n0) hy1 hy1' hy0 (HY.out▸hR1) hn0
      obtain⟨q2,hq2⟩:∃q2,q2=R1 / y1:=⟨_,rfl⟩
      obtain⟨r2,hr2⟩:∃r2,r2=R1-q2*y1:=⟨_,rfl⟩
      have e13:(R1:Int) / (y1:Int)=(q2:Int):=by rw[hq2];rfl
      rw[<-hq2,<-hr2]at HH2
      have hq2b:q2<=4294967297:=HH2.2.2.1
      have hr2b:r2<4294967296:=HH2.2.2.2
      obtain⟨P2,hP2⟩:∃P2,P2=q2*y1:=⟨_,rfl⟩
      have hPU:P2+r2=R1:=hP2▸HH2.1
      have e14:=wrap_mul hP2 (by unfold B at hYB;omega)
      have e15:=wrap_sub hPU (by unfold B at hYB;omega)
      have HH2':=Lib.hid HH2;have HEX:=Lib.hid (show(U*H32+n1) / Y=k by rw[HY.out];exact hex);have HR1:=Lib.hid hR1e
      clear hq2 hr2 hP2 hPU HH2 hP1 hRP hR1e e12' hex
      go_wp2
      clear e12 e13 e14 e15
      go_loop [18,16] (fun a b=>∃q r:Nat,a=.int .u64 (q:Int)/\b=.int .u64 (r:Int)/\q<=4294967297/\r<4294967296/\Hid (HalfInv R1 y1 y0 n0 q r)) (fun a _=>(intOf a).toNat)
      case atStart=>exact⟨q2,r2,rfl,rfl,hq2b,hr2b,HH2'⟩
      case round=>
       clear hI
       obtain⟨q,r,rfl,rfl,hq,hr,hI⟩:=hrel
       by_cases hqH:4294967296<=q
       · have hst:=half_step hI.out (HY.out▸hR1) hn0 (.inl hqH)
         obtain⟨k,hk⟩:∃k,k=q-1:=⟨_,rfl⟩
         rw[<-hk]at hst
         have e21:(q:Int)-1=(k:Int):=by omega
         have hk1:k+1<=4294967297:=by omega
         have KQ:=Lib.hid (show k<q by omega)
         have ST:=Lib.hid hst;clear hst hk
         have hgd:decide ((4294967296:Int)<=(q:Int))=true:=decide_eq_true (by omega)
         by_cases hbr:4294967296<=r+y1
         · have hbd:decide ((4294967296:Int)<=(r:Int)+(y1:Int))=true:=decide_eq_true (by omega)
           have hex:=half_done (n:=n0) (q:=k) (r:=r+y1) ST.out.2.1 ST.out.2.2.1 (by omega) (half_brk ST.out.2.2.2 hy0 hbr)
           obtain⟨R0,P3,hP3,hRP3,hR0,hR0e⟩:=half_next hex HY.out hYp
           have hfin:=div_final HF.out HYy.out hYp HU.out hn1 hn0 HEX.out HR1.out (show(R1*H32+n0) / Y=k by rw[HY.out];exact hex) hR0e
           rw[<-HZ.out,<-HT.out]at hfin
           have hzB:z<18446744073709551616:=by
            rw[HZ.out];refine Nat.div_lt_of_lt_mul ?_
            have:(hi+1)*B<=y*B:=Nat.mul_le_mul_right _ hy
            rw[Nat.add_mul]at this
            unfold B at *
            omega
           have e30:=wrap_rest hRP3 (by unfold B at hYB;omega)
           have e31:=wrap_two hfin.1 hzB
           have e32:IntKind.u64.wrap ((k:Int)*(Y:Int))=IntKind.u64.wrap (P3:Int):=by rw[hP3,Int.natCast_mul]
           rw[<-e32]at e30
           have e33:(R0:Int) / 2 ^ s=(t:Int):=by rw[<-hfin.2];norm_cast
           have F1:=Lib.hid hfin.1;have ZB:=Lib.hid hzB
           clear hP3 hRP3 hR0e hfin e32 hex hzB
           go_wp2
           go_ret2
           exact⟨ret_two (by first|rfl|(have:=F1.out;have:=ZB.out;omega)|(have:=F1.out;have:=ZB.out;simp only[IntKind.wrap_u64];omega)) (by first|rfl|exact e33),rfl⟩
         · have hbd:decide ((4294967296:Int)<=(r:Int)+(y1:Int))=false:=decide_eq_false (by omega)
           go_wp2
           go_round
           case rel=>exact⟨k,r+y1,by go_num,by go_num,by omega,by omega,Lib.hid ⟨ST.out.2.1,ST.out.2.2.1,by have:=ST.out.2.2.2;omega,by unfold H32;omega⟩⟩
           case measure=>have:=KQ.out;simp[intOf];omega
       · have hgd:decide ((4294967296:Int)<=(q:Int))=false:=decide_eq_false (by omega)
         obtain⟨P,hP⟩:∃P,P=q*y0:=⟨_,rfl⟩
         have hPb:P<18446744073709551616:=by
          have:q*y0<=4294967295*4294967295:=Nat.mul_le_mul (by omega) (by omega)
          omega
         have e20:=wrap_mul hP hPb
         by_cases hov:4294967296*r+n0<P
         · have hst:=half_step hI.out (HY.out▸hR1) hn0 (.inr (by rw[<-hP];exact hov))
           obtain⟨k,hk⟩:∃k,k=q-1:=⟨_,rfl⟩
           rw[<-hk]at hst
           have hq1:1<=q:=hst.1
           have e21:(q:Int)-1=(k:Int):=by omega
           have hk1:k+1<=4294967296:=by omega
           have KQ:=Lib.hid (show k<q by omega)
           have ST:=Lib.hid hst;clear hst hP hk
           have hov':(4294967296:Int)*(r:Int)+(n0:Int)<(P:Int):=by omega
           by_cases hbr:4294967296<=r+y1
           · have hbd:decide ((4294967296:Int)<=(r:Int)+(y1:Int))=true:=decide_eq_true (by omega)
             have hex:=half_done (n:=n0) (q:=k) (r:=r+y1) ST.out.2.1 ST.out.2.2.1 (by omega) (half_brk ST.out.2.2.2 hy0 hbr)
             obtain⟨R0,P3,hP3,hRP3,hR0,hR0e⟩:=half_next hex HY.out hYp
             have hfin:=div_final HF.out HYy.out hYp HU.out hn1 hn0 HEX.out HR1.out (show(R1*H32+n0) / Y=k by rw[HY.out];exact hex) hR0e
             rw[<-HZ.out,<-HT.out]at hfin
             have hzB:z<18446744073709551616:=by
              rw[HZ.out];refine Nat.div_lt_of_lt_mul ?_
              have:(hi+1)*B<=y*B:=Nat.mul_le_mul_right _ hy
              rw[Nat.add_mul]at this
              unfold B at *
              omega
             have e30:=wrap_rest hRP3 (by unfold B at hYB;omega)
             have e31:=wrap_two hfin.1 hzB
             have e32:IntKind.u64.wrap ((k:Int)*(Y:Int))=IntKind.u64.wrap (P3:Int):=by rw[hP3,Int.natCast_mul]
             rw[<-e32]at e30
             have e33:(R0:Int) / 2 ^ s=(t:Int):=by rw[<-hfin.2];norm_cast
             have F1:=Lib.hid hfin.1;have ZB:=Lib.hid hzB
             clear hP3 hRP3 hR0e hfin e32 hex hzB
             go_wp2
             go_ret2
             exact⟨ret_two (by first|rfl|(have:=F1.out;have:=ZB.out;omega)|(have:=F1.out;have:=ZB.out;simp only[IntKind.wrap_u64];omega)) (by first|rfl|exact e33),rfl⟩
           · have hbd:decide ((4294967296:Int)<=(r:Int)+(y1:Int))=false:=decide_eq_false (by omega)
             go_wp2
             go_round
             case rel=>exact⟨k,r+y1,by go_num,by go_num,by omega,by omega,Lib.hid ⟨ST.out.2.1,ST.out.2.2.1,by have:=ST.out.2.2.2;omega,by unfold H32;omega⟩⟩
             case measure=>have:=KQ.out;simp[intOf];omega
         · have hex:=half_done (n:=n0) hI.out.1 hI.out.2.1 (by omega) (by rw[<-hP];unfold H32;omega)
           have hov':(P:Int)<=(4294967296:Int)*(r:Int)+(n0:Int):=by omega
           clear hP hov
           obtain⟨R0,P3,hP3,hRP3,hR0,hR0e⟩:=half_next hex HY.out hYp
           have hfin:=div_final HF.out HYy.out hYp HU.out hn1 hn0 HEX.out HR1.out (show(R1*H32+n0) / Y=q by rw[HY.out];exact hex) hR0e
           rw[<-HZ.out,<-HT.out]at hfin
           have hzB:z<18446744073709551616:=by
            rw[HZ.out];refine Nat.div_lt_of_lt_mul ?_
            have:(hi+1)*B<=y*B:=Nat.mul_le_mul_right _ hy
            rw[Nat.add_mul]at this
            unfold B at *
            omega
           have e30:=wrap_rest hRP3 (by unfold B at hYB;omega)
           have e31:=wrap_two hfin.1 hzB
           have e32:IntKind.u64.wrap ((q:Int)*(Y:Int))=IntKind.u64.wrap (P3:Int):=by rw[hP3,Int.natCast_mul]
           rw[<-e32]at e30
           have e33:(R0:Int) / 2 ^ s=(t:Int):=by rw[<-hfin.2];norm_cast
           have F1:=Lib.hid hfin.1;have ZB:=Lib.hid hzB
           clear hP3 hRP3 hR0e hfin e32 hex hzB
           go_wp2
           go_ret2
           exact⟨ret_two (by first|rfl|(have:=F1.out;have:=ZB.out;omega)|(have:=F1.out;have:=ZB.out;simp only[IntKind.wrap_u64];omega)) (by first|rfl|exact e33),rfl⟩
    · have hbd:decide ((4294967296:Int)<=(r:Int)+(y1:Int))=false:=decide_eq_false (by omega)
      go_wp2
      go_round
      case rel=>exact⟨k,r+y1,by go_num,by go_num,by omega,by omega,Lib.hid ⟨ST.out.2.1,ST.out.2.2.1,by have:=ST.out.2.2.2;omega,by unfold H32;omega⟩⟩
      case measure=>have:=KQ.out;simp[intOf];omega
  · have hgd:decide ((4294967296:Int)<=(q:Int))=false:=decide_eq_false (by omega)
    obtain⟨P,hP⟩:∃P,P=q*y0:=⟨_,rfl⟩
    have hPb:P<18446744073709551616:=by
     have:q*y0<=4294967295*4294967295:=Nat.mul_le_mul (by omega) (by omega)
     omega
    have e20:=wrap_mul hP hPb
    by_cases hov:4294967296*r+n1<P
    · have hst:=half_step hI.out (HY.out▸HU.out) hn1 (.inr (by rw[<-hP];exact hov))
      obtain⟨k,hk⟩:∃k,k=q-1:=⟨_,rfl⟩
      rw[<-hk]at hst
      have hq1:1<=q:=hst.1
      have e21:(q:Int)-1=(k:Int):=by omega
      have hk1:k+1<=4294967296:=by omega
      have KQ:=Lib.hid (show k<q by omega)
      have ST:=Lib.hid hst;clear hst hP hk
      have hov':(4294967296:Int)*(r:Int)+(n1:Int)<(P:Int):=by omega
      by_cases hbr:4294967296<=r+y1
      · have hbd:decide ((4294967296:Int)<=(r:Int)+(y1:Int))=true:=decide_eq_true (by omega)
        have hex:=half_done (n:=n1) (q:=k) (r:=r+y1) ST.out.2.1 ST.out.2.2.1 (by omega) (half_brk ST.out.2.2.2 hy0 hbr)
        obtain⟨R1,P1,hP1,hRP,hR1,hR1e⟩:=half_next hex HY.out hYp
        have e12:=wrap_rest hRP (by unfold B at hYB;omega)
        have e12':IntKind.u64.wrap ((k:Int)*(Y:Int))=IntKind.u64.wrap (P1:Int):=by rw[hP1,Int.natCast_mul]
        rw[<-e12']at e12
        have HH2:=half_start (n:=n0) hy1 hy1' hy0 (HY.out▸hR1) hn0
        obtain⟨q2,hq2⟩:∃q2,q2=R1 / y1:=⟨_,rfl⟩
        obtain⟨r2,hr2⟩:∃r2,r2=R1-q2*y1:=⟨_,rfl⟩
        have e13:(R1:Int) / (y1:Int)=(q2:Int):=by rw[hq2];rfl
        rw[<-hq2,<-hr2]at HH2
        have hq2b:q2<=4294967297:=HH2.2.2.1
        have hr2b:r2<4294967296:=HH2.2.2.2
        obtain⟨P2,hP2⟩:∃P2,P2=q2*y1:=⟨_,rfl⟩
        have hPU:P2+r2=R1:=hP2▸HH2.1
        have e14:=wrap_mul hP2 (by unfold B at hYB;omega)
        have e15:=wrap_sub hPU (by unfold B at hYB;omega)
        have HH2':=Lib.hid HH2;have HEX:=Lib.hid (show(U*H32+n1) / Y=k by rw[HY.out];exact hex);have HR1:=Lib.hid hR1e
        clear hq2 hr2 hP2 hPU HH2 hP1 hRP hR1e e12' hex
        go_wp2
        clear e12 e13 e14 e15
        go_loop [18,16] (fun a b=>∃q r:Nat,a=.int .u64 (q:Int)/\b=.int .u64 (r:Int)/\q<=4294967297/\r<4294967296/\Hid (HalfInv R1 y1 y0 n0 q r)) (fun a _=>(intOf a).toNat)
        case atStart=>exact⟨q2,r2,rfl,rfl,hq2b,hr2b,HH2'⟩
        case round=>
         clear hI
         obtain⟨q,r,rfl,rfl,hq,hr,hI⟩:=hrel
         by_cases hqH:4294967296<=q
         · have hst:=half_step hI.out (HY.out▸hR1) hn0 (.inl hqH)
           obtain⟨k,hk⟩:∃k,k=q-1:=⟨_,rfl⟩
           rw[<-hk]at hst
           have e21:(q:Int)-1=(k:Int):=by omega
           have hk1:k+1<=4294967297:=by omega
           have KQ:=Lib.hid (show k<q by omega)
           have ST:=Lib.hid hst;clear hst hk
           have hgd:decide ((4294967296:Int)<=(q:Int))=true:=decide_eq_true (by omega)
           by_cases hbr:4294967296<=r+y1
           · have hbd:decide ((4294967296:Int)<=(r:Int)+(y1:Int))=true:=decide_eq_true (by omega)
             have hex:=half_done (n:=n0) (q:=k) (r:=r+y1) ST.out.2.1 ST.out.2.2.1 (by omega) (half_brk ST.out.2.2.2 hy0 hbr)
             obtain⟨R0,P3,hP3,hRP3,hR0,hR0e⟩:=half_next hex HY.out hYp
             have hfin:=div_final HF.out HYy.out hYp HU.out hn1 hn0 HEX.out HR1.out (show(R1*H32+n0) / Y=k by rw[HY.out];exact hex) hR0e
             rw[<-HZ.out,<-HT.out]at hfin
             have hzB:z<18446744073709551616:=by
              rw[HZ.out];refine Nat.div_lt_of_lt_mul ?_
              have:(hi+1)*B<=y*B:=Nat.mul_le_mul_right _ hy
              rw[Nat.add_mul]at this
              unfold B at *
              omega
             have e30:=wrap_rest hRP3 (by unfold B at hYB;omega)
             have e31:=wrap_two hfin.1 hzB
             have e32:IntKind.u64.wrap ((k:Int)*(Y:Int))=IntKind.u64.wrap (P3:Int):=by rw[hP3,Int.natCast_mul]
             rw[<-e32]at e30
             have e33:(R0:Int) / 2 ^ s=(t:Int):=by rw[<-hfin.2];norm_cast
             have F1:=Lib.hid hfin.1;have ZB:=Lib.hid hzB
             clear hP3 hRP3 hR0e hfin e32 hex hzB
             go_wp2
             go_ret2
             exact⟨ret_two (by first|rfl|(have:=F1.out;have:=ZB.out;omega)|(have:=F1.out;have:=ZB.out;simp only[IntKind.wrap_u64];omega)) (by first|rfl|exact e33),rfl⟩
           · have hbd:decide ((4294967296:Int)<=(r:Int)+(y1:Int))=false:=decide_eq_false (by omega)
             go_wp2
             go_round
             case rel=>exact⟨k,r+y1,by go_num,by go_num,by omega,by omega,Lib.hid ⟨ST.out.2.1,ST.out.2.2.1,by have:=ST.out.2.2.2;omega,by unfold H32;omega⟩⟩
             case measure=>have:=KQ.out;simp[intOf];omega
         · have hgd:decide ((4294967296:Int)<=(q:Int))=false:=decide_eq_false (by omega)
           obtain⟨P,hP⟩:∃P,P=q*y0:=⟨_,rfl⟩
           have hPb:P<18446744073709551616:=by
            have:q*y0<=4294967295*4294967295:=Nat.mul_le_mul (by omega) (by omega)
            omega
           have e20:=wrap_mul hP hPb
           by_cases hov:4294967296*r+n0<P
           · have hst:=half_step hI.out (HY.out▸hR1) hn0 (.inr (by rw[<-hP];exact hov))
             obtain⟨k,hk⟩:∃k,k=q-1:=⟨_,rfl⟩
             rw[<-hk]at hst
             have hq1:1<=q:=hst.1
             have e21:(q:Int)-1=(k:Int):=by omega
             have hk1:k+1<=4294967296:=by omega
             have KQ:=Lib.hid (show k<q by omega)
             have ST:=Lib.hid hst;clear hst hP hk
             have hov':(4294967296:Int)*(r:Int)+(n0:Int)<(P:Int):=by omega
             by_cases hbr:4294967296<=r+y1
             · have hbd:decide ((4294967296:Int)<=(r:Int)+(y1:Int))=true:=decide_eq_true (by omega)
               have hex:=half_done (n:=n0) (q:=k) (r:=r+y1) ST.out.2.1 ST.out.2.2.1 (by omega) (half_brk ST.out.2.2.2 hy0 hbr)
               obtain⟨R0,P3,hP3,hRP3,hR0,hR0e⟩:=half_next hex HY.out hYp
               have hfin:=div_final HF.out HYy.out hYp HU.out hn1 hn0 HEX.out HR1.out (show(R1*H32+n0) / Y=k by rw[HY.out];exact hex) hR0e
               rw[<-HZ.out,<-HT.out]at hfin
               have hzB:z<18446744073709551616:=by
                rw[HZ.out];refine Nat.div_lt_of_lt_mul ?_
                have:(hi+1)*B<=y*B:=Nat.mul_le_mul_right _ hy
                rw[Nat.add_mul]at this
                unfold B at *
                omega
               have e30:=wrap_rest hRP3 (by unfold B at hYB;omega)
               have e31:=wrap_two hfin.1 hzB
               have e32:IntKind.u64.wrap ((k:Int)*(Y:Int))=IntKind.u64.wrap (P3:Int):=by rw[hP3,Int.natCast_mul]
               rw[<-e32]at e30
               have e33:(R0:Int) / 2 ^ s=(t:Int):=by rw[<-hfin.2];norm_cast
               have F1:=Lib.hid hfin.1;have ZB:=Lib.hid hzB
               clear hP3 hRP3 hR0e hfin e32 hex hzB
               go_wp2
               go_ret2
               exact⟨ret_two (by first|rfl|(have:=F1.out;have:=ZB.out;omega)|(have:=F1.out;have:=ZB.out;simp only[IntKind.wrap_u64];omega)) (by first|rfl|exact e33),rfl⟩
             · have hbd:decide ((4294967296:Int)<=(r:Int)+(y1:Int))=false:=decide_eq_false (by omega)
               go_wp2
               go_round
               case rel=>exact⟨k,r+y1,by go_num,by go_num,by omega,by omega,Lib.hid ⟨ST.out.2.1,ST.out.2.2.1,by have:=ST.out.2.2.2;omega,by unfold H32;omega⟩⟩
               case measure=>have:=KQ.out;simp[intOf];omega
           · have hex:=half_done (n:=n0) hI.out.1 hI.out.2.1 (by omega) (by rw[<-hP];unfold H32;omega)
             have hov':(P:Int)<=(4294967296:Int)*(r:Int)+(n0:Int):=by omega
             clear hP hov
             obtain⟨R0,P3,hP3,hRP3,hR0,hR0e⟩:=half_next hex HY.out hYp
             have hfin:=div_final HF.out HYy.out hYp HU.out hn1 hn0 HEX.out HR1.out (show(R1*H32+n0) / Y=q by rw[HY.out];exact hex) hR0e
             rw[<-HZ.out,<-HT.out]at hfin
             have hzB:z<18446744073709551616:=by
              rw[HZ.out];refine Nat.div_lt_of_lt_mul ?_
              have:(hi+1)*B<=y*B:=Nat.mul_le_mul_right _ hy
              rw[Nat.add_mul]at this
              unfold B at *
              omega
             have e30:=wrap_rest hRP3 (by unfold B at hYB;omega)
             have e31:=wrap_two hfin.1 hzB
             have e32:IntKind.u64.wrap ((q:Int)*(Y:Int))=IntKind.u64.wrap (P3:Int):=by rw[hP3,Int.natCast_mul]
             rw[<-e32]at e30
             have e33:(R0:Int) / 2 ^ s=(t:Int):=by rw[<-hfin.2];norm_cast
             have F1:=Lib.hid hfin.1;have ZB:=Lib.hid hzB
             clear hP3 hRP3 hR0e hfin e32 hex hzB
             go_wp2
             go_ret2
             exact⟨ret_two (by first|rfl|(have:=F1.out;have:=ZB.out;omega)|(have:=F1.out;have:=ZB.out;simp only[IntKind.wrap_u64];omega)) (by first|rfl|exact e33),rfl⟩
      · have hbd:decide ((4294967296:Int)<=(r:Int)+(y1:Int))=false:=decide_eq_false (by omega)
        go_wp2
        go_round
        case rel=>exact⟨k,r+y1,by go_num,by go_num,by omega,by omega,Lib.hid ⟨ST.out.2.1,ST.out.2.2.1,by have:=ST.out.2.2.2;omega,by unfold H32;omega⟩⟩
        case measure=>have:=KQ.out;simp[intOf];omega
    · have hex:=half_done (n:=n1) hI.out.1 hI.out.2.1 (by omega) (by rw[<-hP];unfold H32;omega)
      have hov':(P:Int)<=(4294967296:Int)*(r:Int)+(n1:Int):=by omega
      clear hP hov
      obtain⟨R1,P1,hP1,hRP,hR1,hR1e⟩:=half_next hex HY.out hYp
      have e12:=wrap_rest hRP (by unfold B at hYB;omega)
      have e12':IntKind.u64.wrap ((q:Int)*(Y:Int))=IntKind.u64.wrap (P1:Int):=by rw[hP1,Int.natCast_mul]
      rw[<-e12']at e12
      have HH2:=half_start (n:=n0) hy1 hy1' hy0 (HY.out▸hR1) hn0
      obtain⟨q2,hq2⟩:∃q2,q2=R1 / y1:=⟨_,rfl⟩
      obtain⟨r2,hr2⟩:∃r2,r2=R1-q2*y1:=⟨_,rfl⟩
      have e13:(R1:Int) / (y1:Int)=(q2:Int):=by rw[hq2];rfl
      rw[<-hq2,<-hr2]at HH2
      have hq2b:q2<=4294967297:=HH2.2.2.1
      have hr2b:r2<4294967296:=HH2.2.2.2
      obtain⟨P2,hP2⟩:∃P2,P2=q2*y1:=⟨_,rfl⟩
      have hPU:P2+r2=R1:=hP2▸HH2.1
      have e14:=wrap_mul hP2 (by unfold B at hYB;omega)
      have e15:=wrap_sub hPU (by unfold B at hYB;omega)
      have HH2':=Lib.hid HH2;have HEX:=Lib.hid (show(U*H32+n1) / Y=q by rw[HY.out];exact hex);have HR1:=Lib.hid hR1e
      clear hq2 hr2 hP2 hPU HH2 hP1 hRP hR1e e12' hex
      go_wp2
      clear e12 e13 e14 e15
      go_loop [18,16] (fun a b=>∃q r:Nat,a=.int .u64 (q:Int)/\b=.int .u64 (r:Int)/\q<=4294967297/\r<4294967296/\Hid (HalfInv R1 y1 y0 n0 q r)) (fun a _=>(intOf a).toNat)
      case atStart=>exact⟨q2,r2,rfl,rfl,hq2b,hr2b,HH2'⟩
      case round=>
       clear hI
       obtain⟨q,r,rfl,rfl,hq,hr,hI⟩:=hrel
       by_cases hqH:4294967296<=q
       · have hst:=half_step hI.out (HY.out▸hR1) hn0 (.inl hqH)
         obtain⟨k,hk⟩:∃k,k=q-1:=⟨_,rfl⟩
         rw[<-hk]at hst
         have e21:(q:Int)-1=(k:Int):=by omega
         have hk1:k+1<=4294967297:=by omega
         have KQ:=Lib.hid (show k<q by omega)
         have ST:=Lib.hid hst;clear hst hk
         have hgd:decide ((4294967296:Int)<=(q:Int))=true:=decide_eq_true (by omega)
         by_cases hbr:4294967296<=r+y1
         · have hbd:decide ((4294967296:Int)<=(r:Int)+(y1:Int))=true:=decide_eq_true (by omega)
           have hex:=half_done (n:=n0) (q:=k) (r:=r+y1) ST.out.2.1 ST.out.2.2.1 (by omega) (half_brk ST.out.2.2.2 hy0 hbr)
           obtain⟨R0,P3,hP3,hRP3,hR0,hR0e⟩:=half_next hex HY.out hYp
           have hfin:=div_final HF.out HYy.out hYp HU.out hn1 hn0 HEX.out HR1.out (show(R1*H32+n0) / Y=k by rw[HY.out];exact hex) hR0e
           rw[<-HZ.out,<-HT.out]at hfin
           have hzB:z<18446744073709551616:=by
            rw[HZ.out];refine Nat.div_lt_of_lt_mul ?_
            have:(hi+1)*B<=y*B:=Nat.mul_le_mul_right _ hy
            rw[Nat.add_mul]at this
            unfold B at *
            omega
           have e30:=wrap_rest hRP3 (by unfold B at hYB;omega)
           have e31:=wrap_two hfin.1 hzB
           have e32:IntKind.u64.wrap ((k:Int)*(Y:Int))=IntKind.u64.wrap (P3:Int):=by rw[hP3,Int.natCast_mul]
           rw[<-e32]at e30
           have e33:(R0:Int) / 2 ^ s=(t:Int):=by rw[<-hfin.2];norm_cast
           have F1:=Lib.hid hfin.1;have ZB:=Lib.hid hzB
           clear hP3 hRP3 hR0e hfin e32 hex hzB
           go_wp2
           go_ret2
           exact⟨ret_two (by first|rfl|(have:=F1.out;have:=ZB.out;omega)|(have:=F1.out;have:=ZB.out;simp only[IntKind.wrap_u64];omega)) (by first|rfl|exact e33),rfl⟩
         · have hbd:decide ((4294967296:Int)<=(r:Int)+(y1:Int))=false:=decide_eq_false (by omega)
           go_wp2
           go_round
           case rel=>exact⟨k,r+y1,by go_num,by go_num,by omega,by omega,Lib.hid ⟨ST.out.2.1,ST.out.2.2.1,by have:=ST.out.2.2.2;omega,by unfold H32;omega⟩⟩
           case measure=>have:=KQ.out;simp[intOf];omega
       · have hgd:decide ((4294967296:Int)<=(q:Int))=false:=decide_eq_false (by omega)
         obtain⟨P,hP⟩:∃P,P=q*y0:=⟨_,rfl⟩
         have hPb:P<18446744073709551616:=by
          have:q*y0<=4294967295*4294967295:=Nat.mul_le_mul (by omega) (by omega)
          omega
         have e20:=wrap_mul hP hPb
         by_cases hov:4294967296*r+n0<P
         · have hst:=half_step hI.out (HY.out▸hR1) hn0 (.inr (by rw[<-hP];exact hov))
           obtain⟨k,hk⟩:∃k,k=q-1:=⟨_,rfl⟩
           rw[<-hk]at hst
           have hq1:1<=q:=hst.1
           have e21:(q:Int)-1=(k:Int):=by omega
           have hk1:k+1<=4294967296:=by omega
           have KQ:=Lib.hid (show k<q by omega)
           have ST:=Lib.hid hst;clear hst hP hk
           have hov':(4294967296:Int)*(r:Int)+(n0:Int)<(P:Int):=by omega
           by_cases hbr:4294967296<=r+y1
           · have hbd:decide ((4294967296:Int)<=(r:Int)+(y1:Int))=true:=decide_eq_true (by omega)
             have hex:=half_done (n:=n0) (q:=k) (r:=r+y1) ST.out.2.1 ST.out.2.2.1 (by omega) (half_brk ST.out.2.2.2 hy0 hbr)
             obtain⟨R0,P3,hP3,hRP3,hR0,hR0e⟩:=half_next hex HY.out hYp
             have hfin:=div_final HF.out HYy.out hYp HU.out hn1 hn0 HEX.out HR1.out (show(R1*H32+n0) / Y=k by rw[HY.out];exact hex) hR0e
             rw[<-HZ.out,<-HT.out]at hfin
             have hzB:z<18446744073709551616:=by
              rw[HZ.out];refine Nat.div_lt_of_lt_mul ?_
              have:(hi+1)*B<=y*B:=Nat.mul_le_mul_right _ hy
              rw[Nat.add_mul]at this
              unfold B at *
              omega
             have e30:=wrap_rest hRP3 (by unfold B at hYB;omega)
             have e31:=wrap_two hfin.1 hzB
             have e32:IntKind.u64.wrap ((k:Int)*(Y:Int))=IntKind.u64.wrap (P3:Int):=by rw[hP3,Int.natCast_mul]
             rw[<-e32]at e30
             have e33:(R0:Int) / 2 ^ s=(t:Int):=by rw[<-hfin.2];norm_cast
             have F1:=Lib.hid hfin.1;have ZB:=Lib.hid hzB
             clear hP3 hRP3 hR0e hfin e32 hex hzB
             go_wp2
             go_ret2
             exact⟨ret_two (by first|rfl|(have:=F1.out;have:=ZB.out;omega)|(have:=F1.out;have:=ZB.out;simp only[IntKind.wrap_u64];omega)) (by first|rfl|exact e33),rfl⟩
           · have hbd:decide ((4294967296:Int)<=(r:Int)+(y1:Int))=false:=decide_eq_false (by omega)
             go_wp2
             go_round
             case rel=>exact⟨k,r+y1,by go_num,by go_num,by omega,by omega,Lib.hid ⟨ST.out.2.1,ST.out.2.2.1,by have:=ST.out.2.2.2;omega,by unfold H32;omega⟩⟩
             case measure=>have:=KQ.out;simp[intOf];omega
         · have hex:=half_done (n:=n0) hI.out.1 hI.out.2.1 (by omega) (by rw[<-hP];unfold H32;omega)
           have hov':(P:Int)<=(4294967296:Int)*(r:Int)+(n0:Int):=by omega
           clear hP hov
           obtain⟨R0,P3,hP3,hRP3,hR0,hR0e⟩:=half_next hex HY.out hYp
           have hfin:=div_final HF.out HYy.out hYp HU.out hn1 hn0 HEX.out HR1.out (show(R1*H32+n0) / Y=q by rw[HY.out];exact hex) hR0e
           rw[<-HZ.out,<-HT.out]at hfin
           have hzB:z<18446744073709551616:=by
            rw[HZ.out];refine Nat.div_lt_of_lt_mul ?_
            have:(hi+1)*B<=y*B:=Nat.mul_le_mul_right _ hy
            rw[Nat.add_mul]at this
            unfold B at *
            omega
           have e30:=wrap_rest hRP3 (by unfold B at hYB;omega)
           have e31:=wrap_two hfin.1 hzB
           have e32:IntKind.u64.wrap ((q:Int)*(Y:Int))=IntKind.u64.wrap (P3:Int):=by rw[hP3,Int.natCast_mul]
           rw[<-e32]at e30
           have e33:(R0:Int) / 2 ^ s=(t:Int):=by rw[<-hfin.2];norm_cast
           have F1:=Lib.hid hfin.1;have ZB:=Lib.hid hzB
           clear hP3 hRP3 hR0e hfin e32 hex hzB
           go_wp2
           go_ret2
           exact⟨ret_two (by first|rfl|(have:=F1.out;have:=ZB.out;omega)|(have:=F1.out;have:=ZB.out;simp only[IntKind.wrap_u64];omega)) (by first|rfl|exact e33),rfl⟩
end Go.Proofs.YtbhnjkegkadodaaGreatDoor
namespace Gn
theorem B_two:B=2 ^ 64:=by decide
theorem B_split {n:Nat} (h:n<=64):2 ^ (64-n)*2 ^ n=B:=by rw[<-Nat.pow_add,B_two];congr 1;omega
theorem two_pos (n:Nat):0<2 ^ n:=Nat.pow_pos (by omega)
theorem shl_div {a n:Nat} (h:n<=64):a*2 ^ n / B=a / 2 ^ (64-n):=by
 rw[<-B_split h,Nat.mul_div_mul_right _ _ (two_pos n)]
theorem shl_split {a n:Nat} (h:n<=64):a*2 ^ n % B+B*(a / 2 ^ (64-n))=a*2 ^ n:=by
 rw[<-shl_div h];exact Nat.mod_add_div _ _
theorem shl_mod {a n:Nat} (h:n<=64):a*2 ^ n % B=2 ^ n*(a % 2 ^ (64-n)):=by
 rw[<-B_split h,Nat.mul_mod_mul_right,Nat.mul_comm]
theorem or_add {a c n:Nat} (h:n<=64) (hc:c<2 ^ n):c ||| (a*2 ^ n % B)=c+a*2 ^ n % B:=by
 rw[shl_mod h,Nat.or_comm,<-Nat.two_pow_add_eq_or_of_lt hc,Nat.add_comm]
theorem or_lt {a c n:Nat} (h:n<=64) (hc:c<2 ^ n):c+a*2 ^ n % B<B:=by
 rw[shl_mod h]
 have h1:a % 2 ^ (64-n)+1<=2 ^ (64-n):=Nat.mod_lt _ (two_pos _)
 have h2:=Nat.mul_le_mul_left (2 ^ n) h1
 rw[Nat.mul_add,Nat.mul_comm (2 ^ n) (2 ^ (64-n)),B_split h]at h2
 omega
theorem shr_lt {a n:Nat} (h:n<=64) (ha:a<B):a / 2 ^ (64-n)<2 ^ n:=by
 refine Nat.div_lt_of_lt_mul ?_
 rw[B_split h];exact ha
theorem shr_step {x V n:Nat} (h:n<=64):(x+B*V) / 2 ^ n=(x / 2 ^ n+(V*2 ^ (64-n)) % B)+B*(V / 2 ^ n):=by
 have e1:B*V=2 ^ n*(V*2 ^ (64-n)):=by rw[<-B_split h,Nat.mul_comm (2 ^ (64-n)),Nat.mul_assoc,Nat.mul_comm V]
 rw[e1,Nat.add_mul_div_left _ _ (two_pos n)]
 have h':64-n<=64:=by omega
 have:=shl_split (a:=V) h'
 rw[show 64-(64-n)=n by omega]at this
 omega
theorem shr_low {y V n:Nat}:((y+B*V)*2 ^ (64-n)) % B=(y*2 ^ (64-n)) % B:=by
 rw[Nat.add_mul,Nat.mul_assoc,Nat.add_mul_mod_self_left]
theorem bitLenAux_bounds:∀(f x:Nat),0<x->x<2 ^ f → 2 ^ (Go.Lib.bitLenAux f x-1)<=x/\x<2 ^ Go.Lib.bitLenAux f x/\1<=Go.Lib.bitLenAux f x/\Go.Lib.bitLenAux f x<=f
 | 0,x,h0,h=>by simp at h;omega
 | f+1,x,h0,h=>by
   rw[Go.Lib.bitLenAux,if_neg (by omega)]
   rcases Nat.lt_or_ge x 2 with h2|h2
   · obtain rfl:x=1:=by omega
     have:Go.Lib.bitLenAux f (1 / 2)=0:=by cases f<;>rfl
     rw[this];simp
   · obtain⟨a,b,c,d⟩:=bitLenAux_bounds f (x / 2) (by omega) (by rw[Nat.pow_succ]at h;omega)
     obtain⟨k,hk⟩:∃k,Go.Lib.bitLenAux f (x / 2)=k+1:=⟨Go.Lib.bitLenAux f (x / 2)-1,by omega⟩
     rw[hk]at a b d ⊢
     simp only[Nat.add_sub_cancel]at a
     refine⟨?_,?_,by omega,by omega⟩
     · rw[show 1+(k+1)-1=k+1 by omega,Nat.pow_succ];omega
     · rw[show 1+(k+1)=(k+1)+1 by omega,Nat.pow_succ];omega
theorem bitLen_bounds {x:Nat} (h0:0<x) (h:x<B):2 ^ (Go.Lib.bitLen x-1)<=x/\x<2 ^ Go.Lib.bitLen x/\1<=Go.Lib.bitLen x/\Go.Lib.bitLen x<=64:=
 bitLenAux_bounds 64 x h0 (by rw[<-B_two];exact h)
theorem lead_bounds {y:Nat} (h0:0<y) (h:y<B):y*2 ^ (64-Go.Lib.bitLen y)<B/\B<=2*(y*2 ^ (64-Go.Lib.bitLen y)):=by
 obtain⟨a,b,c,d⟩:=bitLen_bounds h0 h
 have e:2 ^ Go.Lib.bitLen y*2 ^ (64-Go.Lib.bitLen y)=B:=by rw[Nat.mul_comm];exact B_split d
 have h2:=two_pos (64-Go.Lib.bitLen y)
 constructor
 · rw[<-e];exact Nat.mul_lt_mul_of_pos_right b h2
 · rw[<-e]
   obtain⟨k,hk⟩:∃k,Go.Lib.bitLen y=k+1:=⟨Go.Lib.bitLen y-1,by omega⟩
   rw[hk]at a ⊢
   simp only[Nat.add_sub_cancel]at a
   rw[Nat.pow_succ,Nat.mul_comm (2 ^ k) 2,Nat.mul_assoc]
   exact Nat.mul_le_mul_left 2 (Nat.mul_le_mul_right _ a)
end Gn

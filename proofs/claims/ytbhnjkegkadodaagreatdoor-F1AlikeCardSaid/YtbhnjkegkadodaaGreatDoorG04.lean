/- Part of the proof. -/
import Derived.Test.YtbhnjkegkadodaaGreatDoorG03
import Derived.Shelf.Spec.BitsCarry
set_option linter.all false
set_option maxRecDepth 100000
set_option maxHeartbeats 8000000
namespace Go.Proofs.YtbhnjkegkadodaaGreatDoor
open Go Go.RowKit Go.Proofs Gn
theorem add64_ex (x y c:Nat) (hx:x<B) (hy:y<B) (hc:c<=1):∃s d:Nat,
 (∀W,(callFunc 82 #[.int .u64 (x:Int),.int .u64 (y:Int),.int .u64 (c:Int)]).run Tryz.prog W=.ok (.value (.tuple #[.int .u64 (s:Int),.int .u64 (d:Int)])) W)/\s+B*d=x+y+c/\s<B/\d<=1:=by
 unfold B at *
 refine⟨(x+y+c) % 18446744073709551616,(x+y+c) / 18446744073709551616,fun W=>?_,by omega,by omega,by omega⟩
 rw[run_callFunc_extern Tryz.func82 (by kernel_rfl) (by kernel_rfl) (by kernel_rfl) (e:=add64Entry) (by kernel_rfl),run_add64 x y c (by omega) (by omega) (by omega) (by omega)]
 simp only[Result.andThen]
 congr 5<;>omega
theorem sub64_ex (x y c:Nat) (hx:x<B) (hy:y<B) (hc:c<=1):∃s d:Nat,
 (∀W,(callFunc 250 #[.int .u64 (x:Int),.int .u64 (y:Int),.int .u64 (c:Int)]).run Tryz.prog W=.ok (.value (.tuple #[.int .u64 (s:Int),.int .u64 (d:Int)])) W)/\s+y+c=x+B*d/\s<B/\d<=1:=by
 unfold B at *
 refine⟨(x+18446744073709551616-y-c) % 18446744073709551616,if x<y+c then 1 else 0,fun W=>?_,by split<;>omega,by omega,by split<;>omega⟩
 rw[run_callFunc_extern Tryz.func250 (by kernel_rfl) (by kernel_rfl) (by kernel_rfl) (e:=sub64Entry) (by kernel_rfl),run_sub64 x y c hc]
 rfl
theorem below_drewN {B:Nat} {a w:World} (h:Below B a w) (n:Nat):Below B a (w.drewN n):=⟨h.os,h.tape,h.output,h.size,h.block⟩
theorem Add_c {A A':Option Addr} {n c n' c':Nat} {a b:List Nat} {w:World} (ha:NatV 22 w A n c a) (hb:NatV 22 w A' n' c' b) (hn:n<=536870912) (hn':n'<=536870912):
 Calls Tryz.prog 28 #[.slice A n c,.slice A' n' c'] w fun e w'=>∃R m d l,e=.returned (.slice R m d)/\NatV 22 w' R m d l/\Gn.Norm l/\val l=val a+val b/\Below w.heap.size w w'/\NewA w R:=by
 obtain⟨i0,hi0,hz0,hz1,hz2⟩:=info_parts info22
 rcases Nat.lt_or_ge (trimLen a) (trimLen b) with hlt|hge
 · have hA:=hb;have hB:=ha
   obtain⟨N,hN⟩:∃N,N=trimLen b:=⟨_,rfl⟩
   obtain⟨M,hM⟩:∃M,M=trimLen a:=⟨_,rfl⟩
   have t1:=hA.trim;have t2:=hB.trim
   rw[<-hN]at t1;rw[<-hM]at t2
   have hNM:M<=N:=by omega
   have hNb:N<=536870912:=by have:=trimLen_le b;have:=hA.len;omega
   have hcmp:decide (M<N)=true:=by simp;omega
   have hmk:∀W:World,(Instr.makeSlice 24 (.int .i64 ((N:Int)+1)) (.int .i64 ((N:Int)+1))).run Tryz.prog W=.ok (.slice (some ⟨W.heap.size,0,none⟩) (N+1) (N+1)) (W.alloc (.cells ((List.replicate (N+1) 0).map u64).toArray 22)):=fun W=>run_make_limbs (P:=Tryz.prog) 24 22 i0 Tryz.underlying24 hi0 hz0 hz1 hz2 (N+1) (by omega) W
   obtain⟨x,hx⟩:∃x,x=trim b:=⟨_,rfl⟩
   obtain⟨y,hy⟩:∃y,y=trim a:=⟨_,rfl⟩
   have ex:val x=val b:=hx▸val_trim _
   have ey:val y=val a:=hy▸val_trim _
   rw[<-hx]at t1;rw[<-hy]at t2
   have Hx:=Lib.hid ex;have Hy:=Lib.hid ey;have HN:=Lib.hid hN;have HM:=Lib.hid hM;have T1:=Lib.hid t1;have T2:=Lib.hid t2
   have H1:=Lib.hid ha;have H2:=Lib.hid hb
   have lx:=t1.lim;have ly:=t2.lim
   have lenx:=Lib.hid t1.len;have leny:=Lib.hid t2.len
   have Lx:=Lib.hid lx;have Ly:=Lib.hid ly
   clear ex ey hN hM t1 t2 ha hb hx hy lx ly hlt
   go_enter Tryz.func28,Tryz.ntmps28
   go_wp2_with (first
    | (go_at_call_of 81 (Value.slice A n c);refine(zax H1.out).mono ?_;rintro e w' ⟨rfl,rfl⟩;rw[<-HM.out])
    | (go_at_call_of 81 (Value.slice A' n' c');refine(zax H2.out).mono ?_;rintro e w' ⟨rfl,rfl⟩;rw[<-HN.out]))
   go_loopw [6,26] (fun cy i wr=>∃(k d:Nat) (o:List Nat),k<=N/\d<=1/\i=.int .i64 (k:Int)/\cy=.int .u64 (d:Int)/\LB 22 wr w.heap.size o/\Hid (o.length=N+1/\Lim o)/\Hid (val (o.take k)+B ^ k*d=val (x.take k)+val (y.take k))/\Below w.heap.size w wr) (fun _ i _=>N-(intOf i).toNat)
   case atStart=>exact⟨0,0,List.replicate (N+1) 0,Nat.zero_le _,by omega,rfl,rfl,LB.zeros _ _ _,Lib.hid ⟨by simp,Lim.zeros _⟩,Lib.hid (by simp),(Below.refl _ _).alloc (Nat.le_refl _) _⟩
   case round=>
    obtain⟨k,d,o,hk,hd,rfl,rfl,hlb,ho,hv,hbw⟩:=hrel
    have hko:k<o.length:=by rw[ho.out.1];omega
    have hck:=hlb.cell k hko
    have hfr:=hlb.frozen k
    have hszw:w.heap.size<wr.heap.size:=hlb.lt
    clear hmk
    by_cases h0:k<N
    · obtain⟨b1,o1,rfl,_⟩:=T1.out.row (by omega)
      have hkx:k<x.length:=by rw[lenx.out];exact h0
      have hcx:=(T1.out.below hbw).cell rfl k hkx
      obtain⟨p,hp⟩:∃p,p=x[k]:=⟨_,rfl⟩
      simp only[u64]at hcx hck
      rw[<-hp]at hcx
      have hpB:p<B:=hp▸Lx.out.get k hkx
      have HP:=Lib.hid hp;clear hp
      by_cases h1:k<M
      · obtain⟨b2,o2,rfl,_⟩:=T2.out.row (by omega)
        have hky:k<y.length:=by rw[leny.out];exact h1
        have hcy:=(T2.out.below hbw).cell rfl k hky
        obtain⟨q,hq⟩:∃q,q=y[k]:=⟨_,rfl⟩
        simp only[u64]at hcy
        rw[<-hq]at hcy
        have hqB:q<B:=hq▸Ly.out.get k hky
        have HQ:=Lib.hid hq;clear hq
        obtain⟨s,d',h82,hs,hsB,hd'⟩:=add64_ex p q d hpB hqB hd
        have HS:=Lib.hid hs;clear hs hpB hqB
        go_wp2
        go_roundw
        case rel=>
         refine⟨k+1,d',o.set k s,by omega,hd',by go_num,rfl,hlb.set k s,Lib.hid ⟨by simp[ho.out.1],ho.out.2.set k s hsB⟩,Lib.hid ?_,hbw.setCell (p:=⟨w.heap.size,k,none⟩) (Nat.le_refl _) _⟩
         rw[zai o k s hko,zag x k hkx,zag y k hky,<-HP.out,<-HQ.out,Nat.pow_succ]
         have h3:=hv.out
         have h4:=congrArg (B ^ k * ·) HS.out
         simp only[Nat.mul_add]at h4
         rw[<-Nat.mul_assoc]at h4
         omega
        case measure=>simp[intOf];omega
      · have hky:y.length<=k:=by rw[leny.out];omega
        obtain⟨s,d',h82,hs,hsB,hd'⟩:=add64_ex p 0 d hpB B_pos hd
        rw[show((0:Nat):Int)=0 from rfl]at h82
        have HS:=Lib.hid hs;clear hs hpB
        go_wp2
        go_roundw
        case rel=>
         refine⟨k+1,d',o.set k s,by omega,hd',by go_num,rfl,hlb.set k s,Lib.hid ⟨by simp[ho.out.1],ho.out.2.set k s hsB⟩,Lib.hid ?_,hbw.setCell (p:=⟨w.heap.size,k,none⟩) (Nat.le_refl _) _⟩
         rw[zai o k s hko,zag x k hkx,zaf (by omega:y.length<=k+1),<-HP.out,Nat.pow_succ]
         have h3:=hv.out
         rw[zaf hky]at h3
         have h4:=congrArg (B ^ k * ·) HS.out
         simp only[Nat.mul_add,Nat.add_zero]at h4
         rw[<-Nat.mul_assoc]at h4
         omega
        case measure=>simp[intOf];omega
    · obtain rfl:k=N:=by omega
      simp only[u64]at hck
      have hlb2:=hlb.set k d
      have hd2:d<B:=by unfold B;omega
      have nv:NatV 22 (wr.setCell ⟨w.heap.size,k,none⟩ (u64 d)) (some ⟨w.heap.size,0,none⟩) (k+1) (k+1) (o.set k d):=
       hlb2.natV (ho.out.2.set k d hd2) (by simp[ho.out.1]) (Nat.le_refl _) (by simp[maxLen];omega)
      have NV:=Lib.hid nv;clear nv hd2 hlb2
      go_wp2_with (go_at_call 81;refine(zax NV.out).mono ?_;rintro e w' ⟨rfl,rfl⟩)
      go_ret
      refine⟨_,_,_,_,rfl,NV.out.trim,norm_trim _,?_,hbw.setCell (p:=⟨w.heap.size,k,none⟩) (Nat.le_refl _) _,NewA.mk (Nat.le_refl _)⟩
      rw[val_trim,<-zaf (show(o.set k d).length<=k+1 by simp[ho.out.1]),zai o k d hko,hv.out,zaf (by rw[lenx.out];omega),zaf (by rw[leny.out];omega),Hx.out,Hy.out,Nat.add_comm]
 · have hA:=ha;have hB:=hb
   obtain⟨N,hN⟩:∃N,N=trimLen a:=⟨_,rfl⟩
   obtain⟨M,hM⟩:∃M,M=trimLen b:=⟨_,rfl⟩
   have t1:=hA.trim;have t2:=hB.trim
   rw[<-hN]at t1;rw[<-hM]at t2
   have hNM:M<=N:=by omega
   have hNb:N<=536870912:=by have:=trimLen_le a;have:=hA.len;omega
   have hcmp:decide (N<M)=false:=by simp;omega
   have hmk:∀W:World,(Instr.makeSlice 24 (.int .i64 ((N:Int)+1)) (.int .i64 ((N:Int)+1))).run Tryz.prog W=.ok (.slice (some ⟨W.heap.size,0,none⟩) (N+1) (N+1)) (W.alloc (.cells ((List.replicate (N+1) 0).map u64).toArray 22)):=fun W=>run_make_limbs (P:=Tryz.prog) 24 22 i0 Tryz.underlying24 hi0 hz0 hz1 hz2 (N+1) (by omega) W
   obtain⟨x,hx⟩:∃x,x=trim a:=⟨_,rfl⟩
   obtain⟨y,hy⟩:∃y,y=trim b:=⟨_,rfl⟩
   have ex:val x=val a:=hx▸val_trim _
   have ey:val y=val b:=hy▸val_trim _
   rw[<-hx]at t1;rw[<-hy]at t2
   have Hx:=Lib.hid ex;have Hy:=Lib.hid ey;have HN:=Lib.hid hN;have HM:=Lib.hid hM;have T1:=Lib.hid t1;have T2:=Lib.hid t2
   have H1:=Lib.hid ha;have H2:=Lib.hid hb
   have lx:=t1.lim;have ly:=t2.lim
   have lenx:=Lib.hid t1.len;have leny:=Lib.hid t2.len
   have Lx:=Lib.hid lx;have Ly:=Lib.hid ly
   clear ex ey hN hM t1 t2 ha hb hx hy lx ly hge
   go_enter Tryz.func28,Tryz.ntmps28
   go_wp2_with (first
    | (go_at_call_of 81 (Value.slice A n c);refine(zax H1.out).mono ?_;rintro e w' ⟨rfl,rfl⟩;rw[<-HN.out])
    | (go_at_call_of 81 (Value.slice A' n' c');refine(zax H2.out).mono ?_;rintro e w' ⟨rfl,rfl⟩;rw[<-HM.out]))
   go_loopw [6,26] (fun cy i wr=>∃(k d:Nat) (o:List Nat),k<=N/\d<=1/\i=.int .i64 (k:Int)/\cy=.int .u64 (d:Int)/\LB 22 wr w.heap.size o/\Hid (o.length=N+1/\Lim o)/\Hid (val (o.take k)+B ^ k*d=val (x.take k)+val (y.take k))/\Below w.heap.size w wr) (fun _ i _=>N-(intOf i).toNat)
   case atStart=>exact⟨0,0,List.replicate (N+1) 0,Nat.zero_le _,by omega,rfl,rfl,LB.zeros _ _ _,Lib.hid ⟨by simp,Lim.zeros _⟩,Lib.hid (by simp),(Below.refl _ _).alloc (Nat.le_refl _) _⟩
   case round=>
    obtain⟨k,d,o,hk,hd,rfl,rfl,hlb,ho,hv,hbw⟩:=hrel
    have hko:k<o.length:=by rw[ho.out.1];omega
    have hck:=hlb.cell k hko
    have hfr:=hlb.frozen k
    have hszw:w.heap.size<wr.heap.size:=hlb.lt
    clear hmk
    by_cases h0:k<N
    · obtain⟨b1,o1,rfl,_⟩:=T1.out.row (by omega)
      have hkx:k<x.length:=by rw[lenx.out];exact h0
      have hcx:=(T1.out.below hbw).cell rfl k hkx
      obtain⟨p,hp⟩:∃p,p=x[k]:=⟨_,rfl⟩
      simp only[u64]at hcx hck
      rw[<-hp]at hcx
      have hpB:p<B:=hp▸Lx.out.get k hkx
      have HP:=Lib.hid hp;clear hp
      by_cases h1:k<M
      · obtain⟨b2,o2,rfl,_⟩:=T2.out.row (by omega)
        have hky:k<y.length:=by rw[leny.out];exact h1
        have hcy:=(T2.out.below hbw).cell rfl k hky
        obtain⟨q,hq⟩:∃q,q=y[k]:=⟨_,rfl⟩
        simp only[u64]at hcy
        rw[<-hq]at hcy
        have hqB:q<B:=hq▸Ly.out.get k hky
        have HQ:=Lib.hid hq;clear hq
        obtain⟨s,d',h82,hs,hsB,hd'⟩:=add64_ex p q d hpB hqB hd
        have HS:=Lib.hid hs;clear hs hpB hqB
        go_wp2
        go_roundw
        case rel=>
         refine⟨k+1,d',o.set k s,by omega,hd',by go_num,rfl,hlb.set k s,Lib.hid ⟨by simp[ho.out.1],ho.out.2.set k s hsB⟩,Lib.hid ?_,hbw.setCell (p:=⟨w.heap.size,k,none⟩) (Nat.le_refl _) _⟩
         rw[zai o k s hko,zag x k hkx,zag y k hky,<-HP.out,<-HQ.out,Nat.pow_succ]
         have h3:=hv.out
         have h4:=congrArg (B ^ k * ·) HS.out
         simp only[Nat.mul_add]at h4
         rw[<-Nat.mul_assoc]at h4
         omega
        case measure=>simp[intOf];omega
      · have hky:y.length<=k:=by rw[leny.out];omega
        obtain⟨s,d',h82,hs,hsB,hd'⟩:=add64_ex p 0 d hpB B_pos hd
        rw[show((0:Nat):Int)=0 from rfl]at h82
        have HS:=Lib.hid hs;clear hs hpB
        go_wp2
        go_roundw
        case rel=>
         refine⟨k+1,d',o.set k s,by omega,hd',by go_num,rfl,hlb.set k s,Lib.hid ⟨by simp[ho.out.1],ho.out.2.set k s hsB⟩,Lib.hid ?_,hbw.setCell (p:=⟨w.heap.size,k,none⟩) (Nat.le_refl _) _⟩
         rw[zai o k s hko,zag x k hkx,zaf (by omega:y.length<=k+1),<-HP.out,Nat.pow_succ]
         have h3:=hv.out
         rw[zaf hky]at h3
         have h4:=congrArg (B ^ k * ·) HS.out
         simp only[Nat.mul_add,Nat.add_zero]at h4
         rw[<-Nat.mul_assoc]at h4
         omega
        case measure=>simp[intOf];omega
    · obtain rfl:k=N:=by omega
      simp only[u64]at hck
      have hlb2:=hlb.set k d
      have hd2:d<B:=by unfold B;omega
      have nv:NatV 22 (wr.setCell ⟨w.heap.size,k,none⟩ (u64 d)) (some ⟨w.heap.size,0,none⟩) (k+1) (k+1) (o.set k d):=
       hlb2.natV (ho.out.2.set k d hd2) (by simp[ho.out.1]) (Nat.le_refl _) (by simp[maxLen];omega)
      have NV:=Lib.hid nv;clear nv hd2 hlb2
      go_wp2_with (go_at_call 81;refine(zax NV.out).mono ?_;rintro e w' ⟨rfl,rfl⟩)
      go_ret
      refine⟨_,_,_,_,rfl,NV.out.trim,norm_trim _,?_,hbw.setCell (p:=⟨w.heap.size,k,none⟩) (Nat.le_refl _) _,NewA.mk (Nat.le_refl _)⟩
      rw[val_trim,<-zaf (show(o.set k d).length<=k+1 by simp[ho.out.1]),zai o k d hko,hv.out,zaf (by rw[lenx.out];omega),zaf (by rw[leny.out];omega),Hx.out,Hy.out]
theorem mul64_ex (x y:Nat) (hx:x<B) (hy:y<B):∃hi lo:Nat,
 (∀W,Calls Tryz.prog 83 #[.int .u64 (x:Int),.int .u64 (y:Int)] W fun e w'=>e=.returned (.tuple #[.int .u64 (hi:Int),.int .u64 (lo:Int)])/\W=w')/\lo+B*hi=x*y/\lo<B/\hi<B:=by
 refine⟨x*y / 18446744073709551616,x*y % 18446744073709551616,fun W=>(Tryz.bits_Mul64 x y hx hy W).mono fun e w' h=>⟨h.1,h.2.symm⟩,?_,?_,?_⟩
 · exact Nat.mod_add_div (x*y) B
 · exact Nat.mod_lt _ B_pos
 · refine Nat.div_lt_of_lt_mul ?_
   rcases Nat.eq_zero_or_pos y with h0|h0
   · rw[h0,Nat.mul_zero];decide
   · exact zqL (Nat.mul_lt_mul_of_pos_right hx h0) (Nat.mul_le_mul_left B (Nat.le_of_lt hy))
theorem add64_z (x y:Nat) (hx:x<B) (hy:y<B):∃s d:Nat,
 (∀W,(callFunc 82 #[.int .u64 (x:Int),.int .u64 (y:Int),.int .u64 0]).run Tryz.prog W=.ok (.value (.tuple #[.int .u64 (s:Int),.int .u64 (d:Int)])) W)/\s+B*d=x+y/\s<B/\d<=1:=add64_ex x y 0 hx hy (by omega)
theorem mul_step_fits {p q r c:Nat} (hp:p<B) (hq:q<B) (hr:r<B) (hc:c<B):p*q+r+c<B*B:=by
 have h1:p*q<=(B-1)*(B-1):=Nat.mul_le_mul (by omega) (by omega)
 have h2:(B-1)*(B-1)+(B-1)+(B-1)<B*B:=by decide
 omega
theorem Mul_c {A A':Option Addr} {n c n' c':Nat} {a b:List Nat} {w:World} (ha:NatV 22 w A n c a) (hb:NatV 22 w A' n' c' b) (hn:n<=268435456) (hn':n'<=268435456):
 Calls Tryz.prog 29 #[.slice A n c,.slice A' n' c'] w fun e w'=>∃R m d l,e=.returned (.slice R m d)/\NatV 22 w' R m d l/\Gn.Norm l/\val l=val a*val b/\Below w.heap.size w w'/\NewA w R:=by
 obtain⟨i0,hi0,hz0,hz1,hz2⟩:=info_parts info22
 obtain⟨N,hN⟩:∃N,N=trimLen a:=⟨_,rfl⟩
 obtain⟨M,hM⟩:∃M,M=trimLen b:=⟨_,rfl⟩
 have t1:=ha.trim;have t2:=hb.trim
 rw[<-hN]at t1;rw[<-hM]at t2
 have hNb:N<=268435456:=by have:=trimLen_le a;have:=ha.len;omega
 have hMb:M<=268435456:=by have:=trimLen_le b;have:=hb.len;omega
 have hmk:∀W:World,(Instr.makeSlice 24 (.int .i64 ((N:Int)+(M:Int))) (.int .i64 ((N:Int)+(M:Int)))).run Tryz.prog W=.ok (.slice (some ⟨W.heap.size,0,none⟩) (N+M) (N+M)) (W.alloc (.cells ((List.replicate (N+M) 0).map u64).toArray 22)):=fun W=>by
  have h:=run_make_limbs (P:=Tryz.prog) 24 22 i0 Tryz.underlying24 hi0 hz0 hz1 hz2 (N+M) (by omega) W
  rwa [Int.natCast_add]at h
 obtain⟨x,hx⟩:∃x,x=trim a:=⟨_,rfl⟩
 obtain⟨y,hy⟩:∃y,y=trim b:=⟨_,rfl⟩
 rw[<-hx]at t1;rw[<-hy]at t2
 have Hx:=Lib.hid (show val x=val a from hx▸val_trim _)
 have Hy:=Lib.hid (show val y=val b from hy▸val_trim _)
 have HN:=Lib.hid hN;have HM:=Lib.hid hM;have T1:=Lib.hid t1;have T2:=Lib.hid t2
 have H1:=Lib.hid ha;have H2:=Lib.hid hb
 have lenx:=Lib.hid t1.len;have leny:=Lib.hid t2.len
 have Lx:=Lib.hid t1.lim;have Ly:=Lib.hid t2.lim
 clear hN hM t1 t2 ha hb hx hy
 go_enter Tryz.func29,Tryz.ntmps29
 go_wp2_with (first
  | (go_at_call_of 81 (Value.slice A n c);refine(zax H1.out).mono ?_;rintro e w' ⟨rfl,rfl⟩;rw[<-HN.out])
  | (go_at_call_of 81 (Value.slice A' n' c');refine(zax H2.out).mono ?_;rintro e w' ⟨rfl,rfl⟩;rw[<-HM.out]))
 clear hmk
 go_loopw [24] (fun i wr=>∃(k:Nat) (o:List Nat),k<=N/\i=.int .i64 (k:Int)/\LB 22 wr w.heap.size o/\Hid (o.length=N+M/\Lim o/\∀j,k+M<=j->∀h:j<o.length,o[j]=0)/\Hid (val o=val (x.take k)*val y)/\Below w.heap.size w wr) (fun i _=>N-(intOf i).toNat)
 case atStart=>exact⟨0,List.replicate (N+M) 0,Nat.zero_le _,rfl,LB.zeros _ _ _,Lib.hid ⟨by simp,Lim.zeros _,by simp⟩,Lib.hid (by simp[val_zeros]),(Below.refl _ _).alloc (Nat.le_refl _) _⟩
 case round=>
  obtain⟨k,o,hk,rfl,hlb,ho,hv,hbw⟩:=hrel
  by_cases h0:k<N
  · obtain⟨b1,o1,rfl,_⟩:=T1.out.row (by omega)
    have hkx:k<x.length:=by rw[lenx.out];exact h0
    obtain⟨p,hp⟩:∃p,p=x[k]:=⟨_,rfl⟩
    have hpB:=Lib.hid (show p<B from hp▸Lx.out.get k hkx)
    have HP:=Lib.hid hp;clear hp
    go_wp2
    go_loopw [7,29] (fun cy i wr2=>∃(j d:Nat) (o2:List Nat),j<=M/\i=.int .i64 (j:Int)/\cy=.int .u64 (d:Int)/\LB 22 wr2 w.heap.size o2/\Hid (d<B/\o2.length=N+M/\Lim o2/\∀j,k+M<=j->∀h:j<o2.length,o2[j]=0)/\Hid (val o2+B ^ (k+j)*d=val (x.take k)*val y+B ^ k*(p*val (y.take j)))/\Below w.heap.size w wr2) (fun _ i _=>M-(intOf i).toNat)
    case atStart=>exact⟨0,0,o,Nat.zero_le _,rfl,rfl,hlb,Lib.hid ⟨B_pos,ho.out⟩,Lib.hid (by simp[hv.out]),hbw⟩
    case round=>
     obtain⟨j,d,o2,hj,rfl,rfl,hlb2,ho2,hv2,hbw2⟩:=hrel
     by_cases h1:j<M
     · obtain⟨b2,off2,rfl,_⟩:=T2.out.row (by omega)
       have hky:j<y.length:=by rw[leny.out];exact h1
       have hcx:=(T1.out.below hbw2).cell rfl k hkx
       have hcy:=(T2.out.below hbw2).cell rfl j hky
       obtain⟨q,hq⟩:∃q,q=y[j]:=⟨_,rfl⟩
       have hko:k+j<o2.length:=by rw[ho2.out.2.1];omega
       have hco:=hlb2.cell (k+j) hko
       obtain⟨r,hr⟩:∃r,r=o2[k+j]:=⟨_,rfl⟩
       simp only[Gn.u64]at hcx hcy hco
       rw[<-HP.out]at hcx;rw[<-hq]at hcy;rw[<-hr]at hco
       have hqB:q<B:=hq▸Ly.out.get j hky
       have hrB:r<B:=hr▸ho2.out.2.2.1.get _ hko
       have hfit:=mul_step_fits hpB.out hqB hrB ho2.out.1
       obtain⟨hi,lo,h83,hml,hloB,hhiB⟩:=mul64_ex p q hpB.out hqB
       obtain⟨s1,c1,h82,hs1,hs1B,hc1⟩:=add64_z lo r hloB hrB
       obtain⟨s2,c2,h82',hs2,hs2B,hc2⟩:=add64_z s1 d hs1B ho2.out.1
       have tot:s2+B*(hi+c1+c2)=p*q+r+d:=by rw[Nat.mul_add,Nat.mul_add];omega
       have hB2:hi+c1+c2<B:=by
        rcases Nat.lt_or_ge (hi+c1+c2) B with h|h
        · exact h
        · exfalso
          have:=Nat.mul_le_mul_left B h
          omega
       have hw1:hi+c1<=18446744073709551615:=by unfold B at hB2;omega
       have hw2:hi+c1+c2<=18446744073709551615:=by unfold B at hB2;omega
       have TOT:=Lib.hid tot;have HB2:=Lib.hid hB2;have HQ:=Lib.hid hq;have HR:=Lib.hid hr;have S2B:=Lib.hid hs2B;have H83:=Lib.hid h83
       have hfr:=hlb2.frozen (k+j)
       have hix:((k:Int)+(j:Int)).toNat=k+j:=by omega
       have hszw:w.heap.size<wr.heap.size:=hlb2.lt
       clear tot hB2 hq hr hs2B h83 hml hs1 hs2 hs1B hloB hhiB hfit hqB hrB
       go_wp2_with fail
       go_quiet ((go_at_call 83;exact quiet_l (H83.out _)))
       go_wp2
       go_roundw
       case rel=>
        refine⟨j+1,hi+c1+c2,o2.set (k+j) s2,by omega,by go_num,by go_num,hlb2.set (k+j) s2,Lib.hid ⟨HB2.out,by simp[ho2.out.2.1],ho2.out.2.2.1.set _ _ S2B.out,fun t ht h=>?_⟩,Lib.hid ?_,(below_drewN hbw2 _).setCell (p:=⟨w.heap.size,k+j,none⟩) (Nat.le_refl _) _⟩
        · rw[List.getElem_set_ne (by omega)];exact ho2.out.2.2.2 t ht (by simpa using h)
        · have h3:=hv2.out
          have h4:=val_set o2 (k+j) s2 hko
          rw[<-HR.out]at h4
          have h5:=congrArg (B ^ (k+j) * ·) TOT.out
          simp only[Nat.mul_add]at h5
          rw[zag y j hky,<-HQ.out,<-Nat.add_assoc,Nat.pow_succ,Nat.mul_add p,Nat.mul_add (B ^ k),Nat.mul_assoc (B ^ (k+j)) B]
          have h6:B ^ k*(p*(B ^ j*q))=B ^ (k+j)*(p*q):=by
           rw[Nat.pow_add,Nat.mul_left_comm p,Nat.mul_assoc]
          rw[h6]
          simp only[Nat.mul_add]
          omega
       case measure=>simp[intOf];omega
     · obtain rfl:j=M:=by omega
       have hko:k+j<o2.length:=by rw[ho2.out.2.1];omega
       have hco:=hlb2.cell (k+j) hko
       have hfr:=hlb2.frozen (k+j)
       have hix:((k:Int)+(j:Int)).toNat=k+j:=by omega
       have hszw:w.heap.size<wr.heap.size:=hlb2.lt
       have hz:o2[k+j]=0:=ho2.out.2.2.2 _ (Nat.le_refl _) hko
       have Z:=Lib.hid hz;clear hz
       simp only[Gn.u64]at hco
       go_wp2
       go_roundw
       case rel=>
        refine⟨k+1,o2.set (k+j) d,by omega,by go_num,hlb2.set (k+j) d,Lib.hid ⟨by simp[ho2.out.2.1],ho2.out.2.2.1.set _ _ ho2.out.1,fun t ht h=>?_⟩,Lib.hid ?_,hbw2.setCell (p:=⟨w.heap.size,k+j,none⟩) (Nat.le_refl _) _⟩
        · rw[List.getElem_set_ne (by omega)];exact ho2.out.2.2.2 t (by omega) (by simpa using h)
        · have h3:=hv2.out
          have h4:=val_set o2 (k+j) d hko
          rw[Z.out,Nat.mul_zero,Nat.add_zero]at h4
          rw[h4,h3,zag x k hkx,<-HP.out,Nat.add_mul,zaf (l:=y) (by rw[leny.out];omega),Nat.mul_assoc]
       case measure=>simp[intOf];omega
  · obtain rfl:k=N:=by omega
    have nv:NatV 22 wr (some ⟨w.heap.size,0,none⟩) (k+M) (k+M) o:=hlb.natV ho.out.2.1 ho.out.1 (Nat.le_refl _) (by simp[maxLen];omega)
    have NV:=Lib.hid nv;clear nv
    go_wp2_with (go_at_call 81;refine(zax NV.out).mono ?_;rintro e w' ⟨rfl,rfl⟩)
    go_ret
    refine⟨_,_,_,_,rfl,NV.out.trim,norm_trim _,?_,hbw,NewA.mk (Nat.le_refl _)⟩
    rw[val_trim,hv.out,zaf (by rw[lenx.out];omega),Hx.out,Hy.out]
theorem less_nil {A:Option Addr} {c:Nat} {A':Option Addr} {n' c':Nat} {w:World}:Calls Tryz.prog 207 #[.slice A 0 c,.slice A' n' c'] w fun e w'=>e=.returned (.tuple #[])/\w=w':=by
 go_enter Tryz.func207,Tryz.ntmps207
 go_wp2
 go_loop [9] (fun i=>i=.int .i64 0) (fun _=>0)
 case atStart=>rfl
 case round=>
  subst hrel
  go_wp2
  go_end0
  exact⟨rfl,rfl⟩
theorem less_c {g n c:Nat} {A':Option Addr} {n' c':Nat} {a y:List Nat} {w:World} (ha:LP 22 w g a) (hal:Lim a) (hn:a.length=n) (hb:NatV 22 w A' n' c' y) (hnn:n'<=n) (hn1:n<=1073741824) (hv:val y<=val a)
 (hne:∀b off,0<n'->A'=some ⟨b,off,none⟩->b≠g):
 Calls Tryz.prog 207 #[.slice (some ⟨g,0,none⟩) n c,.slice A' n' c'] w fun e w'=>e=.returned (.tuple #[])/\(∃o,LP 22 w' g o/\o.length=n/\Lim o/\val o+val y=val a)/\w.grownBy w' (some g):=by
 have hb':∀w',w.grownBy w' (some g)->NatV 22 w' A' n' c' y:=fun w' h=>hb.grown h fun b off h0 e h1=>hne b off h0 e (by simpa using h1)
 have Ha:=Lib.hid ha;have Hal:=Lib.hid hal;have Hn:=Lib.hid hn;have Hb:=Lib.hid hb';have Hv:=Lib.hid hv
 have leny:=Lib.hid hb.len;have Ly:=Lib.hid hb.lim
 clear ha hal hn hb hv hne hb'
 go_enter Tryz.func207,Tryz.ntmps207
 go_wp2
 go_loopw [4,9] (fun bo i wr=>∃(k d:Nat) (o:List Nat),k<=n/\d<=1/\i=.int .i64 (k:Int)/\bo=.int .u64 (d:Int)/\LP 22 wr g o/\Hid (o.length=n/\Lim o/\∀j,k<=j->∀(h:j<o.length) (h':j<a.length),o[j]=a[j])/\Hid (val (o.take k)+val (y.take k)=val (a.take k)+B ^ k*d)/\Hid (w.grownBy wr (some g))) (fun _ i _=>n-(intOf i).toNat)
 case atStart=>exact⟨0,0,a,Nat.zero_le _,by omega,rfl,rfl,Ha.out,Lib.hid ⟨Hn.out,Hal.out,fun _ _ _ _=>rfl⟩,Lib.hid (by simp),Lib.hid (World.grownBy.refl _ _)⟩
 case round=>
  obtain⟨k,d,o,hk,hd,rfl,rfl,hlp,ho,hv,hg⟩:=hrel
  by_cases h0:k<n
  · have hko:k<o.length:=by rw[ho.out.1];exact h0
    have hka:k<a.length:=by rw[Hn.out];exact h0
    have hcx:=hlp.cell k hko
    have hfr:=hlp.frozen k
    have hszw:g<wr.heap.size:=hlp.lt
    obtain⟨p,hp⟩:∃p,p=o[k]:=⟨_,rfl⟩
    have hpB:p<B:=hp▸ho.out.2.1.get k hko
    simp only[Gn.u64]at hcx
    rw[<-hp]at hcx
    have HP:=Lib.hid (show p=a[k] from hp.trans (ho.out.2.2 k (Nat.le_refl _) hko hka));clear hp
    by_cases h1:k<n'
    · have hbk:=Hb.out wr hg.out
      obtain⟨b2,o2,rfl,_⟩:=hbk.row (by omega)
      have hky:k<y.length:=by rw[leny.out];exact h1
      have hcy:=hbk.cell rfl k hky
      obtain⟨q,hq⟩:∃q,q=y[k]:=⟨_,rfl⟩
      simp only[Gn.u64]at hcy
      rw[<-hq]at hcy
      have hqB:q<B:=hq▸Ly.out.get k hky
      have HQ:=Lib.hid hq;clear hq
      obtain⟨s,d',h82,hs,hsB,hd'⟩:=sub64_ex p q d hpB hqB hd
      have HS:=Lib.hid hs;have SB:=Lib.hid hsB;clear hs hpB hqB hsB hbk
      go_wp2
      go_roundw
      case rel=>
       refine⟨k+1,d',o.set k s,by omega,hd',by go_num,rfl,hlp.set k s hko,Lib.hid ⟨by simp[ho.out.1],ho.out.2.1.set k s SB.out,fun j hj h h'=>?_⟩,Lib.hid ?_,Lib.hid (zal hg.out rfl _)⟩
       · rw[List.getElem_set_ne (by omega)];exact ho.out.2.2 j (by omega) (by simpa using h) h'
       · rw[zai o k s hko,zag a k hka,zag y k hky,<-HP.out,<-HQ.out,Nat.pow_succ]
         have h3:=hv.out
         have h4:=congrArg (B ^ k * ·) HS.out
         simp only[Nat.mul_add]at h4
         rw[<-Nat.mul_assoc]at h4
         omega
      case measure=>simp[intOf];omega
    · have hky:y.length<=k:=by rw[leny.out];omega
      obtain⟨s,d',h82,hs,hsB,hd'⟩:=sub64_ex p 0 d hpB B_pos hd
      rw[show((0:Nat):Int)=0 from rfl]at h82
      have HS:=Lib.hid hs;have SB:=Lib.hid hsB;clear hs hpB hsB
      go_wp2
      go_roundw
      case rel=>
       refine⟨k+1,d',o.set k s,by omega,hd',by go_num,rfl,hlp.set k s hko,Lib.hid ⟨by simp[ho.out.1],ho.out.2.1.set k s SB.out,fun j hj h h'=>?_⟩,Lib.hid ?_,Lib.hid (zal hg.out rfl _)⟩
       · rw[List.getElem_set_ne (by omega)];exact ho.out.2.2 j (by omega) (by simpa using h) h'
       · rw[zai o k s hko,zag a k hka,zaf (by omega:y.length<=k+1),<-HP.out,Nat.pow_succ]
         have h3:=hv.out
         rw[zaf (l:=y) hky]at h3
         have h4:=congrArg (B ^ k * ·) HS.out
         simp only[Nat.mul_add,Nat.add_zero]at h4
         rw[<-Nat.mul_assoc]at h4
         omega
      case measure=>simp[intOf];omega
  · obtain rfl:k=n:=by omega
    go_wp2
    go_end0
    refine⟨rfl,⟨o,hlp,ho.out.1,ho.out.2.1,?_⟩,hg.out⟩
    have h3:=hv.out
    rw[zaf (l:=o) (by rw[ho.out.1];omega),zaf (l:=y) (by rw[leny.out];omega),zaf (l:=a) (by rw[Hn.out];omega)]at h3
    have h4:=val_lt ho.out.2.1
    rw[ho.out.1]at h4
    have h5:=Hv.out
    rcases Nat.eq_zero_or_pos d with hd0|hd0
    · rw[hd0,Nat.mul_zero]at h3;omega
    · obtain rfl:d=1:=by omega
      omega
theorem Sub_c {A A':Option Addr} {n c n' c':Nat} {a b:List Nat} {w:World} (ha:NatV 22 w A n c a) (hb:NatV 22 w A' n' c' b) (hn:n<=1073741824) (hv:val b<=val a):
 Calls Tryz.prog 141 #[.slice A n c,.slice A' n' c'] w fun e w'=>∃R m d l,e=.returned (.tuple #[.slice R m d,.int .i64 0])/\NatV 22 w' R m d l/\Gn.Norm l/\val l+val b=val a/\Below w.heap.size w w'/\NewA w R:=by
 obtain⟨z,hz⟩:∃z,z=cmpI (val a) (val b):=⟨_,rfl⟩
 have hzb:decide (z<0)=false:=by
  rw[hz]
  rcases Nat.lt_or_ge (val b) (val a) with h|h
  · rw[cmpI_gt (by omega)];rfl
  · rw[cmpI_eq (by omega) (by omega)];rfl
 have C:=Lib.hid (show Calls Tryz.prog 31 #[.slice A n c,.slice A' n' c'] w fun e w'=>e=.returned (.int .i64 z)/\∃q,w'=w.drewN q from hz▸Cmp_c ha hb)
 clear hz
 have lenb:trimLen b<=trimLen a:=by
  rcases Nat.lt_or_ge (trimLen a) (trimLen b) with h|h
  · have:=val_lt_len (lim_trim ha.lim) (norm_trim b) (by rw[zaq,zaq];exact h)
    rw[val_trim,val_trim]at this;omega
  · exact h
 have hta:trimLen a<=1073741824:=by have:=trimLen_le a;have:=ha.len;omega
 have Ha:=Lib.hid ha;have Hb:=Lib.hid hb;have Hv:=Lib.hid hv
 clear ha hb hv
 go_enter Tryz.func141,Tryz.ntmps141
 go_wp2_with (first
  | (go_at_call 31;refine C.out.mono ?_;rintro e w' ⟨rfl,q,rfl⟩)
  | (go_at_call 147;refine(Norm_c (Ha.out.drewN q) hn).mono ?_;rintro e w1 ⟨A1,c1,rfl,hown,hb1⟩)
  | (go_at_call_of 81 (Value.slice A' n' c');refine(zax ((Hb.out.drewN q).below hb1)).mono ?_;rintro e w2 ⟨rfl,rfl⟩))
 rcases Nat.eq_zero_or_pos (trimLen a) with h0|h0
 · have h0':trimLen b=0:=by omega
   rw[h0]
   refine less_nil.mono ?_
   rintro e w2 ⟨rfl,rfl⟩
   have nv:NatV 22 w1 A1 0 c1 []:=⟨rfl,Nat.zero_le _,by obtain⟨_,h⟩:=hown;rcases h with⟨e,_⟩|⟨_,_,_,e,_,_,_,hm,_⟩<;>(injection e with _ _ e3;subst e3;first|exact Nat.zero_le _|exact hm),Lim.nil,fun h=>absurd h (by omega)⟩
   have NV:=Lib.hid nv;clear nv h0' lenb
   have H0:=Lib.hid h0;clear h0
   go_wp2_with (go_at_call 81;refine(zax NV.out).mono ?_;rintro e w3 ⟨rfl,rfl⟩)
   go_ret2
   refine⟨_,_,_,_,rfl,NV.out.trim,norm_trim _,?_,?_,own_new hown⟩
   · have ea:trim a=[]:=List.eq_nil_of_length_eq_zero (by rw[zaq];exact H0.out)
     have e1:=val_trim a
     rw[ea]at e1
     have:=Hv.out
     rw[show trim ([]:List Nat)=[] from rfl]
     simp only[val_nil]at e1 ⊢
     omega
   · exact(below_drewN (Below.refl w.heap.size w) q).trans hb1
 · obtain⟨g,rfl,hg,hlp,hnc,hcm⟩:=LP.of_own hown h0
   have hbt:=((Hb.out.drewN q).below hb1).trim
   have hbl:∀b2 off,0<trimLen b->A'=some ⟨b2,off,none⟩->b2≠g:=by
    intro b2 off h1 h2 h3
    obtain⟨b3,o3,e,hr⟩:=Hb.out.row (by have:=trimLen_le b;have:=Hb.out.len;omega)
    rw[h2]at e
    injection e with e
    injection e with e4 e5
    have:=hr.lt
    have hg':w.heap.size<=g:=hg
    omega
   refine(less_c hlp (lim_trim Ha.out.lim) (zaq a) hbt lenb hta (by rw[val_trim,val_trim];exact Hv.out) hbl).mono ?_
   rintro e w2 ⟨rfl,⟨o,hlp2,hol,hol2,hov⟩,hg2⟩
   have nv:NatV 22 w2 (some ⟨g,0,none⟩) (trimLen a) c1 o:=hlp2.natV hol2 hol hnc hcm
   have NV:=Lib.hid nv;have HO:=Lib.hid hov;have HG:=Lib.hid hg2;have HB:=Lib.hid hb1;have HGG:=Lib.hid hg
   clear nv hov hg2 hb1 hol hol2 hlp hlp2 hbt hbl hown hg
   go_wp2_with (go_at_call 81;refine(zax NV.out).mono ?_;rintro e w3 ⟨rfl,rfl⟩)
   go_ret2
   refine⟨_,_,_,_,rfl,NV.out.trim,norm_trim _,?_,?_,NewA.mk HGG.out⟩
   · have:=HO.out
     rw[val_trim,val_trim]at this
     rw[val_trim];exact this
   · exact((below_drewN (Below.refl w.heap.size w) q).trans HB.out).grown HG.out HB.out.size (fun k e=>by injection e with e;subst e;exact HGG.out)
end Go.Proofs.YtbhnjkegkadodaaGreatDoor

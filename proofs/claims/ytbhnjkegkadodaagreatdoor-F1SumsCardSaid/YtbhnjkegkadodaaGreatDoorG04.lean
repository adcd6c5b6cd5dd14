/- Part of the proof. -/
import Derived.Test.YtbhnjkegkadodaaGreatDoorG03
import Derived.Shelf.Spec.BitsCarry
set_option linter.all false
set_option maxRecDepth 100000
set_option maxHeartbeats 8000000
namespace Gz
open Go Go.RowKit Go.Proofs Gn
theorem add64_ex (x y c:Nat) (hx:x<B) (hy:y<B) (hc:c<=1):∃s d:Nat,
 (∀W,(callFunc 82 #[.int .u64 (x:Int),.int .u64 (y:Int),.int .u64 (c:Int)]).run Tryz.prog W=.ok (.value (.tuple #[.int .u64 (s:Int),.int .u64 (d:Int)])) W)/\s+B*d=x+y+c/\s<B/\d<=1:=by
 unfold B at *
 refine⟨(x+y+c) % 18446744073709551616,(x+y+c) / 18446744073709551616,fun W=>?_,by omega,by omega,by omega⟩;rw[run_callFunc_extern Tryz.func82 (by kernel_rfl) (by kernel_rfl) (by kernel_rfl) (e:=add64Entry) (by kernel_rfl),run_add64 x y c (by omega) (by omega) (by omega) (by omega)];simp only[Result.andThen]
 congr 5<;>omega
theorem sub64_ex (x y c:Nat) (hx:x<B) (hy:y<B) (hc:c<=1):∃s d:Nat,
 (∀W,(callFunc 250 #[.int .u64 (x:Int),.int .u64 (y:Int),.int .u64 (c:Int)]).run Tryz.prog W=.ok (.value (.tuple #[.int .u64 (s:Int),.int .u64 (d:Int)])) W)/\s+y+c=x+B*d/\s<B/\d<=1:=by
 unfold B at *
 refine⟨(x+18446744073709551616-y-c) % 18446744073709551616,if x<y+c then 1 else 0,fun W=>?_,by split<;>omega,by omega,by split<;>omega⟩;rw[run_callFunc_extern Tryz.func250 (by kernel_rfl) (by kernel_rfl) (by kernel_rfl) (e:=sub64Entry) (by kernel_rfl),run_sub64 x y c hc]
 rfl
theorem below_drewN {B:Nat} {a w:World} (h:Below B a w) (n:Nat):Below B a (w.drewN n):=⟨h.os,h.tape,h.output,h.size,h.block⟩
theorem Add_c {A A':Option Addr} {n c n' c':Nat} {a b:List Nat} {w:World} (ha:NatV 22 w A n c a) (hb:NatV 22 w A' n' c' b) (hn:n<=536870912) (hn':n'<=536870912):
 Calls Tryz.prog 28 #[.slice A n c,.slice A' n' c'] w fun e w'=>∃R m d l,e=.returned (.slice R m d)/\NatV 22 w' R m d l/\Gn.Norm l/\val l=val a+val b/\Below w.heap.size w w'/\NewA w R:=by
 obtain⟨i0,g1,g2,g3,g4⟩:=info_parts info22;rcases Nat.lt_or_ge (trimLen a) (trimLen b) with hlt|hge
 · have hA:=hb;have hB:=ha;obtain⟨N,hN⟩:=zE (trimLen b);obtain⟨M,hM⟩:=zE (trimLen a);have t1:=hA.trim;have t2:=hB.trim;rw[<-hN]at t1;rw[<-hM]at t2;have g6:M<=N:=by omega
   have g7:N<=536870912:=by have:=trimLen_le b;have:=hA.len;omega
   have e9:decide (M<N)=true:=by simp;omega
   have e0:∀W:World,(Instr.makeSlice 24 (.int .i64 ((N:Int)+1)) (.int .i64 ((N:Int)+1))).run Tryz.prog W=.ok (.slice (some ⟨W.heap.size,0,none⟩) (N+1) (N+1)) (W.alloc (.cells ((List.replicate (N+1) 0).map u64).toArray 22)):=fun W=>run_make_limbs (P:=Tryz.prog) 24 22 i0 Tryz.underlying24 g1 g2 g3 g4 (N+1) (by omega) W;obtain⟨x,hx⟩:=zE (trim b);obtain⟨y,hy⟩:=zE (trim a);have ex:val x=val b:=hx▸val_trim _;have ey:val y=val a:=hy▸val_trim _;rw[<-hx]at t1;rw[<-hy]at t2;have Hx:=Lib.hid ex;have Hy:=Lib.hid ey;have HN:=Lib.hid hN;have HM:=Lib.hid hM;have T1:=Lib.hid t1;have T2:=Lib.hid t2;have H1:=Lib.hid ha;have H2:=Lib.hid hb;have lx:=t1.lim;have ly:=t2.lim;have a8:=Lib.hid t1.len;have a2:=Lib.hid t2.len;have Lx:=Lib.hid lx;have Ly:=Lib.hid ly;clear ex ey hN hM t1 t2 ha hb hx hy lx ly hlt;go_enter Tryz.func28,Tryz.ntmps28
   go_wp2_with (first
    | (go_at_call_of 81 (Value.slice A n c);refine(zbb H1.out).mono ?_;rintro e w' ⟨rfl,rfl⟩;rw[<-HM.out])
    | (go_at_call_of 81 (Value.slice A' n' c');refine(zbb H2.out).mono ?_;rintro e w' ⟨rfl,rfl⟩;rw[<-HN.out]))
   go_loopw [6,26] (fun cy i wr=>∃(k d:Nat) (o:List Nat),k<=N/\d<=1/\i=.int .i64 (k:Int)/\cy=.int .u64 (d:Int)/\LB 22 wr w.heap.size o/\Hid (o.length=N+1/\Lim o)/\Hid (val (o.take k)+B ^ k*d=val (x.take k)+val (y.take k))/\Below w.heap.size w wr) (fun _ i _=>N-(intOf i).toNat)
   case atStart=>exact⟨0,0,List.replicate (N+1) 0,Nat.zero_le _,by omega,rfl,rfl,LB.zeros _ _ _,Lib.hid ⟨by simp,Lim.zeros _⟩,Lib.hid (by simp),(Below.refl _ _).alloc (zR _) _⟩
   case round=>
    obtain⟨k,d,o,hk,hd,rfl,rfl,a1,ho,hv,a4⟩:=hrel;have a5:k<o.length:=(by rw[ho.out.1];omega);have b9:=a1.cell k a5;have h9:=a1.frozen k;have f6:w.heap.size<wr.heap.size:=a1.lt;clear e0;by_cases h0:k<N
    · obtain⟨b1,o1,rfl,_⟩:=T1.out.row (by omega);have a6:k<x.length:=(by rw[a8.out];exact h0);have c5:=(T1.out.below a4).cell rfl k a6;obtain⟨p,hp⟩:=zE (x[k]);simp only[u64]at c5 b9;rw[<-hp]at c5;have a7:p<B:=hp▸Lx.out.get k a6;have HP:=Lib.hid hp;clear hp;by_cases h1:k<M
      · obtain⟨b2,o2,rfl,_⟩:=T2.out.row (by omega);have a3:k<y.length:=(by rw[a2.out];exact h1);have c6:=(T2.out.below a4).cell rfl k a3;obtain⟨q,hq⟩:=zE (y[k]);simp only[u64]at c6;rw[<-hq]at c6;have d0:q<B:=hq▸Ly.out.get k a3;have HQ:=Lib.hid hq;clear hq;obtain⟨s,d',d7,hs,b5,b6⟩:=add64_ex p q d a7 d0 hd;have HS:=Lib.hid hs;clear hs a7 d0;go_wp2
        go_roundw
        case rel=>
         refine⟨k+1,d',o.set k s,by omega,b6,by go_num,rfl,a1.set k s,Lib.hid ⟨by simp[ho.out.1],ho.out.2.set k s b5⟩,Lib.hid ?_,a4.setCell (p:=⟨w.heap.size,k,none⟩) (zR _) _⟩;rw[zai o k s a5,zag x k a6,zag y k a3,<-HP.out,<-HQ.out,Nat.pow_succ];have h3:=hv.out;have h4:=congrArg (B ^ k * ·) HS.out;simp only[Nat.mul_add]at h4;rw[<-Nat.mul_assoc]at h4;omega
        case measure=>simp[intOf];omega
      · have a3:y.length<=k:=(by rw[a2.out];omega);obtain⟨s,d',d7,hs,b5,b6⟩:=add64_ex p 0 d a7 B_pos hd;rw[show((0:Nat):Int)=0 from rfl]at d7;have HS:=Lib.hid hs;clear hs a7;go_wp2
        go_roundw
        case rel=>
         refine⟨k+1,d',o.set k s,by omega,b6,by go_num,rfl,a1.set k s,Lib.hid ⟨by simp[ho.out.1],ho.out.2.set k s b5⟩,Lib.hid ?_,a4.setCell (p:=⟨w.heap.size,k,none⟩) (zR _) _⟩;rw[zai o k s a5,zag x k a6,zaf (by omega:y.length<=k+1),<-HP.out,Nat.pow_succ];have h3:=hv.out;rw[zaf a3]at h3;have h4:=congrArg (B ^ k * ·) HS.out;simp only[Nat.mul_add,Nat.add_zero]at h4;rw[<-Nat.mul_assoc]at h4;omega
        case measure=>simp[intOf];omega
    · obtain rfl:k=N:=(by omega);simp only[u64]at b9;have a9:=a1.set k d;have d6:d<B:=(by unfold B;omega);have nv:NatV 22 (wr.setCell ⟨w.heap.size,k,none⟩ (u64 d)) (some ⟨w.heap.size,0,none⟩) (k+1) (k+1) (o.set k d):=
       a9.natV (ho.out.2.set k d d6) (by simp[ho.out.1]) (zR _) (by simp[maxLen];omega)
      have NV:=Lib.hid nv;clear nv d6 a9
      go_wp2_with (go_at_call 81;refine(zbb NV.out).mono ?_;rintro e w' ⟨rfl,rfl⟩)
      go_ret
      refine⟨_,_,_,_,rfl,NV.out.trim,norm_trim _,?_,a4.setCell (p:=⟨w.heap.size,k,none⟩) (zR _) _,NewA.mk (zR _)⟩;rw[val_trim,<-zaf (show(o.set k d).length<=k+1 by simp[ho.out.1]),zai o k d a5,hv.out,zaf (by rw[a8.out];omega),zaf (by rw[a2.out];omega),Hx.out,Hy.out,Nat.add_comm]
 · have hA:=ha;have hB:=hb;obtain⟨N,hN⟩:=zE (trimLen a);obtain⟨M,hM⟩:=zE (trimLen b);have t1:=hA.trim;have t2:=hB.trim;rw[<-hN]at t1;rw[<-hM]at t2;have g6:M<=N:=by omega
   have g7:N<=536870912:=by have:=trimLen_le a;have:=hA.len;omega
   have e9:decide (N<M)=false:=by simp;omega
   have e0:∀W:World,(Instr.makeSlice 24 (.int .i64 ((N:Int)+1)) (.int .i64 ((N:Int)+1))).run Tryz.prog W=.ok (.slice (some ⟨W.heap.size,0,none⟩) (N+1) (N+1)) (W.alloc (.cells ((List.replicate (N+1) 0).map u64).toArray 22)):=fun W=>run_make_limbs (P:=Tryz.prog) 24 22 i0 Tryz.underlying24 g1 g2 g3 g4 (N+1) (by omega) W;obtain⟨x,hx⟩:=zE (trim a);obtain⟨y,hy⟩:=zE (trim b);have ex:val x=val a:=hx▸val_trim _;have ey:val y=val b:=hy▸val_trim _;rw[<-hx]at t1;rw[<-hy]at t2;have Hx:=Lib.hid ex;have Hy:=Lib.hid ey;have HN:=Lib.hid hN;have HM:=Lib.hid hM;have T1:=Lib.hid t1;have T2:=Lib.hid t2;have H1:=Lib.hid ha;have H2:=Lib.hid hb;have lx:=t1.lim;have ly:=t2.lim;have a8:=Lib.hid t1.len;have a2:=Lib.hid t2.len;have Lx:=Lib.hid lx;have Ly:=Lib.hid ly;clear ex ey hN hM t1 t2 ha hb hx hy lx ly hge;go_enter Tryz.func28,Tryz.ntmps28
   go_wp2_with (first
    | (go_at_call_of 81 (Value.slice A n c);refine(zbb H1.out).mono ?_;rintro e w' ⟨rfl,rfl⟩;rw[<-HN.out])
    | (go_at_call_of 81 (Value.slice A' n' c');refine(zbb H2.out).mono ?_;rintro e w' ⟨rfl,rfl⟩;rw[<-HM.out]))
   go_loopw [6,26] (fun cy i wr=>∃(k d:Nat) (o:List Nat),k<=N/\d<=1/\i=.int .i64 (k:Int)/\cy=.int .u64 (d:Int)/\LB 22 wr w.heap.size o/\Hid (o.length=N+1/\Lim o)/\Hid (val (o.take k)+B ^ k*d=val (x.take k)+val (y.take k))/\Below w.heap.size w wr) (fun _ i _=>N-(intOf i).toNat)
   case atStart=>exact⟨0,0,List.replicate (N+1) 0,Nat.zero_le _,by omega,rfl,rfl,LB.zeros _ _ _,Lib.hid ⟨by simp,Lim.zeros _⟩,Lib.hid (by simp),(Below.refl _ _).alloc (zR _) _⟩
   case round=>
    obtain⟨k,d,o,hk,hd,rfl,rfl,a1,ho,hv,a4⟩:=hrel;have a5:k<o.length:=(by rw[ho.out.1];omega);have b9:=a1.cell k a5;have h9:=a1.frozen k;have f6:w.heap.size<wr.heap.size:=a1.lt;clear e0;by_cases h0:k<N
    · obtain⟨b1,o1,rfl,_⟩:=T1.out.row (by omega);have a6:k<x.length:=(by rw[a8.out];exact h0);have c5:=(T1.out.below a4).cell rfl k a6;obtain⟨p,hp⟩:=zE (x[k]);simp only[u64]at c5 b9;rw[<-hp]at c5;have a7:p<B:=hp▸Lx.out.get k a6;have HP:=Lib.hid hp;clear hp;by_cases h1:k<M
      · obtain⟨b2,o2,rfl,_⟩:=T2.out.row (by omega);have a3:k<y.length:=(by rw[a2.out];exact h1);have c6:=(T2.out.below a4).cell rfl k a3;obtain⟨q,hq⟩:=zE (y[k]);simp only[u64]at c6;rw[<-hq]at c6;have d0:q<B:=hq▸Ly.out.get k a3;have HQ:=Lib.hid hq;clear hq;obtain⟨s,d',d7,hs,b5,b6⟩:=add64_ex p q d a7 d0 hd;have HS:=Lib.hid hs;clear hs a7 d0;go_wp2
        go_roundw
        case rel=>
         refine⟨k+1,d',o.set k s,by omega,b6,by go_num,rfl,a1.set k s,Lib.hid ⟨by simp[ho.out.1],ho.out.2.set k s b5⟩,Lib.hid ?_,a4.setCell (p:=⟨w.heap.size,k,none⟩) (zR _) _⟩;rw[zai o k s a5,zag x k a6,zag y k a3,<-HP.out,<-HQ.out,Nat.pow_succ];have h3:=hv.out;have h4:=congrArg (B ^ k * ·) HS.out;simp only[Nat.mul_add]at h4;rw[<-Nat.mul_assoc]at h4;omega
        case measure=>simp[intOf];omega
      · have a3:y.length<=k:=(by rw[a2.out];omega);obtain⟨s,d',d7,hs,b5,b6⟩:=add64_ex p 0 d a7 B_pos hd;rw[show((0:Nat):Int)=0 from rfl]at d7;have HS:=Lib.hid hs;clear hs a7;go_wp2
        go_roundw
        case rel=>
         refine⟨k+1,d',o.set k s,by omega,b6,by go_num,rfl,a1.set k s,Lib.hid ⟨by simp[ho.out.1],ho.out.2.set k s b5⟩,Lib.hid ?_,a4.setCell (p:=⟨w.heap.size,k,none⟩) (zR _) _⟩;rw[zai o k s a5,zag x k a6,zaf (by omega:y.length<=k+1),<-HP.out,Nat.pow_succ];have h3:=hv.out;rw[zaf a3]at h3;have h4:=congrArg (B ^ k * ·) HS.out;simp only[Nat.mul_add,Nat.add_zero]at h4;rw[<-Nat.mul_assoc]at h4;omega
        case measure=>simp[intOf];omega
    · obtain rfl:k=N:=(by omega);simp only[u64]at b9;have a9:=a1.set k d;have d6:d<B:=(by unfold B;omega);have nv:NatV 22 (wr.setCell ⟨w.heap.size,k,none⟩ (u64 d)) (some ⟨w.heap.size,0,none⟩) (k+1) (k+1) (o.set k d):=
       a9.natV (ho.out.2.set k d d6) (by simp[ho.out.1]) (zR _) (by simp[maxLen];omega)
      have NV:=Lib.hid nv;clear nv d6 a9
      go_wp2_with (go_at_call 81;refine(zbb NV.out).mono ?_;rintro e w' ⟨rfl,rfl⟩)
      go_ret
      refine⟨_,_,_,_,rfl,NV.out.trim,norm_trim _,?_,a4.setCell (p:=⟨w.heap.size,k,none⟩) (zR _) _,NewA.mk (zR _)⟩;rw[val_trim,<-zaf (show(o.set k d).length<=k+1 by simp[ho.out.1]),zai o k d a5,hv.out,zaf (by rw[a8.out];omega),zaf (by rw[a2.out];omega),Hx.out,Hy.out]
theorem mul64_ex (x y:Nat) (hx:x<B) (hy:y<B):∃hi lo:Nat,
 (∀W,Calls Tryz.prog 83 #[.int .u64 (x:Int),.int .u64 (y:Int)] W fun e w'=>e=.returned (.tuple #[.int .u64 (hi:Int),.int .u64 (lo:Int)])/\W=w')/\lo+B*hi=x*y/\lo<B/\hi<B:=by
 refine⟨x*y / 18446744073709551616,x*y % 18446744073709551616,fun W=>(Tryz.bits_Mul64 x y hx hy W).mono fun e w' h=>⟨h.1,h.2.symm⟩,?_,?_,?_⟩
 · exact Nat.mod_add_div (x*y) B
 · exact Nat.mod_lt _ B_pos
 · refine Nat.div_lt_of_lt_mul ?_
   rcases Nat.eq_zero_or_pos y with h0|h0
   · rw[h0,Nat.mul_zero];decide
   · exact zqL (Nat.mul_lt_mul_of_pos_right hx h0) (Nat.mul_le_mul_left B (Nat.le_of_lt hy))
theorem add64_z (x y:Nat) (hx:x<B) (hy:y<B):∃s d:Nat,
 (∀W,(callFunc 82 #[.int .u64 (x:Int),.int .u64 (y:Int),.int .u64 0]).run Tryz.prog W=.ok (.value (.tuple #[.int .u64 (s:Int),.int .u64 (d:Int)])) W)/\s+B*d=x+y/\s<B/\d<=1:=add64_ex x y 0 hx hy (by omega)
theorem mul_step_fits {p q r c:Nat} (hp:p<B) (hq:q<B) (hr:r<B) (hc:c<B):p*q+r+c<B*B:=by
 have h1:p*q<=(B-1)*(B-1):=Nat.mul_le_mul (by omega) (by omega);have h2:(B-1)*(B-1)+(B-1)+(B-1)<B*B:=by decide
 omega
theorem Mul_c {A A':Option Addr} {n c n' c':Nat} {a b:List Nat} {w:World} (ha:NatV 22 w A n c a) (hb:NatV 22 w A' n' c' b) (hn:n<=268435456) (hn':n'<=268435456):
 Calls Tryz.prog 29 #[.slice A n c,.slice A' n' c'] w fun e w'=>∃R m d l,e=.returned (.slice R m d)/\NatV 22 w' R m d l/\Gn.Norm l/\val l=val a*val b/\Below w.heap.size w w'/\NewA w R:=by
 obtain⟨i0,f7,f8,f9,g0⟩:=info_parts info22;obtain⟨N,hN⟩:=zE (trimLen a);obtain⟨M,hM⟩:=zE (trimLen b);have t1:=ha.trim;have t2:=hb.trim;rw[<-hN]at t1;rw[<-hM]at t2;have i7:N<=268435456:=by have:=trimLen_le a;have:=ha.len;omega
 have i9:M<=268435456:=by have:=trimLen_le b;have:=hb.len;omega
 have e9:∀W:World,(Instr.makeSlice 24 (.int .i64 ((N:Int)+(M:Int))) (.int .i64 ((N:Int)+(M:Int)))).run Tryz.prog W=.ok (.slice (some ⟨W.heap.size,0,none⟩) (N+M) (N+M)) (W.alloc (.cells ((List.replicate (N+M) 0).map u64).toArray 22)):=fun W=>by
  have h:=run_make_limbs (P:=Tryz.prog) 24 22 i0 Tryz.underlying24 f7 f8 f9 g0 (N+M) (by omega) W
  rwa [Int.natCast_add]at h
 obtain⟨x,hx⟩:=zE (trim a);obtain⟨y,hy⟩:=zE (trim b);rw[<-hx]at t1;rw[<-hy]at t2;have Hx:=Lib.hid (show val x=val a from hx▸val_trim _);have Hy:=Lib.hid (show val y=val b from hy▸val_trim _);have HN:=Lib.hid hN;have HM:=Lib.hid hM;have T1:=Lib.hid t1;have T2:=Lib.hid t2;have H1:=Lib.hid ha;have H2:=Lib.hid hb;have a8:=Lib.hid t1.len;have a9:=Lib.hid t2.len;have Lx:=Lib.hid t1.lim;have Ly:=Lib.hid t2.lim;clear hN hM t1 t2 ha hb hx hy;go_enter Tryz.func29,Tryz.ntmps29
 go_wp2_with (first
  | (go_at_call_of 81 (Value.slice A n c);refine(zbb H1.out).mono ?_;rintro e w' ⟨rfl,rfl⟩;rw[<-HN.out])
  | (go_at_call_of 81 (Value.slice A' n' c');refine(zbb H2.out).mono ?_;rintro e w' ⟨rfl,rfl⟩;rw[<-HM.out]))
 clear e9
 go_loopw [24] (fun i wr=>∃(k:Nat) (o:List Nat),k<=N/\i=.int .i64 (k:Int)/\LB 22 wr w.heap.size o/\Hid (o.length=N+M/\Lim o/\∀j,k+M<=j->∀h:j<o.length,o[j]=0)/\Hid (val o=val (x.take k)*val y)/\Below w.heap.size w wr) (fun i _=>N-(intOf i).toNat)
 case atStart=>exact⟨0,List.replicate (N+M) 0,Nat.zero_le _,rfl,LB.zeros _ _ _,Lib.hid ⟨by simp,Lim.zeros _,by simp⟩,Lib.hid (by simp[val_zeros]),(Below.refl _ _).alloc (zR _) _⟩
 case round=>
  obtain⟨k,o,hk,rfl,e1,ho,hv,e2⟩:=hrel;by_cases h0:k<N
  · obtain⟨b1,o1,rfl,_⟩:=T1.out.row (by omega);have b7:k<x.length:=(by rw[a8.out];exact h0);obtain⟨p,hp⟩:=zE (x[k]);have d6:=Lib.hid (show p<B from hp▸Lx.out.get k b7);have HP:=Lib.hid hp;clear hp;go_wp2
    go_loopw [7,29] (fun cy i wr2=>∃(j d:Nat) (o2:List Nat),j<=M/\i=.int .i64 (j:Int)/\cy=.int .u64 (d:Int)/\LB 22 wr2 w.heap.size o2/\Hid (d<B/\o2.length=N+M/\Lim o2/\∀j,k+M<=j->∀h:j<o2.length,o2[j]=0)/\Hid (val o2+B ^ (k+j)*d=val (x.take k)*val y+B ^ k*(p*val (y.take j)))/\Below w.heap.size w wr2) (fun _ i _=>M-(intOf i).toNat)
    case atStart=>exact⟨0,0,o,Nat.zero_le _,rfl,rfl,e1,Lib.hid ⟨B_pos,ho.out⟩,Lib.hid (by simp[hv.out]),e2⟩
    case round=>
     obtain⟨j,d,o2,hj,rfl,rfl,a2,a1,e3,a5⟩:=hrel;by_cases h1:j<M
     · obtain⟨b2,i5,rfl,_⟩:=T2.out.row (by omega);have b8:j<y.length:=(by rw[a9.out];exact h1);have d7:=(T1.out.below a5).cell rfl k b7;have d8:=(T2.out.below a5).cell rfl j b8;obtain⟨q,hq⟩:=zE (y[j]);have a3:k+j<o2.length:=(by rw[a1.out.2.1];omega);have a6:=a2.cell (k+j) a3;obtain⟨r,hr⟩:=zE (o2[k+j]);simp only[Gn.u64]at d7 d8 a6;rw[<-HP.out]at d7;rw[<-hq]at d8;rw[<-hr]at a6;have b9:q<B:=hq▸Ly.out.get j b8;have c5:r<B:=hr▸a1.out.2.2.1.get _ a3;have d9:=mul_step_fits d6.out b9 c5 a1.out.1;obtain⟨hi,lo,e4,g6,b0,e5⟩:=mul64_ex p q d6.out b9;obtain⟨s1,c1,k7,g7,b5,k8⟩:=add64_z lo r b0 c5;obtain⟨s2,c2,i6,g8,b6,k9⟩:=add64_z s1 d b5 a1.out.1;have tot:s2+B*(hi+c1+c2)=p*q+r+d:=(by rw[Nat.mul_add,Nat.mul_add];omega);have a7:hi+c1+c2<B:=by
        rcases Nat.lt_or_ge (hi+c1+c2) B with h|h
        · exact h
        · exfalso
          have:=Nat.mul_le_mul_left B h;omega
       have j8:hi+c1<=18446744073709551615:=(by unfold B at a7;omega);have j9:hi+c1+c2<=18446744073709551615:=(by unfold B at a7;omega);have f0:=Lib.hid tot;have f2:=Lib.hid a7;have HQ:=Lib.hid hq;have HR:=Lib.hid hr;have f3:=Lib.hid b6;have f4:=Lib.hid e4;have f5:=a2.frozen (k+j);have f6:((k:Int)+(j:Int)).toNat=k+j:=(by omega);have e0:w.heap.size<wr.heap.size:=a2.lt;clear tot a7 hq hr b6 e4 g6 g7 g8 b5 b0 e5 d9 b9 c5
       go_wp2_with fail
       go_quiet ((go_at_call 83;exact quiet_l (f4.out _)))
       go_wp2
       go_roundw
       case rel=>
        refine⟨j+1,hi+c1+c2,o2.set (k+j) s2,by omega,by go_num,by go_num,a2.set (k+j) s2,Lib.hid ⟨f2.out,by simp[a1.out.2.1],a1.out.2.2.1.set _ _ f3.out,fun t ht h=>?_⟩,Lib.hid ?_,(below_drewN a5 _).setCell (p:=⟨w.heap.size,k+j,none⟩) (zR _) _⟩
        · rw[List.getElem_set_ne (by omega)];exact a1.out.2.2.2 t ht (by simpa using h)
        · have h3:=e3.out;have h4:=val_set o2 (k+j) s2 a3;rw[<-HR.out]at h4;have h5:=congrArg (B ^ (k+j) * ·) f0.out;simp only[Nat.mul_add]at h5;rw[zag y j b8,<-HQ.out,<-Nat.add_assoc,Nat.pow_succ,Nat.mul_add p,Nat.mul_add (B ^ k),Nat.mul_assoc (B ^ (k+j)) B];have h6:B ^ k*(p*(B ^ j*q))=B ^ (k+j)*(p*q):=by
           rw[Nat.pow_add,Nat.mul_left_comm p,Nat.mul_assoc]
          rw[h6];simp only[Nat.mul_add];omega
       case measure=>simp[intOf];omega
     · obtain rfl:j=M:=(by omega);have a3:k+j<o2.length:=(by rw[a1.out.2.1];omega);have a6:=a2.cell (k+j) a3;have f5:=a2.frozen (k+j);have f6:((k:Int)+(j:Int)).toNat=k+j:=(by omega);have e0:w.heap.size<wr.heap.size:=a2.lt;have hz:o2[k+j]=0:=a1.out.2.2.2 _ (zR _) a3;have Z:=Lib.hid hz;clear hz;simp only[Gn.u64]at a6;go_wp2
       go_roundw
       case rel=>
        refine⟨k+1,o2.set (k+j) d,by omega,by go_num,a2.set (k+j) d,Lib.hid ⟨by simp[a1.out.2.1],a1.out.2.2.1.set _ _ a1.out.1,fun t ht h=>?_⟩,Lib.hid ?_,a5.setCell (p:=⟨w.heap.size,k+j,none⟩) (zR _) _⟩
        · rw[List.getElem_set_ne (by omega)];exact a1.out.2.2.2 t (by omega) (by simpa using h)
        · have h3:=e3.out;have h4:=val_set o2 (k+j) d a3;rw[Z.out,Nat.mul_zero,Nat.add_zero]at h4;rw[h4,h3,zag x k b7,<-HP.out,Nat.add_mul,zaf (l:=y) (by rw[a9.out];omega),Nat.mul_assoc]
       case measure=>simp[intOf];omega
  · obtain rfl:k=N:=(by omega);have nv:NatV 22 wr (some ⟨w.heap.size,0,none⟩) (k+M) (k+M) o:=e1.natV ho.out.2.1 ho.out.1 (zR _) (by simp[maxLen];omega);have NV:=Lib.hid nv;clear nv
    go_wp2_with (go_at_call 81;refine(zbb NV.out).mono ?_;rintro e w' ⟨rfl,rfl⟩)
    go_ret
    refine⟨_,_,_,_,rfl,NV.out.trim,norm_trim _,?_,e2,NewA.mk (zR _)⟩;rw[val_trim,hv.out,zaf (by rw[a8.out];omega),Hx.out,Hy.out]
theorem less_nil {A:Option Addr} {c:Nat} {A':Option Addr} {n' c':Nat} {w:World}:Calls Tryz.prog 207 #[.slice A 0 c,.slice A' n' c'] w fun e w'=>e=.returned (.tuple #[])/\w=w':=by
 go_enter Tryz.func207,Tryz.ntmps207
 go_wp2
 go_loop [9] (fun i=>i=.int .i64 0) (fun _=>0)
 case atStart=>rfl
 case round=>
  subst hrel;go_wp2
  go_end0
  exact⟨rfl,rfl⟩
theorem less_c {g n c:Nat} {A':Option Addr} {n' c':Nat} {a y:List Nat} {w:World} (ha:LP 22 w g a) (hal:Lim a) (hn:a.length=n) (hb:NatV 22 w A' n' c' y) (hnn:n'<=n) (hn1:n<=1073741824) (hv:val y<=val a)
 (hne:∀b off,0<n'->A'=some ⟨b,off,none⟩->b≠g):
 Calls Tryz.prog 207 #[.slice (some ⟨g,0,none⟩) n c,.slice A' n' c'] w fun e w'=>e=.returned (.tuple #[])/\(∃o,LP 22 w' g o/\o.length=n/\Lim o/\val o+val y=val a)/\w.grownBy w' (some g):=by
 have b6:∀w',w.grownBy w' (some g)->NatV 22 w' A' n' c' y:=fun w' h=>hb.grown h fun b off h0 e h1=>hne b off h0 e (by simpa using h1);have Ha:=Lib.hid ha;have d7:=Lib.hid hal;have Hn:=Lib.hid hn;have Hb:=Lib.hid b6;have Hv:=Lib.hid hv;have a4:=Lib.hid hb.len;have Ly:=Lib.hid hb.lim;clear ha hal hn hb hv hne b6;go_enter Tryz.func207,Tryz.ntmps207;go_wp2
 go_loopw [4,9] (fun bo i wr=>∃(k d:Nat) (o:List Nat),k<=n/\d<=1/\i=.int .i64 (k:Int)/\bo=.int .u64 (d:Int)/\LP 22 wr g o/\Hid (o.length=n/\Lim o/\∀j,k<=j->∀(h:j<o.length) (h':j<a.length),o[j]=a[j])/\Hid (val (o.take k)+val (y.take k)=val (a.take k)+B ^ k*d)/\Hid (w.grownBy wr (some g))) (fun _ i _=>n-(intOf i).toNat)
 case atStart=>exact⟨0,0,a,Nat.zero_le _,by omega,rfl,rfl,Ha.out,Lib.hid ⟨Hn.out,d7.out,fun _ _ _ _=>rfl⟩,Lib.hid (by simp),Lib.hid (World.grownBy.refl _ _)⟩
 case round=>
  obtain⟨k,d,o,hk,hd,rfl,rfl,a3,ho,hv,hg⟩:=hrel;by_cases h0:k<n
  · have a1:k<o.length:=(by rw[ho.out.1];exact h0);have a8:k<a.length:=(by rw[Hn.out];exact h0);have b7:=a3.cell k a1;have e8:=a3.frozen k;have e2:g<wr.heap.size:=a3.lt;obtain⟨p,hp⟩:=zE (o[k]);have a7:p<B:=hp▸ho.out.2.1.get k a1;simp only[Gn.u64]at b7;rw[<-hp]at b7;have HP:=Lib.hid (show p=a[k] from hp.trans (ho.out.2.2 k (zR _) a1 a8));clear hp;by_cases h1:k<n'
    · have a9:=Hb.out wr hg.out;obtain⟨b2,o2,rfl,_⟩:=a9.row (by omega);have a5:k<y.length:=(by rw[a4.out];exact h1);have b8:=a9.cell rfl k a5;obtain⟨q,hq⟩:=zE (y[k]);simp only[Gn.u64]at b8;rw[<-hq]at b8;have b9:q<B:=hq▸Ly.out.get k a5;have HQ:=Lib.hid hq;clear hq;obtain⟨s,d',c6,hs,a6,b5⟩:=sub64_ex p q d a7 b9 hd;have HS:=Lib.hid hs;have SB:=Lib.hid a6;clear hs a7 b9 a6 a9;go_wp2
      go_roundw
      case rel=>
       refine⟨k+1,d',o.set k s,by omega,b5,by go_num,rfl,a3.set k s a1,Lib.hid ⟨by simp[ho.out.1],ho.out.2.1.set k s SB.out,fun j hj h h'=>?_⟩,Lib.hid ?_,Lib.hid (zao hg.out rfl _)⟩
       · rw[List.getElem_set_ne (by omega)];exact ho.out.2.2 j (by omega) (by simpa using h) h'
       · rw[zai o k s a1,zag a k a8,zag y k a5,<-HP.out,<-HQ.out,Nat.pow_succ];have h3:=hv.out;have h4:=congrArg (B ^ k * ·) HS.out;simp only[Nat.mul_add]at h4;rw[<-Nat.mul_assoc]at h4;omega
      case measure=>simp[intOf];omega
    · have a5:y.length<=k:=(by rw[a4.out];omega);obtain⟨s,d',c6,hs,a6,b5⟩:=sub64_ex p 0 d a7 B_pos hd;rw[show((0:Nat):Int)=0 from rfl]at c6;have HS:=Lib.hid hs;have SB:=Lib.hid a6;clear hs a7 a6;go_wp2
      go_roundw
      case rel=>
       refine⟨k+1,d',o.set k s,by omega,b5,by go_num,rfl,a3.set k s a1,Lib.hid ⟨by simp[ho.out.1],ho.out.2.1.set k s SB.out,fun j hj h h'=>?_⟩,Lib.hid ?_,Lib.hid (zao hg.out rfl _)⟩
       · rw[List.getElem_set_ne (by omega)];exact ho.out.2.2 j (by omega) (by simpa using h) h'
       · rw[zai o k s a1,zag a k a8,zaf (by omega:y.length<=k+1),<-HP.out,Nat.pow_succ];have h3:=hv.out;rw[zaf (l:=y) a5]at h3;have h4:=congrArg (B ^ k * ·) HS.out;simp only[Nat.mul_add,Nat.add_zero]at h4;rw[<-Nat.mul_assoc]at h4;omega
      case measure=>simp[intOf];omega
  · obtain rfl:k=n:=(by omega);go_wp2
    go_end0
    refine⟨rfl,⟨o,a3,ho.out.1,ho.out.2.1,?_⟩,hg.out⟩;have h3:=hv.out;rw[zaf (l:=o) (by rw[ho.out.1];omega),zaf (l:=y) (by rw[a4.out];omega),zaf (l:=a) (by rw[Hn.out];omega)]at h3;have h4:=val_lt ho.out.2.1;rw[ho.out.1]at h4;have h5:=Hv.out;rcases Nat.eq_zero_or_pos d with hd0|hd0
    · rw[hd0,Nat.mul_zero]at h3;omega
    · obtain rfl:d=1:=(by omega);omega
theorem Sub_c {A A':Option Addr} {n c n' c':Nat} {a b:List Nat} {w:World} (ha:NatV 22 w A n c a) (hb:NatV 22 w A' n' c' b) (hn:n<=1073741824) (hv:val b<=val a):
 Calls Tryz.prog 141 #[.slice A n c,.slice A' n' c'] w fun e w'=>∃R m d l,e=.returned (.tuple #[.slice R m d,.int .i64 0])/\NatV 22 w' R m d l/\Gn.Norm l/\val l+val b=val a/\Below w.heap.size w w'/\NewA w R:=by
 obtain⟨z,hz⟩:=zE (cmpI (val a) (val b));have e2:decide (z<0)=false:=by
  rw[hz];rcases Nat.lt_or_ge (val b) (val a) with h|h
  · rw[cmpI_gt (by omega)];rfl
  · rw[cmpI_eq (by omega) (by omega)];rfl
 have C:=Lib.hid (show Calls Tryz.prog 31 #[.slice A n c,.slice A' n' c'] w fun e w'=>e=.returned (.int .i64 z)/\∃q,w'=w.drewN q from hz▸Cmp_c ha hb);clear hz;have a3:trimLen b<=trimLen a:=by
  rcases Nat.lt_or_ge (trimLen a) (trimLen b) with h|h
  · have:=val_lt_len (lim_trim ha.lim) (norm_trim b) (by rw[zau,zau];exact h);rw[val_trim,val_trim]at this;omega
  · exact h
 have b9:trimLen a<=1073741824:=by have:=trimLen_le a;have:=ha.len;omega
 have Ha:=Lib.hid ha;have Hb:=Lib.hid hb;have Hv:=Lib.hid hv;clear ha hb hv;go_enter Tryz.func141,Tryz.ntmps141
 go_wp2_with (first
  | (go_at_call 31;refine C.out.mono ?_;rintro e w' ⟨rfl,q,rfl⟩)
  | (go_at_call 147;refine(Norm_c (Ha.out.drewN q) hn).mono ?_;rintro e w1 ⟨A1,c1,rfl,a1,a2⟩)
  | (go_at_call_of 81 (Value.slice A' n' c');refine(zbb ((Hb.out.drewN q).below a2)).mono ?_;rintro e w2 ⟨rfl,rfl⟩))
 rcases Nat.eq_zero_or_pos (trimLen a) with h0|h0
 · have c5:trimLen b=0:=by omega
   rw[h0];refine less_nil.mono ?_
   rintro e w2 ⟨rfl,rfl⟩;have nv:NatV 22 w1 A1 0 c1 []:=⟨rfl,Nat.zero_le _,by obtain⟨_,h⟩:=a1;rcases h with⟨e,_⟩|⟨_,_,_,e,_,_,_,hm,_⟩<;>(injection e with _ _ e3;subst e3;first|exact Nat.zero_le _|exact hm),Lim.nil,fun h=>absurd h (by omega)⟩
   have NV:=Lib.hid nv;clear nv c5 a3;have H0:=Lib.hid h0;clear h0
   go_wp2_with (go_at_call 81;refine(zbb NV.out).mono ?_;rintro e w3 ⟨rfl,rfl⟩)
   go_ret2
   refine⟨_,_,_,_,rfl,NV.out.trim,norm_trim _,?_,?_,own_new a1⟩
   · have ea:trim a=[]:=List.eq_nil_of_length_eq_zero (by rw[zau];exact H0.out);have e1:=val_trim a;rw[ea]at e1;have:=Hv.out;rw[show trim ([]:List Nat)=[] from rfl];simp only[val_nil]at e1 ⊢;omega
   · exact(below_drewN (Below.refl w.heap.size w) q).trans a2
 · obtain⟨g,rfl,hg,b5,d5,d6⟩:=LP.of_own a1 h0;have a8:=((Hb.out.drewN q).below a2).trim;have a9:∀b2 off,0<trimLen b->A'=some ⟨b2,off,none⟩->b2≠g:=by
    intro b2 off h1 h2 h3;obtain⟨b3,o3,e,hr⟩:=Hb.out.row (by have:=trimLen_le b;have:=Hb.out.len;omega);rw[h2]at e
    injection e with e
    injection e with e4 e5
    have:=hr.lt;have e8:w.heap.size<=g:=hg;omega
   refine(less_c b5 (lim_trim Ha.out.lim) (zau a) a8 a3 b9 (by rw[val_trim,val_trim];exact Hv.out) a9).mono ?_
   rintro e w2 ⟨rfl,⟨o,a4,hol,a5,b6⟩,b7⟩;have nv:NatV 22 w2 (some ⟨g,0,none⟩) (trimLen a) c1 o:=a4.natV a5 hol d5 d6;have NV:=Lib.hid nv;have HO:=Lib.hid b6;have HG:=Lib.hid b7;have HB:=Lib.hid a2;have b0:=Lib.hid hg;clear nv b6 b7 a2 hol a5 b5 a4 a8 a9 a1 hg
   go_wp2_with (go_at_call 81;refine(zbb NV.out).mono ?_;rintro e w3 ⟨rfl,rfl⟩)
   go_ret2
   refine⟨_,_,_,_,rfl,NV.out.trim,norm_trim _,?_,?_,NewA.mk b0.out⟩
   · have:=HO.out;rw[val_trim,val_trim]at this;rw[val_trim];exact this
   · exact((below_drewN (Below.refl w.heap.size w) q).trans HB.out).grown HG.out HB.out.size (fun k e=>by injection e with e;subst e;exact b0.out)
theorem ret_two {a b c d:Int} (h:a=c) (h':b=d):Ending.returned (.tuple #[.int .u64 a,.int .u64 b])=Ending.returned (.tuple #[.int .u64 c,.int .u64 d]):=by rw[h,h']
theorem Div64_low (lo y z t:Nat) (hlo:lo<B) (hy:0<y) (hz:z=lo / y) (ht:t=lo % y) (w:World):
 Calls Tryz.prog 212 #[.int .u64 0,.int .u64 (lo:Int),.int .u64 (y:Int)] w fun e w'=>e=.returned (.tuple #[.int .u64 (z:Int),.int .u64 (t:Int)])/\∃q,w'=w.drewN q:=by
 have h1:((y:Int) == 0)=false:=by rw[beq_eq_false_iff_ne];omega
 have h2:(y:Int)≠0:=by omega
 have h3:decide (y<=0)=false:=by simp;omega
 have e1:(lo:Int) / (y:Int)=(z:Int):=by rw[hz];rfl
 have e2:(lo:Int) % (y:Int)=(t:Int):=by rw[ht];rfl
 have a1:z<=18446744073709551615:=by have:=Nat.div_le_self lo y;unfold B at *;omega
 have e3:IntKind.u64.wrap (z:Int)=(z:Int):=by rw[IntKind.wrap_u64];omega
 clear hz ht a1;go_enter Tryz.func212,Tryz.ntmps212;go_wp2
 go_quiet (fail)
 go_wp2
 go_ret2
 exact⟨ret_two rfl e2,_,rfl⟩
def H32:Nat:=4294967296
def HalfInv (U y1 y0 n q r:Nat):Prop:=q*y1+r=U/\(U*H32+n) / (y1*H32+y0)<=q/\q<=H32+1/\r<H32
theorem zbl {U y1 y0 n q r:Nat} (h:HalfInv U y1 y0 n q r) (hU:U<y1*H32+y0) (hn:n<H32) (hc:H32<=q\/H32*r+n<q*y0):
 1<=q/\(q-1)*y1+(r+y1)=U/\(U*H32+n) / (y1*H32+y0)<=q-1/\q-1<=H32:=by
 obtain⟨h1,h2,h3,h4⟩:=h;have hy:0<y1*H32+y0:=by omega
 have a1:(U*H32+n) / (y1*H32+y0)<q:=by
  rcases hc with hc|hc
  · refine zqL (Nat.div_lt_of_lt_mul ?_) hc;have:(U+1)*H32<=(y1*H32+y0)*H32:=Nat.mul_le_mul_right _ hU;rw[Nat.add_mul]at this;omega
  · rw[Nat.div_lt_iff_lt_mul hy];exact half_over h1 hc
 obtain⟨k,rfl⟩:∃k,q=k+1:=⟨q-1,by have:=Nat.lt_of_le_of_lt (Nat.zero_le _) a1;omega⟩
 rw[Nat.add_mul]at h1;refine⟨by omega,?_,Nat.le_of_lt_succ a1,by omega⟩;rw[Nat.add_sub_cancel];omega
theorem zba {U y1 y0 n q r:Nat} (h1:q*y1+r=U) (h2:(U*H32+n) / (y1*H32+y0)<=q) (hy:0<y1) (hc:q*y0<=H32*r+n):(U*H32+n) / (y1*H32+y0)=q:=by
 refine Nat.le_antisymm h2 ?_
 rw[Nat.le_div_iff_mul_le (by have:=Nat.mul_pos hy (show 0<H32 by decide);omega)];exact half_fit h1 hc
theorem half_brk {q y0 r n:Nat} (hq:q<=H32) (hy0:y0<H32) (hr:H32<=r):q*y0<=H32*r+n:=by
 have h1:q*y0<=H32*H32:=Nat.mul_le_mul hq (Nat.le_of_lt hy0);have h2:H32*H32<=H32*r:=Nat.mul_le_mul_left _ hr;omega
theorem half_start {U y1 y0 n:Nat} (hy1:2147483648<=y1) (hy1':y1<H32) (hy0:y0<H32) (hU:U<y1*H32+y0) (hn:n<H32):HalfInv U y1 y0 n (U / y1) (U-U / y1*y1):=by
 have a1:0<y1:=by omega
 have hd:=Nat.div_mul_le_self U y1;have hl:=Nat.lt_mul_div_succ U a1;rw[Nat.mul_add,Nat.mul_one,Nat.mul_comm]at hl;refine⟨by omega,?_,?_,by unfold H32 at *;omega⟩
 · rw[Nat.le_div_iff_mul_le a1];have h1:=Nat.div_mul_le_self (U*H32+n) (y1*H32+y0);obtain⟨Q,hQ⟩:=zE ((U*H32+n) / (y1*H32+y0));rw[<-hQ]at h1 ⊢;have h2:Q*y1*H32<=Q*(y1*H32+y0):=by rw[Nat.mul_assoc];exact Nat.mul_le_mul_left _ (by omega)
   have h3:Q*y1*H32<(U+1)*H32:=by rw[Nat.add_mul];omega
   have:=Nat.lt_of_mul_lt_mul_right h3;omega
 · have h1:U / y1*y1<=U:=hd;rcases Nat.lt_or_ge (H32+1) (U / y1) with h|h
   · exfalso
     have h2:(H32+2)*y1<=U / y1*y1:=Nat.mul_le_mul_right _ h;rw[Nat.add_mul,Nat.mul_comm H32]at h2;unfold H32 at *
     omega
   · exact h
theorem zay {U n P R:Nat} (h:R+P=U*4294967296+n) (hR:R<18446744073709551616):
 IntKind.u64.wrap (IntKind.u64.wrap (IntKind.u64.wrap ((U:Int)*4294967296)+(n:Int))-IntKind.u64.wrap (P:Int))=(R:Int):=by
 simp only[IntKind.wrap_u64];omega
theorem zbt {q k z:Nat} (h:q*4294967296+k=z) (hz:z<18446744073709551616):IntKind.u64.wrap (IntKind.u64.wrap ((q:Int)*4294967296)+(k:Int))=(z:Int):=by
 simp only[IntKind.wrap_u64];omega
theorem wrap_mul {a b P:Nat} (h:P=a*b) (hP:P<18446744073709551616):IntKind.u64.wrap ((a:Int)*(b:Int))=(P:Int):=by
 rw[<-Int.natCast_mul,<-h,IntKind.wrap_u64];omega
theorem wrap_sub {a b r:Nat} (h:b+r=a) (ha:a<18446744073709551616):IntKind.u64.wrap ((a:Int)-(b:Int))=(r:Int):=by
 rw[IntKind.wrap_u64];omega
theorem zaz {U n y1 y0 Q Y:Nat} (hQ:(U*H32+n) / (y1*H32+y0)=Q) (hY:Y=y1*H32+y0) (hYp:0<Y):∃R P,P=Q*Y/\R+P=U*4294967296+n/\R<Y/\R=(U*H32+n) % Y:=by
 refine⟨(U*H32+n) % Y,Q*Y,rfl,?_,Nat.mod_lt _ hYp,rfl⟩;have:=Nat.mod_add_div (U*H32+n) Y;rw[<-hY]at hQ;rw[hQ,Nat.mul_comm Y]at this;exact this
theorem zbh {hi lo y s U n1 n0 Y Q R1 Q0 R0:Nat} (hfull:(U*H32+n1)*H32+n0=(hi*B+lo)*2 ^ s) (hYy:Y=y*2 ^ s) (hYp:0<Y) (hU:U<Y) (hn1:n1<H32) (hn0:n0<H32)
 (hQ:(U*H32+n1) / Y=Q) (hR1:R1=(U*H32+n1) % Y) (hQ0:(R1*H32+n0) / Y=Q0) (hR0:R0=(R1*H32+n0) % Y):
 Q*4294967296+Q0=(hi*B+lo) / y/\R0 / 2 ^ s=(hi*B+lo) % y:=by
 have h2:0<2 ^ s:=Nat.pow_pos (by omega);have ht:=two_halves (u:=U) (n1:=n1) (n0:=n0) (y:=Y) (H:=H32) hYp hn0 hn1 hU;rw[hQ,<-hR1,hQ0,<-hR0,hfull,hYy,div_shift h2,mod_shift]at ht;refine⟨ht.1,?_⟩;rw[ht.2,Nat.mul_div_cancel _ h2]
theorem Div64_high (hi lo y s Y y1 y0 U L n1 n0:Nat) (hhi:0<hi) (hlo:lo<B) (hy:hi<y) (hyB:y<B) (e1:IntKind.u64.wrap (64-(Lib.bitLen y:Int))=(s:Int)) (e1':min s 64=s)
 (e2:IntKind.u64.wrap ((y:Int)*2 ^ s)=(Y:Int)) (e3:(Y:Int) / 4294967296=(y1:Int)) (e4:bits .and .u64 (Y:Int) 4294967295=(y0:Int)) (hy1:2147483648<=y1) (hy1':y1<4294967296) (hy0:y0<4294967296)
 (e5:bits .or .u64 (IntKind.u64.wrap ((hi:Int)*2 ^ s)) ((lo:Int) / 2 ^ (64-s))=(U:Int)) (e6:IntKind.u64.wrap ((lo:Int)*2 ^ s)=(L:Int)) (e7:(L:Int) / 4294967296=(n1:Int)) (e8:bits .and .u64 (L:Int) 4294967295=(n0:Int))
 (hn1:n1<4294967296) (hn0:n0<4294967296) (hU:U<Y) (hY:Y=y1*H32+y0) (hYB:Y<B) (hfull:(U*H32+n1)*H32+n0=(hi*B+lo)*2 ^ s) (hYy:Y=y*2 ^ s) (z t:Nat) (hz:z=(hi*B+lo) / y) (ht:t=(hi*B+lo) % y) (w:World):
 Calls Tryz.prog 212 #[.int .u64 (hi:Int),.int .u64 (lo:Int),.int .u64 (y:Int)] w fun e w'=>e=.returned (.tuple #[.int .u64 (z:Int),.int .u64 (t:Int)])/\w=w':=by
 have h1:((y:Int) == 0)=false:=by rw[beq_eq_false_iff_ne];omega
 have h2:((hi:Int) == 0)=false:=by rw[beq_eq_false_iff_ne];omega
 have h3:decide (y<=hi)=false:=by simp;omega
 have h4:(y1:Int)≠0:=by omega
 have HH:=half_start (n:=n1) hy1 hy1' hy0 (hY▸hU) hn1;obtain⟨q0,i7⟩:=zE (U / y1);obtain⟨r0,j5⟩:=zE (U-q0*y1);have e9:(U:Int) / (y1:Int)=(q0:Int):=by rw[i7];rfl
 rw[<-i7,<-j5]at HH;have j3:q0<=4294967297:=HH.2.2.1;have j4:r0<4294967296:=HH.2.2.2;obtain⟨P0,i9⟩:=zE (q0*y1);have f3:P0+r0=U:=i9▸HH.1;have j8:U<18446744073709551616:=by unfold B at hYB;omega
 have j9:IntKind.u64.wrap ((q0:Int)*(y1:Int))=(P0:Int):=by rw[<-Int.natCast_mul,<-i9,IntKind.wrap_u64];omega
 have k0:IntKind.u64.wrap ((U:Int)-(P0:Int))=(r0:Int):=by rw[IntKind.wrap_u64];omega
 have k2:=Lib.hid HH;clear i9 f3 j8;have HY:=Lib.hid hY;have HU:=Lib.hid hU;have a8:0<Y:=by omega
 have HF:=Lib.hid hfull;have f4:=Lib.hid hYy;have HZ:=Lib.hid hz;have HT:=Lib.hid ht;clear i7 j5 hY HH hU hfull hYy hz ht;go_enter Tryz.func212,Tryz.ntmps212
 go_wp2_with (go_at_call 245;refine(Tryz.bits_LeadingZeros64 _ _ (by omega) (by unfold B at *;omega)).mono ?_;rintro e w' ⟨rfl,rfl⟩)
 have HV:=Lib.hid (show 0<y1*H32+y0 from by unfold H32;omega);clear e1 e2 e3 e4 e5 e6 e7 e8 e9 j9 k0
 go_loop [15,16] (fun a b=>∃q r:Nat,a=.int .u64 (q:Int)/\b=.int .u64 (r:Int)/\q<=4294967297/\r<4294967296/\Hid (HalfInv U y1 y0 n1 q r)) (fun a _=>(intOf a).toNat)
 case atStart=>exact⟨q0,r0,rfl,rfl,j3,j4,k2⟩
 case round=>
  obtain⟨q,r,rfl,rfl,hq,hr,hI⟩:=hrel;by_cases hqH:4294967296<=q
  · have a4:=zbl hI.out (HY.out▸HU.out) hn1 (.inl hqH);obtain⟨k,hk⟩:=zE (q-1);rw[<-hk]at a4;have g8:(q:Int)-1=(k:Int):=(by omega);have g9:k+1<=4294967297:=(by omega);have KQ:=Lib.hid (show k<q by omega);have ST:=Lib.hid a4;clear a4 hk;have h5:decide ((4294967296:Int)<=(q:Int))=true:=decide_eq_true (by omega);by_cases hbr:4294967296<=r+y1
    · have b7:decide ((4294967296:Int)<=(r:Int)+(y1:Int))=true:=decide_eq_true (by omega);have hex:=zba (n:=n1) (q:=k) (r:=r+y1) ST.out.2.1 ST.out.2.2.1 (by omega) (half_brk ST.out.2.2.2 hy0 hbr);obtain⟨R1,P1,g1,g2,d8,d0⟩:=zaz hex HY.out a8;have f6:=zay g2 (by unfold B at hYB;omega);have b8:IntKind.u64.wrap ((k:Int)*(Y:Int))=IntKind.u64.wrap (P1:Int):=(by rw[g1,Int.natCast_mul]);rw[<-b8]at f6;have a9:=half_start (n:=n0) hy1 hy1' hy0 (HY.out▸d8) hn0;obtain⟨q2,d9⟩:=zE (R1 / y1);obtain⟨r2,g4⟩:=zE (R1-q2*y1);have h8:(R1:Int) / (y1:Int)=(q2:Int):=(by rw[d9];rfl);rw[<-d9,<-g4]at a9;have f7:q2<=4294967297:=a9.2.2.1;have f8:r2<4294967296:=a9.2.2.2;obtain⟨P2,e0⟩:=zE (q2*y1);have f3:P2+r2=R1:=e0▸a9.1;have h9:=wrap_mul e0 (by unfold B at hYB;omega);have i0:=wrap_sub f3 (by unfold B at hYB;omega);have f9:=Lib.hid a9;have d5:=Lib.hid (show(U*H32+n1) / Y=k by rw[HY.out];exact hex);have d6:=Lib.hid d0;clear d9 g4 e0 f3 a9 g1 g2 d0 b8 hex;go_wp2;clear f6 h8 h9 i0
      go_loop [18,16] (fun a b=>∃q r:Nat,a=.int .u64 (q:Int)/\b=.int .u64 (r:Int)/\q<=4294967297/\r<4294967296/\Hid (HalfInv R1 y1 y0 n0 q r)) (fun a _=>(intOf a).toNat)
      case atStart=>exact⟨q2,r2,rfl,rfl,f7,f8,f9⟩
      case round=>
       clear hI;obtain⟨q,r,rfl,rfl,hq,hr,hI⟩:=hrel;by_cases hqH:4294967296<=q
       · have a4:=zbl hI.out (HY.out▸d8) hn0 (.inl hqH);obtain⟨k,hk⟩:=zE (q-1);rw[<-hk]at a4;have g8:(q:Int)-1=(k:Int):=(by omega);have g9:k+1<=4294967297:=(by omega);have KQ:=Lib.hid (show k<q by omega);have ST:=Lib.hid a4;clear a4 hk;have h5:decide ((4294967296:Int)<=(q:Int))=true:=decide_eq_true (by omega);by_cases hbr:4294967296<=r+y1
         · have b7:decide ((4294967296:Int)<=(r:Int)+(y1:Int))=true:=decide_eq_true (by omega);have hex:=zba (n:=n0) (q:=k) (r:=r+y1) ST.out.2.1 ST.out.2.2.1 (by omega) (half_brk ST.out.2.2.2 hy0 hbr);obtain⟨R0,P3,a7,a2,g7,a3⟩:=zaz hex HY.out a8;have a1:=zbh HF.out f4.out a8 HU.out hn1 hn0 d5.out d6.out (show(R1*H32+n0) / Y=k by rw[HY.out];exact hex) a3;rw[<-HZ.out,<-HT.out]at a1;have a5:z<18446744073709551616:=by
            rw[HZ.out];refine Nat.div_lt_of_lt_mul ?_
            have:(hi+1)*B<=y*B:=Nat.mul_le_mul_right _ hy;rw[Nat.add_mul]at this;unfold B at *
            omega
           have b5:=zay a2 (by unfold B at hYB;omega);have g0:=zbt a1.1 a5;have a6:IntKind.u64.wrap ((k:Int)*(Y:Int))=IntKind.u64.wrap (P3:Int):=(by rw[a7,Int.natCast_mul]);rw[<-a6]at b5;have b6:(R0:Int) / 2 ^ s=(t:Int):=(by rw[<-a1.2];norm_cast);have F1:=Lib.hid a1.1;have ZB:=Lib.hid a5;clear a7 a2 a3 a1 a6 hex a5;go_wp2
           go_ret2
           exact⟨ret_two (by first|rfl|(have:=F1.out;have:=ZB.out;omega)|(have:=F1.out;have:=ZB.out;simp only[IntKind.wrap_u64];omega)) (by first|rfl|exact b6),rfl⟩
         · have b7:decide ((4294967296:Int)<=(r:Int)+(y1:Int))=false:=decide_eq_false (by omega);go_wp2
           go_round
           case rel=>exact⟨k,r+y1,by go_num,by go_num,by omega,by omega,Lib.hid ⟨ST.out.2.1,ST.out.2.2.1,by have:=ST.out.2.2.2;omega,by unfold H32;omega⟩⟩
           case measure=>have:=KQ.out;simp[intOf];omega
       · have h5:decide ((4294967296:Int)<=(q:Int))=false:=decide_eq_false (by omega);obtain⟨P,hP⟩:=zE (q*y0);have h6:P<18446744073709551616:=by
          have:q*y0<=4294967295*4294967295:=Nat.mul_le_mul (by omega) (by omega);omega
         have i5:=wrap_mul hP h6;by_cases hov:4294967296*r+n0<P
         · have a4:=zbl hI.out (HY.out▸d8) hn0 (.inr (by rw[<-hP];exact hov));obtain⟨k,hk⟩:=zE (q-1);rw[<-hk]at a4;have i6:1<=q:=a4.1;have g8:(q:Int)-1=(k:Int):=(by omega);have g9:k+1<=4294967296:=(by omega);have KQ:=Lib.hid (show k<q by omega);have ST:=Lib.hid a4;clear a4 hP hk;have d7:(4294967296:Int)*(r:Int)+(n0:Int)<(P:Int):=(by omega);by_cases hbr:4294967296<=r+y1
           · have b7:decide ((4294967296:Int)<=(r:Int)+(y1:Int))=true:=decide_eq_true (by omega);have hex:=zba (n:=n0) (q:=k) (r:=r+y1) ST.out.2.1 ST.out.2.2.1 (by omega) (half_brk ST.out.2.2.2 hy0 hbr);obtain⟨R0,P3,a7,a2,g7,a3⟩:=zaz hex HY.out a8;have a1:=zbh HF.out f4.out a8 HU.out hn1 hn0 d5.out d6.out (show(R1*H32+n0) / Y=k by rw[HY.out];exact hex) a3;rw[<-HZ.out,<-HT.out]at a1;have a5:z<18446744073709551616:=by
              rw[HZ.out];refine Nat.div_lt_of_lt_mul ?_
              have:(hi+1)*B<=y*B:=Nat.mul_le_mul_right _ hy;rw[Nat.add_mul]at this;unfold B at *
              omega
             have b5:=zay a2 (by unfold B at hYB;omega);have g0:=zbt a1.1 a5;have a6:IntKind.u64.wrap ((k:Int)*(Y:Int))=IntKind.u64.wrap (P3:Int):=(by rw[a7,Int.natCast_mul]);rw[<-a6]at b5;have b6:(R0:Int) / 2 ^ s=(t:Int):=(by rw[<-a1.2];norm_cast);have F1:=Lib.hid a1.1;have ZB:=Lib.hid a5;clear a7 a2 a3 a1 a6 hex a5;go_wp2
             go_ret2
             exact⟨ret_two (by first|rfl|(have:=F1.out;have:=ZB.out;omega)|(have:=F1.out;have:=ZB.out;simp only[IntKind.wrap_u64];omega)) (by first|rfl|exact b6),rfl⟩
           · have b7:decide ((4294967296:Int)<=(r:Int)+(y1:Int))=false:=decide_eq_false (by omega);go_wp2
             go_round
             case rel=>exact⟨k,r+y1,by go_num,by go_num,by omega,by omega,Lib.hid ⟨ST.out.2.1,ST.out.2.2.1,by have:=ST.out.2.2.2;omega,by unfold H32;omega⟩⟩
             case measure=>have:=KQ.out;simp[intOf];omega
         · have hex:=zba (n:=n0) hI.out.1 hI.out.2.1 (by omega) (by rw[<-hP];unfold H32;omega);have d7:(P:Int)<=(4294967296:Int)*(r:Int)+(n0:Int):=(by omega);clear hP hov;obtain⟨R0,P3,a7,a2,g7,a3⟩:=zaz hex HY.out a8;have a1:=zbh HF.out f4.out a8 HU.out hn1 hn0 d5.out d6.out (show(R1*H32+n0) / Y=q by rw[HY.out];exact hex) a3;rw[<-HZ.out,<-HT.out]at a1;have a5:z<18446744073709551616:=by
            rw[HZ.out];refine Nat.div_lt_of_lt_mul ?_
            have:(hi+1)*B<=y*B:=Nat.mul_le_mul_right _ hy;rw[Nat.add_mul]at this;unfold B at *
            omega
           have b5:=zay a2 (by unfold B at hYB;omega);have g0:=zbt a1.1 a5;have a6:IntKind.u64.wrap ((q:Int)*(Y:Int))=IntKind.u64.wrap (P3:Int):=(by rw[a7,Int.natCast_mul]);rw[<-a6]at b5;have b6:(R0:Int) / 2 ^ s=(t:Int):=(by rw[<-a1.2];norm_cast);have F1:=Lib.hid a1.1;have ZB:=Lib.hid a5;clear a7 a2 a3 a1 a6 hex a5;go_wp2
           go_ret2
           exact⟨ret_two (by first|rfl|(have:=F1.out;have:=ZB.out;omega)|(have:=F1.out;have:=ZB.out;simp only[IntKind.wrap_u64];omega)) (by first|rfl|exact b6),rfl⟩
    · have b7:decide ((4294967296:Int)<=(r:Int)+(y1:Int))=false:=decide_eq_false (by omega);go_wp2
      go_round
      case rel=>exact⟨k,r+y1,by go_num,by go_num,by omega,by omega,Lib.hid ⟨ST.out.2.1,ST.out.2.2.1,by have:=ST.out.2.2.2;omega,by unfold H32;omega⟩⟩
      case measure=>have:=KQ.out;simp[intOf];omega
  · have h5:decide ((4294967296:Int)<=(q:Int))=false:=decide_eq_false (by omega);obtain⟨P,hP⟩:=zE (q*y0);have h6:P<18446744073709551616:=by
     have:q*y0<=4294967295*4294967295:=Nat.mul_le_mul (by omega) (by omega);omega
    have i5:=wrap_mul hP h6;by_cases hov:4294967296*r+n1<P
    · have a4:=zbl hI.out (HY.out▸HU.out) hn1 (.inr (by rw[<-hP];exact hov));obtain⟨k,hk⟩:=zE (q-1);rw[<-hk]at a4;have i6:1<=q:=a4.1;have g8:(q:Int)-1=(k:Int):=(by omega);have g9:k+1<=4294967296:=(by omega);have KQ:=Lib.hid (show k<q by omega);have ST:=Lib.hid a4;clear a4 hP hk;have d7:(4294967296:Int)*(r:Int)+(n1:Int)<(P:Int):=(by omega);by_cases hbr:4294967296<=r+y1
      · have b7:decide ((4294967296:Int)<=(r:Int)+(y1:Int))=true:=decide_eq_true (by omega);have hex:=zba (n:=n1) (q:=k) (r:=r+y1) ST.out.2.1 ST.out.2.2.1 (by omega) (half_brk ST.out.2.2.2 hy0 hbr);obtain⟨R1,P1,g1,g2,d8,d0⟩:=zaz hex HY.out a8;have f6:=zay g2 (by unfold B at hYB;omega);have b8:IntKind.u64.wrap ((k:Int)*(Y:Int))=IntKind.u64.wrap (P1:Int):=(by rw[g1,Int.natCast_mul]);rw[<-b8]at f6;have a9:=half_start (n:=n0) hy1 hy1' hy0 (HY.out▸d8) hn0;obtain⟨q2,d9⟩:=zE (R1 / y1);obtain⟨r2,g4⟩:=zE (R1-q2*y1);have h8:(R1:Int) / (y1:Int)=(q2:Int):=(by rw[d9];rfl);rw[<-d9,<-g4]at a9;have f7:q2<=4294967297:=a9.2.2.1;have f8:r2<4294967296:=a9.2.2.2;obtain⟨P2,e0⟩:=zE (q2*y1);have f3:P2+r2=R1:=e0▸a9.1;have h9:=wrap_mul e0 (by unfold B at hYB;omega);have i0:=wrap_sub f3 (by unfold B at hYB;omega);have f9:=Lib.hid a9;have d5:=Lib.hid (show(U*H32+n1) / Y=k by rw[HY.out];exact hex);have d6:=Lib.hid d0;clear d9 g4 e0 f3 a9 g1 g2 d0 b8 hex;go_wp2;clear f6 h8 h9 i0
        go_loop [18,16] (fun a b=>∃q r:Nat,a=.int .u64 (q:Int)/\b=.int .u64 (r:Int)/\q<=4294967297/\r<4294967296/\Hid (HalfInv R1 y1 y0 n0 q r)) (fun a _=>(intOf a).toNat)
        case atStart=>exact⟨q2,r2,rfl,rfl,f7,f8,f9⟩
        case round=>
         clear hI;obtain⟨q,r,rfl,rfl,hq,hr,hI⟩:=hrel;by_cases hqH:4294967296<=q
         · have a4:=zbl hI.out (HY.out▸d8) hn0 (.inl hqH);obtain⟨k,hk⟩:=zE (q-1);rw[<-hk]at a4;have g8:(q:Int)-1=(k:Int):=(by omega);have g9:k+1<=4294967297:=(by omega);have KQ:=Lib.hid (show k<q by omega);have ST:=Lib.hid a4;clear a4 hk;have h5:decide ((4294967296:Int)<=(q:Int))=true:=decide_eq_true (by omega);by_cases hbr:4294967296<=r+y1
           · have b7:decide ((4294967296:Int)<=(r:Int)+(y1:Int))=true:=decide_eq_true (by omega);have hex:=zba (n:=n0) (q:=k) (r:=r+y1) ST.out.2.1 ST.out.2.2.1 (by omega) (half_brk ST.out.2.2.2 hy0 hbr);obtain⟨R0,P3,a7,a2,g7,a3⟩:=zaz hex HY.out a8;have a1:=zbh HF.out f4.out a8 HU.out hn1 hn0 d5.out d6.out (show(R1*H32+n0) / Y=k by rw[HY.out];exact hex) a3;rw[<-HZ.out,<-HT.out]at a1;have a5:z<18446744073709551616:=by
              rw[HZ.out];refine Nat.div_lt_of_lt_mul ?_
              have:(hi+1)*B<=y*B:=Nat.mul_le_mul_right _ hy;rw[Nat.add_mul]at this;unfold B at *
              omega
             have b5:=zay a2 (by unfold B at hYB;omega);have g0:=zbt a1.1 a5;have a6:IntKind.u64.wrap ((k:Int)*(Y:Int))=IntKind.u64.wrap (P3:Int):=(by rw[a7,Int.natCast_mul]);rw[<-a6]at b5;have b6:(R0:Int) / 2 ^ s=(t:Int):=(by rw[<-a1.2];norm_cast);have F1:=Lib.hid a1.1;have ZB:=Lib.hid a5;clear a7 a2 a3 a1 a6 hex a5;go_wp2
             go_ret2
             exact⟨ret_two (by first|rfl|(have:=F1.out;have:=ZB.out;omega)|(have:=F1.out;have:=ZB.out;simp only[IntKind.wrap_u64];omega)) (by first|rfl|exact b6),rfl⟩
           · have b7:decide ((4294967296:Int)<=(r:Int)+(y1:Int))=false:=decide_eq_false (by omega);go_wp2
             go_round
             case rel=>exact⟨k,r+y1,by go_num,by go_num,by omega,by omega,Lib.hid ⟨ST.out.2.1,ST.out.2.2.1,by have:=ST.out.2.2.2;omega,by unfold H32;omega⟩⟩
             case measure=>have:=KQ.out;simp[intOf];omega
         · have h5:decide ((4294967296:Int)<=(q:Int))=false:=decide_eq_false (by omega);obtain⟨P,hP⟩:=zE (q*y0);have h6:P<18446744073709551616:=by
            have:q*y0<=4294967295*4294967295:=Nat.mul_le_mul (by omega) (by omega);omega
           have i5:=wrap_mul hP h6;by_cases hov:4294967296*r+n0<P
           · have a4:=zbl hI.out (HY.out▸d8) hn0 (.inr (by rw[<-hP];exact hov));obtain⟨k,hk⟩:=zE (q-1);rw[<-hk]at a4;have i6:1<=q:=a4.1;have g8:(q:Int)-1=(k:Int):=(by omega);have g9:k+1<=4294967296:=(by omega);have KQ:=Lib.hid (show k<q by omega);have ST:=Lib.hid a4;clear a4 hP hk;have d7:(4294967296:Int)*(r:Int)+(n0:Int)<(P:Int):=(by omega);by_cases hbr:4294967296<=r+y1
             · have b7:decide ((4294967296:Int)<=(r:Int)+(y1:Int))=true:=decide_eq_true (by omega);have hex:=zba (n:=n0) (q:=k) (r:=r+y1) ST.out.2.1 ST.out.2.2.1 (by omega) (half_brk ST.out.2.2.2 hy0 hbr);obtain⟨R0,P3,a7,a2,g7,a3⟩:=zaz hex HY.out a8;have a1:=zbh HF.out f4.out a8 HU.out hn1 hn0 d5.out d6.out (show(R1*H32+n0) / Y=k by rw[HY.out];exact hex) a3;rw[<-HZ.out,<-HT.out]at a1;have a5:z<18446744073709551616:=by
                rw[HZ.out];refine Nat.div_lt_of_lt_mul ?_
                have:(hi+1)*B<=y*B:=Nat.mul_le_mul_right _ hy;rw[Nat.add_mul]at this;unfold B at *
                omega
               have b5:=zay a2 (by unfold B at hYB;omega);have g0:=zbt a1.1 a5;have a6:IntKind.u64.wrap ((k:Int)*(Y:Int))=IntKind.u64.wrap (P3:Int):=(by rw[a7,Int.natCast_mul]);rw[<-a6]at b5;have b6:(R0:Int) / 2 ^ s=(t:Int):=(by rw[<-a1.2];norm_cast);have F1:=Lib.hid a1.1;have ZB:=Lib.hid a5;clear a7 a2 a3 a1 a6 hex a5;go_wp2
               go_ret2
               exact⟨ret_two (by first|rfl|(have:=F1.out;have:=ZB.out;omega)|(have:=F1.out;have:=ZB.out;simp only[IntKind.wrap_u64];omega)) (by first|rfl|exact b6),rfl⟩
             · have b7:decide ((4294967296:Int)<=(r:Int)+(y1:Int))=false:=decide_eq_false (by omega);go_wp2
               go_round
               case rel=>exact⟨k,r+y1,by go_num,by go_num,by omega,by omega,Lib.hid ⟨ST.out.2.1,ST.out.2.2.1,by have:=ST.out.2.2.2;omega,by unfold H32;omega⟩⟩
               case measure=>have:=KQ.out;simp[intOf];omega
           · have hex:=zba (n:=n0) hI.out.1 hI.out.2.1 (by omega) (by rw[<-hP];unfold H32;omega);have d7:(P:Int)<=(4294967296:Int)*(r:Int)+(n0:Int):=(by omega);clear hP hov;obtain⟨R0,P3,a7,a2,g7,a3⟩:=zaz hex HY.out a8;have a1:=zbh HF.out f4.out a8 HU.out hn1 hn0 d5.out d6.out (show(R1*H32+n0) / Y=q by rw[HY.out];exact hex) a3;rw[<-HZ.out,<-HT.out]at a1;have a5:z<18446744073709551616:=by
              rw[HZ.out];refine Nat.div_lt_of_lt_mul ?_
              have:(hi+1)*B<=y*B:=Nat.mul_le_mul_right _ hy;rw[Nat.add_mul]at this;unfold B at *
              omega
             have b5:=zay a2 (by unfold B at hYB;omega);have g0:=zbt a1.1 a5;have a6:IntKind.u64.wrap ((q:Int)*(Y:Int))=IntKind.u64.wrap (P3:Int):=(by rw[a7,Int.natCast_mul]);rw[<-a6]at b5;have b6:(R0:Int) / 2 ^ s=(t:Int):=(by rw[<-a1.2];norm_cast);have F1:=Lib.hid a1.1;have ZB:=Lib.hid a5;clear a7 a2 a3 a1 a6 hex a5;go_wp2
             go_ret2
             exact⟨ret_two (by first|rfl|(have:=F1.out;have:=ZB.out;omega)|(have:=F1.out;have:=ZB.out;simp only[IntKind.wrap_u64];omega)) (by first|rfl|exact b6),rfl⟩
      · have b7:decide ((4294967296:Int)<=(r:Int)+(y1:Int))=false:=decide_eq_false (by omega);go_wp2
        go_round
        case rel=>exact⟨k,r+y1,by go_num,by go_num,by omega,by omega,Lib.hid ⟨ST.out.2.1,ST.out.2.2.1,by have:=ST.out.2.2.2;omega,by unfold H32;omega⟩⟩
        case measure=>have:=KQ.out;simp[intOf];omega
    · have hex:=zba (n:=n1) hI.out.1 hI.out.2.1 (by omega) (by rw[<-hP];unfold H32;omega);have d7:(P:Int)<=(4294967296:Int)*(r:Int)+(n1:Int):=(by omega);clear hP hov;obtain⟨R1,P1,g1,g2,d8,d0⟩:=zaz hex HY.out a8;have f6:=zay g2 (by unfold B at hYB;omega);have b8:IntKind.u64.wrap ((q:Int)*(Y:Int))=IntKind.u64.wrap (P1:Int):=(by rw[g1,Int.natCast_mul]);rw[<-b8]at f6;have a9:=half_start (n:=n0) hy1 hy1' hy0 (HY.out▸d8) hn0;obtain⟨q2,d9⟩:=zE (R1 / y1);obtain⟨r2,g4⟩:=zE (R1-q2*y1);have h8:(R1:Int) / (y1:Int)=(q2:Int):=(by rw[d9];rfl);rw[<-d9,<-g4]at a9;have f7:q2<=4294967297:=a9.2.2.1;have f8:r2<4294967296:=a9.2.2.2;obtain⟨P2,e0⟩:=zE (q2*y1);have f3:P2+r2=R1:=e0▸a9.1;have h9:=wrap_mul e0 (by unfold B at hYB;omega);have i0:=wrap_sub f3 (by unfold B at hYB;omega);have f9:=Lib.hid a9;have d5:=Lib.hid (show(U*H32+n1) / Y=q by rw[HY.out];exact hex);have d6:=Lib.hid d0;clear d9 g4 e0 f3 a9 g1 g2 d0 b8 hex;go_wp2;clear f6 h8 h9 i0
      go_loop [18,16] (fun a b=>∃q r:Nat,a=.int .u64 (q:Int)/\b=.int .u64 (r:Int)/\q<=4294967297/\r<4294967296/\Hid (HalfInv R1 y1 y0 n0 q r)) (fun a _=>(intOf a).toNat)
      case atStart=>exact⟨q2,r2,rfl,rfl,f7,f8,f9⟩
      case round=>
       clear hI;obtain⟨q,r,rfl,rfl,hq,hr,hI⟩:=hrel;by_cases hqH:4294967296<=q
       · have a4:=zbl hI.out (HY.out▸d8) hn0 (.inl hqH);obtain⟨k,hk⟩:=zE (q-1);rw[<-hk]at a4;have g8:(q:Int)-1=(k:Int):=(by omega);have g9:k+1<=4294967297:=(by omega);have KQ:=Lib.hid (show k<q by omega);have ST:=Lib.hid a4;clear a4 hk;have h5:decide ((4294967296:Int)<=(q:Int))=true:=decide_eq_true (by omega);by_cases hbr:4294967296<=r+y1
         · have b7:decide ((4294967296:Int)<=(r:Int)+(y1:Int))=true:=decide_eq_true (by omega);have hex:=zba (n:=n0) (q:=k) (r:=r+y1) ST.out.2.1 ST.out.2.2.1 (by omega) (half_brk ST.out.2.2.2 hy0 hbr);obtain⟨R0,P3,a7,a2,g7,a3⟩:=zaz hex HY.out a8;have a1:=zbh HF.out f4.out a8 HU.out hn1 hn0 d5.out d6.out (show(R1*H32+n0) / Y=k by rw[HY.out];exact hex) a3;rw[<-HZ.out,<-HT.out]at a1;have a5:z<18446744073709551616:=by
            rw[HZ.out];refine Nat.div_lt_of_lt_mul ?_
            have:(hi+1)*B<=y*B:=Nat.mul_le_mul_right _ hy;rw[Nat.add_mul]at this;unfold B at *
            omega
           have b5:=zay a2 (by unfold B at hYB;omega);have g0:=zbt a1.1 a5;have a6:IntKind.u64.wrap ((k:Int)*(Y:Int))=IntKind.u64.wrap (P3:Int):=(by rw[a7,Int.natCast_mul]);rw[<-a6]at b5;have b6:(R0:Int) / 2 ^ s=(t:Int):=(by rw[<-a1.2];norm_cast);have F1:=Lib.hid a1.1;have ZB:=Lib.hid a5;clear a7 a2 a3 a1 a6 hex a5;go_wp2
           go_ret2
           exact⟨ret_two (by first|rfl|(have:=F1.out;have:=ZB.out;omega)|(have:=F1.out;have:=ZB.out;simp only[IntKind.wrap_u64];omega)) (by first|rfl|exact b6),rfl⟩
         · have b7:decide ((4294967296:Int)<=(r:Int)+(y1:Int))=false:=decide_eq_false (by omega);go_wp2
           go_round
           case rel=>exact⟨k,r+y1,by go_num,by go_num,by omega,by omega,Lib.hid ⟨ST.out.2.1,ST.out.2.2.1,by have:=ST.out.2.2.2;omega,by unfold H32;omega⟩⟩
           case measure=>have:=KQ.out;simp[intOf];omega
       · have h5:decide ((4294967296:Int)<=(q:Int))=false:=decide_eq_false (by omega);obtain⟨P,hP⟩:=zE (q*y0);have h6:P<18446744073709551616:=by
          have:q*y0<=4294967295*4294967295:=Nat.mul_le_mul (by omega) (by omega);omega
         have i5:=wrap_mul hP h6;by_cases hov:4294967296*r+n0<P
         · have a4:=zbl hI.out (HY.out▸d8) hn0 (.inr (by rw[<-hP];exact hov));obtain⟨k,hk⟩:=zE (q-1);rw[<-hk]at a4;have i6:1<=q:=a4.1;have g8:(q:Int)-1=(k:Int):=(by omega);have g9:k+1<=4294967296:=(by omega);have KQ:=Lib.hid (show k<q by omega);have ST:=Lib.hid a4;clear a4 hP hk;have d7:(4294967296:Int)*(r:Int)+(n0:Int)<(P:Int):=(by omega);by_cases hbr:4294967296<=r+y1
           · have b7:decide ((4294967296:Int)<=(r:Int)+(y1:Int))=true:=decide_eq_true (by omega);have hex:=zba (n:=n0) (q:=k) (r:=r+y1) ST.out.2.1 ST.out.2.2.1 (by omega) (half_brk ST.out.2.2.2 hy0 hbr);obtain⟨R0,P3,a7,a2,g7,a3⟩:=zaz hex HY.out a8;have a1:=zbh HF.out f4.out a8 HU.out hn1 hn0 d5.out d6.out (show(R1*H32+n0) / Y=k by rw[HY.out];exact hex) a3;rw[<-HZ.out,<-HT.out]at a1;have a5:z<18446744073709551616:=by
              rw[HZ.out];refine Nat.div_lt_of_lt_mul ?_
              have:(hi+1)*B<=y*B:=Nat.mul_le_mul_right _ hy;rw[Nat.add_mul]at this;unfold B at *
              omega
             have b5:=zay a2 (by unfold B at hYB;omega);have g0:=zbt a1.1 a5;have a6:IntKind.u64.wrap ((k:Int)*(Y:Int))=IntKind.u64.wrap (P3:Int):=(by rw[a7,Int.natCast_mul]);rw[<-a6]at b5;have b6:(R0:Int) / 2 ^ s=(t:Int):=(by rw[<-a1.2];norm_cast);have F1:=Lib.hid a1.1;have ZB:=Lib.hid a5;clear a7 a2 a3 a1 a6 hex a5;go_wp2
             go_ret2
             exact⟨ret_two (by first|rfl|(have:=F1.out;have:=ZB.out;omega)|(have:=F1.out;have:=ZB.out;simp only[IntKind.wrap_u64];omega)) (by first|rfl|exact b6),rfl⟩
           · have b7:decide ((4294967296:Int)<=(r:Int)+(y1:Int))=false:=decide_eq_false (by omega);go_wp2
             go_round
             case rel=>exact⟨k,r+y1,by go_num,by go_num,by omega,by omega,Lib.hid ⟨ST.out.2.1,ST.out.2.2.1,by have:=ST.out.2.2.2;omega,by unfold H32;omega⟩⟩
             case measure=>have:=KQ.out;simp[intOf];omega
         · have hex:=zba (n:=n0) hI.out.1 hI.out.2.1 (by omega) (by rw[<-hP];unfold H32;omega);have d7:(P:Int)<=(4294967296:Int)*(r:Int)+(n0:Int):=(by omega);clear hP hov;obtain⟨R0,P3,a7,a2,g7,a3⟩:=zaz hex HY.out a8;have a1:=zbh HF.out f4.out a8 HU.out hn1 hn0 d5.out d6.out (show(R1*H32+n0) / Y=q by rw[HY.out];exact hex) a3;rw[<-HZ.out,<-HT.out]at a1;have a5:z<18446744073709551616:=by
            rw[HZ.out];refine Nat.div_lt_of_lt_mul ?_
            have:(hi+1)*B<=y*B:=Nat.mul_le_mul_right _ hy;rw[Nat.add_mul]at this;unfold B at *
            omega
           have b5:=zay a2 (by unfold B at hYB;omega);have g0:=zbt a1.1 a5;have a6:IntKind.u64.wrap ((q:Int)*(Y:Int))=IntKind.u64.wrap (P3:Int):=(by rw[a7,Int.natCast_mul]);rw[<-a6]at b5;have b6:(R0:Int) / 2 ^ s=(t:Int):=(by rw[<-a1.2];norm_cast);have F1:=Lib.hid a1.1;have ZB:=Lib.hid a5;clear a7 a2 a3 a1 a6 hex a5;go_wp2
           go_ret2
           exact⟨ret_two (by first|rfl|(have:=F1.out;have:=ZB.out;omega)|(have:=F1.out;have:=ZB.out;simp only[IntKind.wrap_u64];omega)) (by first|rfl|exact b6),rfl⟩
end Gz

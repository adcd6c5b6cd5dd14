/- Part of the proof. -/
import Derived.Test.YtbhnjkegkadodaaGreatDoorG02
import Derived.BigQuiet
import Derived.Deep.RegionWith
import Derived.Shelf.Small.Bits
import Derived.Shelf.Bits.Mul64
set_option linter.all false
set_option maxRecDepth 100000
set_option maxHeartbeats 8000000
namespace Gz
open Go Go.RowKit Go.Proofs Gn
theorem info22:(Tryz.prog.info? 22).map (fun i=>(i.zero,i.size,i.bytes))=some (some (.int .u64 0),1,8):=by kernel_rfl
theorem oneCell_u64 (l:List Nat):∀u ∈ l.map u64,u.oneCell'=true:=fun u hu=>by
 obtain⟨x,_,rfl⟩:=List.mem_map.1 hu;rfl
theorem Norm_c {A:Option Addr} {n c:Nat} {l:List Nat} {w:World} (h:NatV 22 w A n c l) (hb:n<=1073741824):
 Calls Tryz.prog 147 #[.slice A n c] w fun e w'=>∃A' c',e=.returned (.slice A' (Gn.trimLen l) c')/\w'.ownsRow w.heap.size 22 1 (.slice A' (Gn.trimLen l) c') (Gn.trimLen l) ((Gn.trim l).map u64)/\Below w.heap.size w w':=by
 obtain⟨i0,a1,a2,a3,a4⟩:=info_parts info22;have ht:=h.trim;have a6:trimLen l<=1073741824:=by have:=trimLen_le l;have:=h.len;omega
 go_enter Tryz.func147,Tryz.ntmps147
 go_wp2_with (first
  | (go_at_call 81;refine(zbb h).mono ?_;rintro e w' ⟨rfl,rfl⟩)
  | (at_builtin
     refine wpList_append_src _ rfl _ _ _ rfl w.heap.size 22 i0 _ 1 8 Tryz.underlying24 a1 a2 a3 a4 rfl (by omega) (.slice none 0 0) 0 [] rfl (World.ownsRow_nil _ _ _ _) _ _ _ ((Gn.trim l).map u64) rfl (by simp[zau]) (Src.of_natV ht) (oneCell_u64 _) (by simp only[maxLen];omega) (by omega) (zR _) ?_
     intro A' c' w1 hown1 hg1 hat1))
 simp only[Nat.zero_add,List.nil_append]at hown1;go_ret;exact⟨_,_,rfl,hown1,(Below.refl _ _).grown hg1 (zR _) (by simp[Value.ownBlock])⟩
def ofL (x:Nat):List Nat:=if x=0 then[] else[x]
theorem Of_c (x:Int) (h0:0<=x) (h1:x<=18446744073709551615) (w:World):
 Calls Tryz.prog 30 #[.int .u64 x] w fun e w'=>∃A n c,e=.returned (.slice A n c)/\NatV 22 w' A n c (ofL x.toNat)/\Below w.heap.size w w'/\NewA w A:=by
 by_cases hx:x=0
 · subst hx;go_enter Tryz.func30,Tryz.ntmps30;go_wp2;go_ret;exact⟨none,0,0,rfl,NatV.nil _ _,Below.refl _ _,NewA.nil _⟩
 · have hb:(x == 0)=false:=by rw[beq_eq_false_iff_ne];exact hx
   obtain⟨m,rfl⟩:=Int.eq_ofNat_of_zero_le h0;go_enter Tryz.func30,Tryz.ntmps30;go_wp2;go_ret;have e:ofL (m:Int).toNat=[m]:=by simp[ofL];omega
   rw[e];refine⟨_,_,_,rfl,?_,(Below.refl _ _).alloc (zR _) _,NewA.mk (zR _)⟩;exact(LB.new w [m]).natV (fun y hy=>by simp at hy;subst hy;unfold B;omega) rfl (zR _) (by simp[maxLen])
def cmpI (x y:Int):Int:=if x<y then -1 else if y<x then 1 else 0
theorem cmpI_lt {x y:Int} (h:x<y):cmpI x y = -1:=by unfold cmpI;rw[if_pos h]
theorem cmpI_gt {x y:Int} (h:y<x):cmpI x y=1:=by unfold cmpI;rw[if_neg (by omega),if_pos h]
theorem cmpI_eq {x y:Int} (h:y<=x) (h':x<=y):cmpI x y=0:=by unfold cmpI;rw[if_neg (by omega),if_neg (by omega)]
theorem Compare_int (x y:Int) (w:World):Calls Tryz.prog 84 #[.int .i64 x,.int .i64 y] w fun e w'=>e=.returned (.int .i64 (cmpI x y))/\w=w':=by
 go_enter Tryz.func84,Tryz.ntmps84
 go_wp2
 all_goals go_ret
 · rw[cmpI_lt (by assumption)];exact⟨rfl,rfl⟩
 · rw[cmpI_gt (by assumption)];exact⟨rfl,rfl⟩
 · rw[cmpI_eq (by assumption) (by assumption)];exact⟨rfl,rfl⟩
theorem Compare_u64 (x y:Int) (w:World):Calls Tryz.prog 85 #[.int .u64 x,.int .u64 y] w fun e w'=>e=.returned (.int .i64 (cmpI x y))/\w=w':=by
 go_enter Tryz.func85,Tryz.ntmps85
 go_wp2
 all_goals go_ret
 · rw[cmpI_lt (by assumption)];exact⟨rfl,rfl⟩
 · rw[cmpI_gt (by assumption)];exact⟨rfl,rfl⟩
 · rw[cmpI_eq (by assumption) (by assumption)];exact⟨rfl,rfl⟩
theorem quiet_l {P:Program} {f:FuncId} {args:Array Value} {w:World} {n:Nat} {v:Value} (h:Calls P f args (w.drewN n) fun e w'=>e=.returned v/\w.drewN n=w'):
 Calls P f args (w.drewN n) fun e w''=>e=.returned v/\∃m,w''=w.drewN m:=h.mono fun _ _ hh=>⟨hh.1,n,hh.2.symm⟩
theorem Cmp_c {A A':Option Addr} {n c n' c':Nat} {a b:List Nat} {w:World} (ha:NatV 22 w A n c a) (hb:NatV 22 w A' n' c' b):
 Calls Tryz.prog 31 #[.slice A n c,.slice A' n' c'] w fun e w'=>e=.returned (.int .i64 (cmpI (val a) (val b)))/\∃q,w'=w.drewN q:=by
 have a2:=ha.trim;have a3:=hb.trim;have a6:=Lib.hid (lim_trim ha.lim);have a7:=Lib.hid (lim_trim hb.lim);have ea:=Lib.hid (val_trim a);have eb:=Lib.hid (val_trim b);have Na:=Lib.hid (norm_trim a);have Nb:=Lib.hid (norm_trim b);have la:=Lib.hid (zau a);have lb:=Lib.hid (zau b);have a8:=a2.max;have a9:=a3.max;unfold maxLen at a8 a9;rcases Nat.lt_trichotomy (trimLen a) (trimLen b) with hlt|heq|hgt
 · go_enter Tryz.func31,Tryz.ntmps31
   go_wp2_with (first
    | (go_at_call_of 81 (Value.slice A n c);refine(zbb ha).mono ?_;rintro e w' ⟨rfl,rfl⟩)
    | (go_at_call_of 81 (Value.slice A' n' c');refine(zbb hb).mono ?_;rintro e w' ⟨rfl,rfl⟩)
    | (go_at_call 84;refine(Compare_int _ _ _).mono ?_;rintro e w' ⟨rfl,rfl⟩;rw[cmpI_lt (by omega)]))
   go_ret
   rw[cmpI_lt (by rw[<-ea.out,<-eb.out];have:=val_lt_len a6.out Nb.out (by rw[la.out,lb.out];exact hlt);omega)];exact⟨rfl,0,rfl⟩
 · obtain⟨m,hm⟩:=zE (trimLen b);have H:=Lib.hid ha;have H':=Lib.hid hb;have T:=Lib.hid a2;have T':=Lib.hid a3;rw[heq,<-hm]at T;rw[<-hm]at T';rw[heq,<-hm]at a8;have E:=Lib.hid heq;have E':=Lib.hid hm;clear ha hb a2 a3 heq hm a9;go_enter Tryz.func31,Tryz.ntmps31
   go_wp2_with (first
    | (go_at_call_of 81 (Value.slice A n c);refine(zbb H.out).mono ?_;rintro e w' ⟨rfl,rfl⟩;rw[E.out,<-E'.out])
    | (go_at_call_of 81 (Value.slice A' n' c');refine(zbb H'.out).mono ?_;rintro e w' ⟨rfl,rfl⟩;rw[<-E'.out])
    | (go_at_call 84;refine(Compare_int _ _ _).mono ?_;rintro e w' ⟨rfl,rfl⟩;rw[cmpI_eq (by omega) (by omega)]))
   have La:=Lib.hid (show(trim a).length=m by rw[la.out,E.out,<-E'.out]);have Lb:=Lib.hid (show(trim b).length=m by rw[lb.out,<-E'.out])
   go_loopw [6] (fun i wr=>∃k:Nat,k<=m/\i=.int .i64 ((k:Int)-1)/\Hid ((trim a).drop k=(trim b).drop k)/\Hid (∃q,wr=w.drewN q)) (fun i _=>(intOf i+1).toNat)
   case atStart=>exact⟨m,zR _,rfl,Lib.hid (by rw[List.drop_eq_nil_of_le (by rw[La.out];omega),List.drop_eq_nil_of_le (by rw[Lb.out];omega)]),Lib.hid ⟨0,rfl⟩⟩
   case round=>
    obtain⟨k,hk,rfl,hd,hq⟩:=hrel;by_cases h0:0<k
    · obtain⟨b1,o1,rfl,_⟩:=T.out.row (by omega);obtain⟨b2,o2,rfl,_⟩:=T'.out.row (by omega);have b6:wr.cell? _=_:=(by obtain⟨q,rfl⟩:=hq.out;exact T.out.drewN q:NatV 22 wr _ _ _ _).cell rfl (k-1) (by rw[La.out];omega);have b7:wr.cell? _=_:=(by obtain⟨q,rfl⟩:=hq.out;exact T'.out.drewN q:NatV 22 wr _ _ _ _).cell rfl (k-1) (by rw[Lb.out];omega);obtain⟨x,hx⟩:=zE ((trim a)[k-1]'(by rw[La.out];omega));obtain⟨y,hy⟩:=zE ((trim b)[k-1]'(by rw[Lb.out];omega));simp only[u64]at b6 b7;rw[<-hx]at b6;rw[<-hy]at b7;have hi:((k:Int)-1).toNat=k-1:=(by omega);have X:=Lib.hid hx;have Y:=Lib.hid hy;clear hx hy;have e8:(k:Int)-1<(m:Int):=(by omega);have e9:(0:Int)<=(k:Int)-1:=(by omega);have step:∀z:Int,z=cmpI x y → (z != 0)=true->cmpI (val a) (val b)=z:=by
       intro z hz hne;have b8:=X.out;have b9:=Y.out;have c5:(trim a).drop (k-1+1)=(trim b).drop (k-1+1):=(by rw[show k-1+1=k from by omega];exact hd.out);have ka:k-1<(trim a).length:=(by rw[La.out];omega);have kb:k-1<(trim b).length:=(by rw[Lb.out];omega);rcases Nat.lt_trichotomy x y with hlt|he|hgt
       · rw[cmpI_lt (by omega)]at hz;have:=val_lt_at a6.out (k-1) ka kb c5 (by rw[<-b8,<-b9];exact hlt);rw[hz,cmpI_lt (by rw[<-ea.out,<-eb.out];omega)]
       · rw[cmpI_eq (by omega) (by omega)]at hz;subst hz;simp at hne
       · rw[cmpI_gt (by omega)]at hz;have:=val_lt_at a7.out (k-1) kb ka c5.symm (by rw[<-b8,<-b9];exact hgt);rw[hz,cmpI_gt (by rw[<-ea.out,<-eb.out];omega)]
      have S:=Lib.hid step;clear step;obtain⟨z,hz⟩:=zE (cmpI (x:Int) y);have C:∀W,Calls Tryz.prog 85 #[.int .u64 x,.int .u64 y] W fun e w'=>e=.returned (.int .i64 z)/\W=w':=(by rw[hz];exact fun W=>Compare_u64 _ _ W);have Z:=Lib.hid hz;clear hz;have CC:=Lib.hid C;clear C;by_cases hz0:z=0
      · have c6:(z != 0)=false:=(by rw[hz0];rfl);have Z0:=Lib.hid hz0;clear hz0
        go_wp2_with fail
        go_quiet ((go_at_call 85;exact quiet_l (CC.out _)))
        go_wp2
        go_roundw
        case rel=>
         refine⟨k-1,by omega,by congr 1;omega,Lib.hid ?_,Lib.hid (by obtain⟨q,rfl⟩:=hq.out;exact⟨_,World.drewN_drewN _ _ _⟩)⟩;have ka:k-1<(trim a).length:=(by rw[La.out];omega);have kb:k-1<(trim b).length:=(by rw[Lb.out];omega);rw[List.drop_eq_getElem_cons ka,List.drop_eq_getElem_cons kb,show k-1+1=k from by omega,hd.out,<-X.out,<-Y.out];have e0:x=y:=by
          have h1:=Z.out;rw[Z0.out]at h1;rcases Nat.lt_trichotomy x y with hlt|he|hgt
          · rw[cmpI_lt (by omega)]at h1;omega
          · exact he
          · rw[cmpI_gt (by omega)]at h1;omega
         rw[e0]
        case measure=>simp[intOf];omega
      · have c6:(z != 0)=true:=(by rw[bne_iff_ne];exact hz0);clear hz0
        go_wp2_with fail
        go_quiet ((go_at_call 85;exact quiet_l (CC.out _)))
        go_wp2
        go_ret
        rw[S.out z Z.out c6];exact⟨rfl,by obtain⟨q,rfl⟩:=hq.out;exact⟨_,World.drewN_drewN _ _ _⟩⟩
    · obtain rfl:k=0:=(by omega);go_wp2;go_ret;have e:trim a=trim b:=(by simpa using hd.out);rw[cmpI_eq (by rw[<-ea.out,<-eb.out,e];omega) (by rw[<-ea.out,<-eb.out,e];omega)];exact⟨rfl,hq.out⟩
 · go_enter Tryz.func31,Tryz.ntmps31
   go_wp2_with (first
    | (go_at_call_of 81 (Value.slice A n c);refine(zbb ha).mono ?_;rintro e w' ⟨rfl,rfl⟩)
    | (go_at_call_of 81 (Value.slice A' n' c');refine(zbb hb).mono ?_;rintro e w' ⟨rfl,rfl⟩)
    | (go_at_call 84;refine(Compare_int _ _ _).mono ?_;rintro e w' ⟨rfl,rfl⟩;rw[cmpI_gt (by omega)]))
   go_ret
   rw[cmpI_gt (by rw[<-ea.out,<-eb.out];have:=val_lt_len a7.out Na.out (by rw[la.out,lb.out];exact hgt);omega)];exact⟨rfl,0,rfl⟩
end Gz
namespace Go.Proofs
open Go.Shelf
def Tryz.lays134_ren:Go.Shelf.Ren:=⟨fun|134=>245|129=>131|n=>n,fun|53=>22|3=>3|4=>4|46=>168|5=>5|9=>9|n=>n,fun|n=>n⟩
theorem Tryz.lays134:Go.Proofs.Lays.n134 Tryz.prog Tryz.lays134_ren:={
 mixed:=by kernel_rfl
 f129:=Tryz.func131.trans (congrArg some (by kernel_rfl))
 f134:=Tryz.func245.trans (congrArg some (by kernel_rfl))
 t3:=Tryz.underlying3
 a3:=Tryz.isAgg3
 z3:=Tryz.sizeOf3
 v3:=Tryz.zeroValue3
 t4:=Tryz.underlying4
 a4:=Tryz.isAgg4
 z4:=Tryz.sizeOf4
 v4:=Tryz.zeroValue4
 t5:=Tryz.underlying5
 a5:=Tryz.isAgg5
 z5:=Tryz.sizeOf5
 v5:=Tryz.zeroValue5
 t9:=Tryz.underlying9
 a9:=Tryz.isAgg9
 z9:=Tryz.sizeOf9
 v9:=Tryz.zeroValue9
 t46:=Tryz.underlying168
 a46:=Tryz.isAgg168
 z46:=Tryz.sizeOf168
 v46:=Tryz.zeroValue168
 t53:=Tryz.underlying22
 a53:=Tryz.isAgg22
 z53:=Tryz.sizeOf22
 v53:=Tryz.zeroValue22 }
theorem Tryz.bits_LeadingZeros64 (x:Int) (w:World) (h0:0<=x) (h1:x<=18446744073709551615):
 Calls Tryz.prog 245 #[.int .u64 x] w fun e w'=>e=.returned (.int .i64 (64-(Lib.bitLen x.toNat:Int)))/\w'=w:=Any.bits_LeadingZeros64 Tryz.lays134 x w h0 h1
def Tryz.lays129_ren:Go.Shelf.Ren:=⟨fun|129=>131|n=>n,fun|53=>22|3=>3|4=>4|46=>168|5=>5|9=>9|n=>n,fun|n=>n⟩
theorem Tryz.lays129:Go.Proofs.Lays.n129 Tryz.prog Tryz.lays129_ren:={
 mixed:=by kernel_rfl
 f129:=Tryz.func131.trans (congrArg some (by kernel_rfl))
 t3:=Tryz.underlying3
 a3:=Tryz.isAgg3
 z3:=Tryz.sizeOf3
 v3:=Tryz.zeroValue3
 t4:=Tryz.underlying4
 a4:=Tryz.isAgg4
 z4:=Tryz.sizeOf4
 v4:=Tryz.zeroValue4
 t5:=Tryz.underlying5
 a5:=Tryz.isAgg5
 z5:=Tryz.sizeOf5
 v5:=Tryz.zeroValue5
 t9:=Tryz.underlying9
 a9:=Tryz.isAgg9
 z9:=Tryz.sizeOf9
 v9:=Tryz.zeroValue9
 t46:=Tryz.underlying168
 a46:=Tryz.isAgg168
 z46:=Tryz.sizeOf168
 v46:=Tryz.zeroValue168
 t53:=Tryz.underlying22
 a53:=Tryz.isAgg22
 z53:=Tryz.sizeOf22
 v53:=Tryz.zeroValue22 }
theorem Tryz.bits_Len64 (x:Int) (w:World) (h0:0<=x) (h1:x<=18446744073709551615):
 Calls Tryz.prog 131 #[.int .u64 x] w fun e w'=>e=.returned (.int .i64 (Lib.bitLen x.toNat))/\w'=w:=Any.bits_Len64 Tryz.lays129 x w h0 h1
def Tryz.lays264_ren:Go.Shelf.Ren:=⟨fun|264=>83|n=>n,fun|53=>22|46=>168|n=>n,fun|n=>n⟩
theorem Tryz.lays264:Go.Proofs.Lays.n264 Tryz.prog Tryz.lays264_ren:={
 mixed:=by kernel_rfl
 f264:=Tryz.func83.trans (congrArg some (by kernel_rfl))
 t46:=Tryz.underlying168
 a46:=Tryz.isAgg168
 z46:=Tryz.sizeOf168
 v46:=Tryz.zeroValue168
 t53:=Tryz.underlying22
 a53:=Tryz.isAgg22
 z53:=Tryz.sizeOf22
 v53:=Tryz.zeroValue22 }
open Go.RowKit Go.Lib in
theorem Tryz.bits_Mul64 (x y:Nat) (hx:x<18446744073709551616) (hy:y<18446744073709551616) (w:World):
 Calls Tryz.prog 83 #[.int .u64 x,.int .u64 y] w fun e w'=>e=.returned (.tuple #[.int .u64 ((x*y / 18446744073709551616:Nat):Int),.int .u64 ((x*y % 18446744073709551616:Nat):Int)])/\w'=w:=Any.bits_Mul64 Tryz.lays264 x y hx hy w
end Go.Proofs

/- Part of the proof. -/
import Derived.Test.YtbhnjkegkadodaaGreatDoorG10
import Derived.Shelf.Spec.SlicesInsert
import Derived.Lib.AppendZerosOnto
set_option linter.all false
set_option maxRecDepth 100000
set_option maxHeartbeats 8000000
namespace Gz
open Go Go.Proofs
theorem add_run (f:FuncId) (h:f=193) (a b:Value) (w w':World) (v:Value) (hr:(Extern.Atomic.update (Op.intArith .add) .i64 true #[a,b]).run Tryz.prog w=.ok v w'):(callFunc f #[a,b]).run Tryz.prog w=.ok (.value v) w':=by
 subst h;rw[run_callFunc_extern (e:=Extern.Atomic.update (Op.intArith .add) .i64 true) Tryz.func193 (by kernel_rfl) (by kernel_rfl) (by kernel_rfl) (by kernel_rfl),hr];rfl
end Gz
namespace Gz
open Go Go.Shelf Go.RowKit Go.Lib Go.Proofs Ex
theorem ins197_shift (w:World) {c q n cap i vb vo m vc:Nat} {cells:Array Value} {e:TypeId} {fr:Nat × Nat} {old new:List Value} (hi:i<n) (hm:0<m) (hroom:n+m<=cap) (hbig:n+m<=1048576) (hvb:vb≠c)
 (hc:w.heap[c]?=some (.cells cells e fr)) (hfz:∀o,o<cells.size->¬(fr.1<=o/\o<fr.2)) (hol:old.length=n*2) (hnl:new.length=m*2) (hold:∀j v,old[j]?=some v->cells[q+j]?=some v) (hfit:q+(n+m)*2<=cells.size)
 (hnew:∀j v,new[j]?=some v->w.cell? ⟨vb,vo+j,none⟩=some v) (h1o:∀v ∈ old,oneCell v=true) (h1n:∀v ∈ new,oneCell v=true)
 (tA tB:TypeId) (kA kB:Nat) (hsa:w.shape? vb=some (tA,kA)) (hsb:w.shape? c=some (tB,kB)) (hkB:kB≠0) (hfa:w.frozen? ⟨vb,vo,none⟩=false) (hfe:w.frozen? ⟨vb,kA,none⟩=false):
 Calls Tryz.prog 197 #[.slice (some ⟨c,q,none⟩) n cap,.int .i64 i,.slice (some ⟨vb,vo,none⟩) m vc] w fun x w'=>
  x=.returned (.slice (some ⟨c,q,none⟩) (n+m) cap)/\w'=withObj w.drew c (.cells (splice (splice cells (q+(i+m)*2) (old.drop (i*2))) (q+i*2) new) e fr):=by
 have b6:¬((m:Int)=0):=by omega
 have b7:¬((i:Int)=(n:Int)):=by omega
 have a8:∀lb cb,(callFunc 236 #[.slice (some ⟨vb,vo,none⟩) m vc,.slice (some ⟨c,q+(i+m)*2,none⟩) lb cb]).run Tryz.prog w=.ok (.value (.bool false)) w:=fun lb cb=>by
  rw[run_callFunc_extern Tryz.func236 (by kernel_rfl) (by kernel_rfl) (by kernel_rfl) (e:=Extern.SlicesOverlaps.overlaps #[251,251] #[4]) (by kernel_rfl),
   Lib.run_overlaps_apart w 251 4 182 Tryz.underlying251 2 (fun w=>by kernel_rfl) ⟨vb,vo,none⟩ ⟨c,q+(i+m)*2,none⟩ m vc lb cb hvb tA tB kA kB hsa hsb hkB hfa hfe]
  rfl
 have hs:(Tryz.prog.info? 182).map (·.size)=some 2:=by kernel_rfl
 have b8:IntKind.i64.wrap ((i:Int)+(m:Int))=(i:Int)+(m:Int):=by rw[IntKind.wrap_i64];omega
 have b9:(0:Int)<=(i:Int)+(m:Int):=by omega
 have c5:i<=n:=by omega
 have c6:((i:Int)+(m:Int)).toNat=i+m:=by omega
 have d0:¬(cap=i+m):=by omega
 have d5:(i:Int)<=(n:Int)+(m:Int):=by omega
 have d6:¬(cap=i):=by omega
 have a4:c<w.drew.heap.size:=(zqA.1 hc).1;have a5:(old.drop (i*2)).length=(n-i)*2:=by rw[List.length_drop,hol];omega
 have a3:∀(W:World) (X:Array Value),W.heap[c]?=some (.cells X e fr)->∀k v,X[k]?=some v->W.cell? ⟨c,k,none⟩=some v:=fun W X h k v hk=>by simp[World.cell?,h,hk]
 have a6:w.drew.heap[c]?=some (.cells cells e fr):=hc;have a2:∀ty dc sc,(Builtin.copy_ #[251,251] ty #[.slice (some ⟨c,q+(i+m)*2,none⟩) (n+m-(i+m)) dc,.slice (some ⟨c,q+i*2,none⟩) (n+m-i) sc]).run Tryz.prog w.drew=.ok (goInt (Nat.min (n+m-i) (n+m-(i+m)))) (withObj w.drew c (.cells (splice cells (q+(i+m)*2) (old.drop (i*2))) e fr)):=fun ty dc sc=>
  zat w.drew 251 251 ty 182 2 Tryz.underlying251 hs (by rw[a5];simp only[Nat.min_def];split<;>omega)
   (fun j v hj=>by
     rw[List.getElem?_drop]at hj;rw[Addr.add_lit];exact a3 _ _ a6 _ _ (by rw[Nat.add_assoc];exact hold _ _ hj)) a6 (by rw[a5];omega) hfz (fun v hv=>h1o v (List.mem_of_mem_drop hv))
 obtain⟨W1,a1⟩:=zE (withObj w.drew c (.cells (splice cells (q+(i+m)*2) (old.drop (i*2))) e fr));have a9:W1.heap[c]?=some (.cells (splice cells (q+(i+m)*2) (old.drop (i*2))) e fr):=by rw[a1,withObj_heap _ _ _ _ a4,if_pos rfl]
 have a7:∀(W:World),W.heap=W1.heap->∀ty dc,(Builtin.copy_ #[251,251] ty #[.slice (some ⟨c,q+i*2,none⟩) (n+m-i) dc,.slice (some ⟨vb,vo,none⟩) m vc]).run Tryz.prog W=.ok (goInt (Nat.min m (n+m-i))) (withObj W c (.cells (splice (splice cells (q+(i+m)*2) (old.drop (i*2))) (q+i*2) new) e fr)):=fun W hW ty dc=>
  zat W 251 251 ty 182 2 Tryz.underlying251 hs (by rw[hnl];simp only[Nat.min_def];split<;>omega)
   (fun j v hj=>by
     rw[Addr.add_lit];have:=hnew j v hj;simp only[World.cell?]at this ⊢;rw[hW,a1,withObj_heap _ _ _ _ a4,if_neg hvb];exact this) (by rw[hW];exact a9) (by rw[hnl,splice_size];omega) (by rw[splice_size];exact hfz) h1n
 rw[<-a1]at a2;have mixed:Tryz.prog.follows .mixedOrders=true:=by kernel_rfl
 go_enter Tryz.func197,Tryz.ntmps197
 go_wp2_with (simp only[a8])
 go_region_law_o (refine step_copy_runI rfl _ _ 251 251 rfl _ _ (by simp[Act.eval,Act.put]) (by simp[Act.eval,Act.put]) (a2 _ _ _) ?_)
 go_wp2_with (at_builtin;refine wpList_copy_runI _ rfl _ _ 251 251 rfl _ _ rfl rfl (a7 _ rfl _ _) ?_)
 go_ret
 exact⟨rfl,by first|rw[withObj_twice]|rw[a1,withObj_twice]⟩
theorem push_set {α:Type} (a:Array α) (x y:α):(a.push x).setIfInBounds a.size y=a.push y:=by
 apply Array.ext';simp
theorem push_twice (a:Array Obj) (x y z:Obj):((a.push x).setIfInBounds a.size y).setIfInBounds a.size z=a.push z:=by
 rw[push_set,push_set]
theorem ins197_grow (w:World) {c q n cap i vb vo m vc:Nat} {cells:Array Value} {e:TypeId} {fr:Nat × Nat} {old new:List Value} (hi:i<n) (hm:0<m) (hnc:n<=cap) (hroom:cap<n+m) (hbig:n+m<=1048576)
 (hc:w.heap[c]?=some (.cells cells e fr)) (hol:old.length=n*2) (hnl:new.length=m*2) (hold:∀j v,old[j]?=some v->cells[q+j]?=some v)
 (hnew:∀j v,new[j]?=some v->w.cell? ⟨vb,vo+j,none⟩=some v) (h1o:∀v ∈ old,oneCell v=true) (h1n:∀v ∈ new,oneCell v=true):
 Calls Tryz.prog 197 #[.slice (some ⟨c,q,none⟩) n cap,.int .i64 i,.slice (some ⟨vb,vo,none⟩) m vc] w fun x w'=>
  ∃(ROW:Array Value) (G:Nat),G<=9223372036854775807/\n+m<=G/\ROW.size=G*2/\(∀j v,j<i*2->old[j]?=some v->ROW[j]?=some v)/\x=.returned (.slice (some ⟨w.heap.size,0,none⟩) (n+m) G) /\
  w'.heap=w.heap.push (.cells (splice (splice ROW (i*2) new) ((i+m)*2) (old.drop (i*2))) 182)/\w'.tape=w.tape/\w'.os=w.os/\w'.output=w.output:=by
 have a1:(Tryz.prog.info? 182).map (fun x=>(x.zero,x.size,x.bytes))=some (some (.agg #[.slice none 0 0,.slice none 0 0]),2,48):=by kernel_rfl
 obtain⟨i0,d6,e4,d7,d8⟩:∃i0,Tryz.prog.info? 182=some i0/\i0.zero=some (.agg #[.slice none 0 0,.slice none 0 0])/\i0.size=2/\i0.bytes=48:=by
  cases hq:Tryz.prog.info? 182 with
  | none=>rw[hq]at a1;cases a1
  | some i0=>
    rw[hq]at a1;simp only[Option.map_some,Option.some.injEq,Prod.mk.injEq]at a1;exact⟨i0,rfl,a1.1,a1.2.1,a1.2.2⟩
 have e9:¬((m:Int)=0):=by omega
 have f0:¬((i:Int)=(n:Int)):=by omega
 have f2:(cap:Int)<(n:Int)+(m:Int):=by omega
 have hs:(Tryz.prog.info? 182).map (·.size)=some 2:=by rw[d6];simp[d7]
 have e1:c<w.heap.size:=(zqA.1 hc).1;have e2:vb<w.heap.size:=by
  obtain⟨v,hv⟩:∃v,new[0]?=some v:=⟨_,zG (by omega)⟩
  exact block_lt_of_cell (hnew 0 v hv)
 have b7:(n:Int)+(m:Int)-(i:Int)=((n+m-i:Nat):Int):=by omega
 have b6:i+(n+m-i)=n+m:=by omega
 have a4:∀(W:World) (d:Nat) (X:Array Value) (e:TypeId) (fr:Nat × Nat),W.heap[d]?=some (.cells X e fr)->∀k v,X[k]?=some v->W.cell? ⟨d,k,none⟩=some v:=fun W d X e fr h k v hk=>by simp[World.cell?,h,hk]
 have a6:(Builtin.firstCells i0.size i (.slice (some ⟨c,q,none⟩) i cap)).run Tryz.prog w.drew=.ok (old.take (i*2)).toArray w.drew:=by
  rw[d7];exact run_firstCells_some w.drew 2 i ⟨c,q,none⟩ i cap (old.take (i*2)) (by rw[List.length_take];omega) (fun j v hj=>by
   rw[Addr.add_lit];rw[List.getElem?_take]at hj
   split at hj
   · exact a4 w c cells e fr hc _ _ (hold j v hj)
   · cases hj)
 have a7:∀ty,(Builtin.append_ #[251,3] ty #[.slice (some ⟨c,q,none⟩) i cap,.int .i64 ((n:Int)+(m:Int)-(i:Int))]).run Tryz.prog w =
    .ok (.slice (some ⟨w.heap.size,0,none⟩) (n+m) (grownCap w (n+m) cap 182)) (w.drew.alloc (.cells ((old.take (i*2)).toArray ++ Builtin.zeroCells (Value.agg #[.slice none 0 0,.slice none 0 0]).cells (n+m-i) ++ Builtin.zeroCells (Value.agg #[.slice none 0 0,.slice none 0 0]).cells (grownCap w (n+m) cap 182-(n+m))) 182)):=fun ty=>by
  have h:=Lib.run_append_grow_zeros w 251 3 ty 182 i0 _ .i64 .i64 Tryz.underlying251 Tryz.underlying3 d6 e4 (some ⟨c,q,none⟩) i cap (old.take (i*2)) a6 (n+m-i) (by omega) (by omega) (by omega) (by omega) (by rw[d8];omega) (by rw[d8,b6];exact growslice_fits hroom (by omega));rw[b6]at h;rw[b7];exact h
 have b8:n+m<=grownCap w (n+m) cap 182:=grownCap_ge w _ _ _;have b0:grownCap w (n+m) cap 182<=9223372036854775807:=by
  have:=grownCap_le_maxLen w (n+m) cap 182 (by unfold maxLen;omega);unfold maxLen at this;omega
 obtain⟨G,hG⟩:=zE (grownCap w (n+m) cap 182);obtain⟨ROW,a3⟩:=zE ((old.take (i*2)).toArray ++ Builtin.zeroCells (Value.agg #[.slice none 0 0,.slice none 0 0]).cells (n+m-i) ++ Builtin.zeroCells (Value.agg #[.slice none 0 0,.slice none 0 0]).cells (G-(n+m)):Array Value);rw[<-hG]at a7 b8 b0;rw[<-a3]at a7;have e3:∀k,(Builtin.zeroCells (Value.agg #[.slice none 0 0,.slice none 0 0]).cells k).size=k*2:=fun k=>by
  simp[Builtin.zeroCells,Value.cells]
 have b9:ROW.size=G*2:=by
  rw[a3];simp only[Array.size_append,e3,List.size_toArray,List.length_take];omega
 have hN:ROW.size=G*2:=b9;obtain⟨W1,a9⟩:=zE (w.drew.alloc (.cells ROW 182));rw[<-a9]at a7;have c5:W1.heap[w.heap.size]?=some (.cells ROW 182):=by rw[a9];exact alloc_new w.drew _
 have a2:∀d,d<w.heap.size->W1.heap[d]?=w.heap[d]?:=fun d hd=>by
  rw[a9];show(w.heap.push _)[d]?=_;rw[Array.getElem?_push_lt hd];simp[hd]
 have c6:∀(W:World),W.heap=W1.heap->∀ty dc,(Builtin.copy_ #[251,251] ty #[.slice (some ⟨w.heap.size,i*2,none⟩) (n+m-i) dc,.slice (some ⟨vb,vo,none⟩) m vc]).run Tryz.prog W=.ok (goInt (Nat.min m (n+m-i))) (withObj W w.heap.size (.cells (splice ROW (i*2) new) 182)):=fun W hW ty dc=>
  zat W 251 251 ty 182 2 Tryz.underlying251 hs (by rw[hnl];simp only[Nat.min_def];split<;>omega)
   (fun j v hj=>by
     rw[Addr.add_lit];have:=hnew j v hj;simp only[World.cell?]at this ⊢;rw[hW,a2 vb e2];exact this) (by rw[hW];exact c5) (by rw[hnl,hN];omega) (fun o _=>by simp) h1n
 have d0:(old.drop (i*2)).length=(n-i)*2:=by rw[List.length_drop,hol];omega
 have d5:∀(W:World),W.heap=(withObj W1 w.heap.size (.cells (splice ROW (i*2) new) 182)).heap->∀ty dc sc,(Builtin.copy_ #[251,251] ty #[.slice (some ⟨w.heap.size,(i+m)*2,none⟩) (n+m-(i+m)) dc,.slice (some ⟨c,q+i*2,none⟩) (n-i) sc]).run Tryz.prog W=.ok (goInt (Nat.min (n-i) (n+m-(i+m)))) (withObj W w.heap.size (.cells (splice (splice ROW (i*2) new) ((i+m)*2) (old.drop (i*2))) 182)):=fun W hW ty dc sc=>
  have b5:w.heap.size<W1.heap.size:=(zqA.1 c5).1
  zat W 251 251 ty 182 2 Tryz.underlying251 hs (by rw[d0];simp only[Nat.min_def];split<;>omega)
   (fun j v hj=>by
     rw[List.getElem?_drop]at hj;rw[Addr.add_lit];refine a4 W c cells e fr ?_ _ _ (by rw[Nat.add_assoc];exact hold _ _ hj);rw[hW,withObj_heap _ _ _ _ b5,if_neg (by omega),a2 c e1];exact hc) (by rw[hW,withObj_heap _ _ _ _ b5,if_pos rfl]) (by rw[d0,splice_size,hN];omega) (fun o _=>by simp) (fun v hv=>h1o v (List.mem_of_mem_drop hv))
 have f3:¬(G=i):=by omega
 have e7:¬(G=i+m):=by omega
 have f4:¬(cap=i):=by omega
 have f5:IntKind.i64.wrap ((i:Int)+(m:Int))=(i:Int)+(m:Int):=by rw[IntKind.wrap_i64];omega
 have f6:(0:Int)<=(i:Int)+(m:Int):=by omega
 have f7:i<=n:=by omega
 have f8:((i:Int)+(m:Int)).toNat=i+m:=by omega
 have f9:(i:Int)<=(n:Int):=by omega
 have mixed:Tryz.prog.follows .mixedOrders=true:=by kernel_rfl
 have a5:∀j v,j<i*2->old[j]?=some v->ROW[j]?=some v:=fun j v hj hv=>by
  rw[a3];have hl:(old.take (i*2)).length=i*2:=by rw[List.length_take,hol];omega
  rw[Array.getElem?_append_left (by simp[hol];omega),Array.getElem?_append_left (by simp[hol];omega)];simp[List.getElem?_take,hj,hv]
 clear b7 b6 a3 hG;go_enter Tryz.func197,Tryz.ntmps197
 go_wp2_with (first
  | (at_builtin;refine Lib.wpList_append_run _ rfl _ _ _ _ rfl _ _ rfl rfl _ _ (a7 _) ?_)
  | (at_builtin;refine wpList_copy_runI _ rfl _ _ 251 251 rfl _ _ rfl rfl (c6 _ rfl _ _) ?_))
 go_region_law_o (refine step_copy_runI rfl _ _ 251 251 rfl (.slice (some ⟨w.heap.size,(i+m)*2,none⟩) (n+m-(i+m)) (G-(i+m))) (.slice (some ⟨c,q+i*2,none⟩) (n-i) (cap-i)) (by simp[Act.eval,Act.put]) (by simp[Act.eval,Act.put]) (d5 ((withObj (w.alloc (.cells ROW 182)).drew w.heap.size (.cells (splice ROW (i*2) new) 182)).drew) (by rw[a9];rfl) 3 (G-(i+m)) (cap-i)) ?_)
 go_wp2
 go_ret
 refine⟨ROW,G,b0,b8,b9,a5,rfl,?_,rfl,rfl,rfl⟩;exact push_twice w.heap _ _ _
theorem ins197_end (w w1:World) {c q n cap vb vo m vc:Nat} {r:Value} (hm:0<m) (hnc:n<=cap)
 (hr:(Builtin.append_ #[251,251] 251 #[.slice (some ⟨c,q,none⟩) n cap,.slice (some ⟨vb,vo,none⟩) m vc]).run Tryz.prog w=.ok r w1):
 Calls Tryz.prog 197 #[.slice (some ⟨c,q,none⟩) n cap,.int .i64 n,.slice (some ⟨vb,vo,none⟩) m vc] w fun x w'=>x=.returned r/\w'=w1:=by
 have a1:¬((m:Int)=0):=by omega
 go_enter Tryz.func197,Tryz.ntmps197
 go_wp2_with (at_builtin;refine Lib.wpList_append_run _ rfl _ _ _ _ rfl _ _ rfl rfl _ _ hr ?_)
 all_goals go_ret
 all_goals exact⟨rfl,rfl⟩
theorem ins199_shift (w:World) {c q n cap i vb vo m vc:Nat} {cells:Array Value} {e:TypeId} {fr:Nat × Nat} {old new:List Value} (hi:i<n) (hm:0<m) (hroom:n+m<=cap) (hbig:n+m<=1048576) (hvb:vb≠c)
 (hc:w.heap[c]?=some (.cells cells e fr)) (hfz:∀o,o<cells.size->¬(fr.1<=o/\o<fr.2)) (hol:old.length=n) (hnl:new.length=m) (hold:∀j v,old[j]?=some v->cells[q+j]?=some v) (hfit:q+(n+m)<=cells.size)
 (hnew:∀j v,new[j]?=some v->w.cell? ⟨vb,vo+j,none⟩=some v) (h1o:∀v ∈ old,oneCell v=true) (h1n:∀v ∈ new,oneCell v=true)
 (tA tB:TypeId) (kA kB:Nat) (hsa:w.shape? vb=some (tA,kA)) (hsb:w.shape? c=some (tB,kB)) (hkB:kB≠0) (hfa:w.frozen? ⟨vb,vo,none⟩=false) (hfe:w.frozen? ⟨vb,kA,none⟩=false):
 Calls Tryz.prog 199 #[.slice (some ⟨c,q,none⟩) n cap,.int .i64 i,.slice (some ⟨vb,vo,none⟩) m vc] w fun x w'=>
  x=.returned (.slice (some ⟨c,q,none⟩) (n+m) cap)/\w'=withObj w.drew c (.cells (splice (splice cells (q+(i+m)) (old.drop (i))) (q+i) new) e fr):=by
 have b6:¬((m:Int)=0):=by omega
 have b7:¬((i:Int)=(n:Int)):=by omega
 have a8:∀lb cb,(callFunc 238 #[.slice (some ⟨vb,vo,none⟩) m vc,.slice (some ⟨c,q+(i+m),none⟩) lb cb]).run Tryz.prog w=.ok (.value (.bool false)) w:=fun lb cb=>by
  rw[run_callFunc_extern Tryz.func238 (by kernel_rfl) (by kernel_rfl) (by kernel_rfl) (e:=Extern.SlicesOverlaps.overlaps #[170,170] #[4]) (by kernel_rfl),
   Lib.run_overlaps_apart w 170 4 251 Tryz.underlying170 1 (fun w=>by kernel_rfl) ⟨vb,vo,none⟩ ⟨c,q+(i+m),none⟩ m vc lb cb hvb tA tB kA kB hsa hsb hkB hfa hfe]
  rfl
 have hs:(Tryz.prog.info? 251).map (·.size)=some 1:=by kernel_rfl
 have b8:IntKind.i64.wrap ((i:Int)+(m:Int))=(i:Int)+(m:Int):=by rw[IntKind.wrap_i64];omega
 have b9:(0:Int)<=(i:Int)+(m:Int):=by omega
 have c5:i<=n:=by omega
 have c6:((i:Int)+(m:Int)).toNat=i+m:=by omega
 have d0:¬(cap=i+m):=by omega
 have d5:(i:Int)<=(n:Int)+(m:Int):=by omega
 have d6:¬(cap=i):=by omega
 have a4:c<w.drew.heap.size:=(zqA.1 hc).1;have a5:(old.drop (i)).length=(n-i):=by rw[List.length_drop,hol]
 have a3:∀(W:World) (X:Array Value),W.heap[c]?=some (.cells X e fr)->∀k v,X[k]?=some v->W.cell? ⟨c,k,none⟩=some v:=fun W X h k v hk=>by simp[World.cell?,h,hk]
 have a6:w.drew.heap[c]?=some (.cells cells e fr):=hc;have a2:∀ty dc sc,(Builtin.copy_ #[170,170] ty #[.slice (some ⟨c,q+(i+m),none⟩) (n+m-(i+m)) dc,.slice (some ⟨c,q+i,none⟩) (n+m-i) sc]).run Tryz.prog w.drew=.ok (goInt (Nat.min (n+m-i) (n+m-(i+m)))) (withObj w.drew c (.cells (splice cells (q+(i+m)) (old.drop (i))) e fr)):=fun ty dc sc=>
  zat w.drew 170 170 ty 251 1 Tryz.underlying170 hs (by rw[a5];simp only[Nat.min_def];split<;>omega)
   (fun j v hj=>by
     rw[List.getElem?_drop]at hj;rw[Addr.add_lit];exact a3 _ _ a6 _ _ (by rw[Nat.add_assoc];exact hold _ _ hj)) a6 (by rw[a5];omega) hfz (fun v hv=>h1o v (List.mem_of_mem_drop hv))
 obtain⟨W1,a1⟩:=zE (withObj w.drew c (.cells (splice cells (q+(i+m)) (old.drop (i))) e fr));have a9:W1.heap[c]?=some (.cells (splice cells (q+(i+m)) (old.drop (i))) e fr):=by rw[a1,withObj_heap _ _ _ _ a4,if_pos rfl]
 have a7:∀(W:World),W.heap=W1.heap->∀ty dc,(Builtin.copy_ #[170,170] ty #[.slice (some ⟨c,q+i,none⟩) (n+m-i) dc,.slice (some ⟨vb,vo,none⟩) m vc]).run Tryz.prog W=.ok (goInt (Nat.min m (n+m-i))) (withObj W c (.cells (splice (splice cells (q+(i+m)) (old.drop (i))) (q+i) new) e fr)):=fun W hW ty dc=>
  zat W 170 170 ty 251 1 Tryz.underlying170 hs (by rw[hnl];simp only[Nat.min_def];split<;>omega)
   (fun j v hj=>by
     rw[Addr.add_lit];have:=hnew j v hj;simp only[World.cell?]at this ⊢;rw[hW,a1,withObj_heap _ _ _ _ a4,if_neg hvb];exact this) (by rw[hW];exact a9) (by rw[hnl,splice_size];omega) (by rw[splice_size];exact hfz) h1n
 rw[<-a1]at a2;have mixed:Tryz.prog.follows .mixedOrders=true:=by kernel_rfl
 go_enter Tryz.func199,Tryz.ntmps199
 go_wp2_with (simp only[a8])
 go_region_law_o (refine step_copy_runI rfl _ _ 170 170 rfl _ _ (by simp[Act.eval,Act.put]) (by simp[Act.eval,Act.put]) (a2 _ _ _) ?_)
 go_wp2_with (at_builtin;refine wpList_copy_runI _ rfl _ _ 170 170 rfl _ _ rfl rfl (a7 _ rfl _ _) ?_)
 go_ret
 exact⟨rfl,by first|rw[withObj_twice]|rw[a1,withObj_twice]⟩
theorem ins199_grow (w:World) {c q n cap i vb vo m vc:Nat} {cells:Array Value} {e:TypeId} {fr:Nat × Nat} {old new:List Value} (hi:i<n) (hm:0<m) (hnc:n<=cap) (hroom:cap<n+m) (hbig:n+m<=1048576)
 (hc:w.heap[c]?=some (.cells cells e fr)) (hol:old.length=n) (hnl:new.length=m) (hold:∀j v,old[j]?=some v->cells[q+j]?=some v)
 (hnew:∀j v,new[j]?=some v->w.cell? ⟨vb,vo+j,none⟩=some v) (h1o:∀v ∈ old,oneCell v=true) (h1n:∀v ∈ new,oneCell v=true):
 Calls Tryz.prog 199 #[.slice (some ⟨c,q,none⟩) n cap,.int .i64 i,.slice (some ⟨vb,vo,none⟩) m vc] w fun x w'=>
  ∃(ROW:Array Value) (G:Nat),G<=9223372036854775807/\n+m<=G/\ROW.size=G/\(∀j v,j<i->old[j]?=some v->ROW[j]?=some v)/\x=.returned (.slice (some ⟨w.heap.size,0,none⟩) (n+m) G) /\
  w'.heap=w.heap.push (.cells (splice (splice ROW (i) new) ((i+m)) (old.drop (i))) 251)/\w'.tape=w.tape/\w'.os=w.os/\w'.output=w.output:=by
 have a1:(Tryz.prog.info? 251).map (fun x=>(x.zero,x.size,x.bytes))=some (some (.slice none 0 0),1,24):=by kernel_rfl
 obtain⟨i0,d6,e4,d7,d8⟩:∃i0,Tryz.prog.info? 251=some i0/\i0.zero=some (.slice none 0 0)/\i0.size=1/\i0.bytes=24:=by
  cases hq:Tryz.prog.info? 251 with
  | none=>rw[hq]at a1;cases a1
  | some i0=>
    rw[hq]at a1;simp only[Option.map_some,Option.some.injEq,Prod.mk.injEq]at a1;exact⟨i0,rfl,a1.1,a1.2.1,a1.2.2⟩
 have e9:¬((m:Int)=0):=by omega
 have f0:¬((i:Int)=(n:Int)):=by omega
 have f2:(cap:Int)<(n:Int)+(m:Int):=by omega
 have hs:(Tryz.prog.info? 251).map (·.size)=some 1:=by rw[d6];simp[d7]
 have e1:c<w.heap.size:=(zqA.1 hc).1;have e2:vb<w.heap.size:=by
  obtain⟨v,hv⟩:∃v,new[0]?=some v:=⟨_,zG (by omega)⟩
  exact block_lt_of_cell (hnew 0 v hv)
 have b7:(n:Int)+(m:Int)-(i:Int)=((n+m-i:Nat):Int):=by omega
 have b6:i+(n+m-i)=n+m:=by omega
 have a4:∀(W:World) (d:Nat) (X:Array Value) (e:TypeId) (fr:Nat × Nat),W.heap[d]?=some (.cells X e fr)->∀k v,X[k]?=some v->W.cell? ⟨d,k,none⟩=some v:=fun W d X e fr h k v hk=>by simp[World.cell?,h,hk]
 have a6:(Builtin.firstCells i0.size i (.slice (some ⟨c,q,none⟩) i cap)).run Tryz.prog w.drew=.ok (old.take (i)).toArray w.drew:=by
  rw[d7];exact run_firstCells_some w.drew 1 i ⟨c,q,none⟩ i cap (old.take (i)) (by rw[List.length_take];omega) (fun j v hj=>by
   rw[Addr.add_lit];rw[List.getElem?_take]at hj
   split at hj
   · exact a4 w c cells e fr hc _ _ (hold j v hj)
   · cases hj)
 have a7:∀ty,(Builtin.append_ #[170,3] ty #[.slice (some ⟨c,q,none⟩) i cap,.int .i64 ((n:Int)+(m:Int)-(i:Int))]).run Tryz.prog w =
    .ok (.slice (some ⟨w.heap.size,0,none⟩) (n+m) (grownCap w (n+m) cap 251)) (w.drew.alloc (.cells ((old.take (i)).toArray ++ Builtin.zeroCells (Value.slice none 0 0).cells (n+m-i) ++ Builtin.zeroCells (Value.slice none 0 0).cells (grownCap w (n+m) cap 251-(n+m))) 251)):=fun ty=>by
  have h:=Lib.run_append_grow_zeros w 170 3 ty 251 i0 _ .i64 .i64 Tryz.underlying170 Tryz.underlying3 d6 e4 (some ⟨c,q,none⟩) i cap (old.take (i)) a6 (n+m-i) (by omega) (by omega) (by omega) (by omega) (by rw[d8];omega) (by rw[d8,b6];exact growslice_fits hroom (by omega));rw[b6]at h;rw[b7];exact h
 have b8:n+m<=grownCap w (n+m) cap 251:=grownCap_ge w _ _ _;have b0:grownCap w (n+m) cap 251<=9223372036854775807:=by
  have:=grownCap_le_maxLen w (n+m) cap 251 (by unfold maxLen;omega);unfold maxLen at this;omega
 obtain⟨G,hG⟩:=zE (grownCap w (n+m) cap 251);obtain⟨ROW,a3⟩:=zE ((old.take (i)).toArray ++ Builtin.zeroCells (Value.slice none 0 0).cells (n+m-i) ++ Builtin.zeroCells (Value.slice none 0 0).cells (G-(n+m)):Array Value);rw[<-hG]at a7 b8 b0;rw[<-a3]at a7;have e3:∀k,(Builtin.zeroCells (Value.slice none 0 0).cells k).size=k:=fun k=>by
  simp[Builtin.zeroCells,Value.cells]
 have b9:ROW.size=G:=by
  rw[a3];simp only[Array.size_append,e3,List.size_toArray,List.length_take];omega
 have hN:ROW.size=G:=b9;obtain⟨W1,a9⟩:=zE (w.drew.alloc (.cells ROW 251));rw[<-a9]at a7;have c5:W1.heap[w.heap.size]?=some (.cells ROW 251):=by rw[a9];exact alloc_new w.drew _
 have a2:∀d,d<w.heap.size->W1.heap[d]?=w.heap[d]?:=fun d hd=>by
  rw[a9];show(w.heap.push _)[d]?=_;rw[Array.getElem?_push_lt hd];simp[hd]
 have c6:∀(W:World),W.heap=W1.heap->∀ty dc,(Builtin.copy_ #[170,170] ty #[.slice (some ⟨w.heap.size,i,none⟩) (n+m-i) dc,.slice (some ⟨vb,vo,none⟩) m vc]).run Tryz.prog W=.ok (goInt (Nat.min m (n+m-i))) (withObj W w.heap.size (.cells (splice ROW (i) new) 251)):=fun W hW ty dc=>
  zat W 170 170 ty 251 1 Tryz.underlying170 hs (by rw[hnl];simp only[Nat.min_def];split<;>omega)
   (fun j v hj=>by
     rw[Addr.add_lit];have:=hnew j v hj;simp only[World.cell?]at this ⊢;rw[hW,a2 vb e2];exact this) (by rw[hW];exact c5) (by rw[hnl,hN];omega) (fun o _=>by simp) h1n
 have d0:(old.drop (i)).length=(n-i):=by rw[List.length_drop,hol]
 have d5:∀(W:World),W.heap=(withObj W1 w.heap.size (.cells (splice ROW (i) new) 251)).heap->∀ty dc sc,(Builtin.copy_ #[170,170] ty #[.slice (some ⟨w.heap.size,(i+m),none⟩) (n+m-(i+m)) dc,.slice (some ⟨c,q+i,none⟩) (n-i) sc]).run Tryz.prog W=.ok (goInt (Nat.min (n-i) (n+m-(i+m)))) (withObj W w.heap.size (.cells (splice (splice ROW (i) new) ((i+m)) (old.drop (i))) 251)):=fun W hW ty dc sc=>
  have b5:w.heap.size<W1.heap.size:=(zqA.1 c5).1
  zat W 170 170 ty 251 1 Tryz.underlying170 hs (by rw[d0];simp only[Nat.min_def];split<;>omega)
   (fun j v hj=>by
     rw[List.getElem?_drop]at hj;rw[Addr.add_lit];refine a4 W c cells e fr ?_ _ _ (by rw[Nat.add_assoc];exact hold _ _ hj);rw[hW,withObj_heap _ _ _ _ b5,if_neg (by omega),a2 c e1];exact hc) (by rw[hW,withObj_heap _ _ _ _ b5,if_pos rfl]) (by rw[d0,splice_size,hN];omega) (fun o _=>by simp) (fun v hv=>h1o v (List.mem_of_mem_drop hv))
 have f3:¬(G=i):=by omega
 have e7:¬(G=i+m):=by omega
 have f4:¬(cap=i):=by omega
 have f5:IntKind.i64.wrap ((i:Int)+(m:Int))=(i:Int)+(m:Int):=by rw[IntKind.wrap_i64];omega
 have f6:(0:Int)<=(i:Int)+(m:Int):=by omega
 have f7:i<=n:=by omega
 have f8:((i:Int)+(m:Int)).toNat=i+m:=by omega
 have f9:(i:Int)<=(n:Int):=by omega
 have mixed:Tryz.prog.follows .mixedOrders=true:=by kernel_rfl
 have a5:∀j v,j<i->old[j]?=some v->ROW[j]?=some v:=fun j v hj hv=>by
  rw[a3];have hl:(old.take (i)).length=i:=by rw[List.length_take,hol];omega
  rw[Array.getElem?_append_left (by simp[hol];omega),Array.getElem?_append_left (by simp[hol];omega)];simp[List.getElem?_take,hj,hv]
 clear b7 b6 a3 hG;go_enter Tryz.func199,Tryz.ntmps199
 go_wp2_with (first
  | (at_builtin;refine Lib.wpList_append_run _ rfl _ _ _ _ rfl _ _ rfl rfl _ _ (a7 _) ?_)
  | (at_builtin;refine wpList_copy_runI _ rfl _ _ 170 170 rfl _ _ rfl rfl (c6 _ rfl _ _) ?_))
 go_region_law_o (refine step_copy_runI rfl _ _ 170 170 rfl (.slice (some ⟨w.heap.size,(i+m),none⟩) (n+m-(i+m)) (G-(i+m))) (.slice (some ⟨c,q+i,none⟩) (n-i) (cap-i)) (by simp[Act.eval,Act.put]) (by simp[Act.eval,Act.put]) (d5 ((withObj (w.alloc (.cells ROW 251)).drew w.heap.size (.cells (splice ROW (i) new) 251)).drew) (by rw[a9];rfl) 3 (G-(i+m)) (cap-i)) ?_)
 go_wp2
 go_ret
 refine⟨ROW,G,b0,b8,b9,a5,rfl,?_,rfl,rfl,rfl⟩;exact push_twice w.heap _ _ _
theorem ins199_end (w w1:World) {c q n cap vb vo m vc:Nat} {r:Value} (hm:0<m) (hnc:n<=cap)
 (hr:(Builtin.append_ #[170,170] 170 #[.slice (some ⟨c,q,none⟩) n cap,.slice (some ⟨vb,vo,none⟩) m vc]).run Tryz.prog w=.ok r w1):
 Calls Tryz.prog 199 #[.slice (some ⟨c,q,none⟩) n cap,.int .i64 n,.slice (some ⟨vb,vo,none⟩) m vc] w fun x w'=>x=.returned r/\w'=w1:=by
 have a1:¬((m:Int)=0):=by omega
 go_enter Tryz.func199,Tryz.ntmps199
 go_wp2_with (at_builtin;refine Lib.wpList_append_run _ rfl _ _ _ _ rfl _ _ rfl rfl _ _ hr ?_)
 all_goals go_ret
 all_goals exact⟨rfl,rfl⟩
theorem walks197:InsWalks Tryz.prog 197 2 251 where
 shift w c q n cap i vb vo m vc cells e fr old new h1 h2 h3 h4 h5 h6 h7 h8 h9 h10 h11 h12 h13 h14 tA tB kA kB h15 h16 h17 h18 h19:=
  ins197_shift w h1 h2 h3 h4 h5 h6 h7 h8 h9 h10 h11 h12 h13 h14 tA tB kA kB h15 h16 h17 h18 h19
 grow w c q n cap i vb vo m vc cells e fr old new h1 h2 h3 h4 h5 h6 h7 h8 h9 h10 h11 h12:=
  (ins197_grow w (vc:=vc) h1 h2 h3 h4 h5 h6 h7 h8 h9 h10 h11 h12).mono fun x w' ⟨ROW,G,_,a⟩=>⟨ROW,G,182,a⟩
 atEnd w w1 c q n cap vb vo m vc r h1 h2 h3:=ins197_end w w1 h1 h2 h3
theorem walks199:InsWalks Tryz.prog 199 1 170 where
 shift w c q n cap i vb vo m vc cells e fr old new h1 h2 h3 h4 h5 h6 h7 h8 h9 h10 h11 h12 h13 h14 tA tB kA kB h15 h16 h17 h18 h19:=by
  simp only[Nat.mul_one]at *
  exact ins199_shift w h1 h2 h3 h4 h5 h6 h7 h8 h9 h10 h11 h12 h13 h14 tA tB kA kB h15 h16 h17 h18 h19
 grow w c q n cap i vb vo m vc cells e fr old new h1 h2 h3 h4 h5 h6 h7 h8 h9 h10 h11 h12:=by
  simp only[Nat.mul_one]at *
  exact(ins199_grow w (vc:=vc) h1 h2 h3 h4 h5 h6 h7 h8 h9 h10 h11 h12).mono fun x w' ⟨ROW,G,_,a⟩=>⟨ROW,G,251,a⟩
 atEnd w w1 c q n cap vb vo m vc r h1 h2 h3:=ins199_end w w1 h1 h2 h3
end Gz

/- Part of the proof. -/
import Derived.Test.YtbhnjkegkadodaaGreatDoorG01
import Derived.Maps.AppendAt
import Derived.WalkSmall
set_option linter.all false
set_option maxRecDepth 100000
set_option maxHeartbeats 8000000
namespace Gn
open Go Go.RowKit
def LB (U:TypeId) (w:World) (g:Nat) (o:List Nat):Prop:=w.heap[g]?=some (.cells (o.map u64).toArray U (0,0))
end Gn
namespace Gn
open Go Go.RowKit
section
variable {U:TypeId} {w w':World} {g:Nat} {o:List Nat}
theorem LB.lt (h:LB U w g o):g<w.heap.size:=(zqA.1 h).1
theorem LB.cell (h:LB U w g o) (i:Nat) (hi:i<o.length):w.cell? ⟨g,i,none⟩=some (u64 o[i]):=by
 unfold LB at h;simp[World.cell?,h,hi]
theorem LB.frozen (h:LB U w g o) (i:Nat):w.frozen? ⟨g,i,none⟩=false:=by
 unfold LB at h;simp[World.frozen?,h]
theorem LB.set (h:LB U w g o) (i x:Nat):LB U (w.setCell ⟨g,i,none⟩ (u64 x)) g (o.set i x):=by
 unfold LB at h ⊢;simp[World.setCell,Array.getElem?_modify,h]
theorem LB.far (h:LB U w g o) {p:Addr} (hp:p.block≠g) (u:Value):LB U (w.setCell p u) g o:=(Below.heap_setCell w p u g (Ne.symm hp)).trans h
theorem LB.alloc (h:LB U w g o) (x:Obj):LB U (w.alloc x) g o:=(Below.heap_alloc w x g h.lt).trans h
theorem LB.drewN (h:LB U w g o) (k:Nat):LB U (w.drewN k) g o:=h
theorem LB.drew (h:LB U w g o):LB U w.drew g o:=h
theorem LB.below {B:Nat} (h:LB U w g o) (hb:Below B w w') (hg:g<B):LB U w' g o:=(hb.block g hg).trans h
theorem LB.only {row:Option Nat} (h:LB U w g o) (hg:w.grownBy w' row) (hne:some g≠row):LB U w' g o:=(hg.block g h.lt hne).trans h
theorem LB.natV (h:LB U w g o) (hl:Lim o) {n c:Nat} (hn:o.length=n) (hc:n<=c) (hm:c<=maxLen):NatV U w (some ⟨g,0,none⟩) n c o:=
 NatV.of_block h hn hc hm hl fun i hi=>by simp[hi]
theorem LB.new (w:World) (o:List Nat):LB U (w.alloc (.cells (o.map u64).toArray U)) w.heap.size o:=heap_alloc_new w _
end
end Gn
namespace Gn
open Go Go.RowKit
theorem LB.zeros (U:TypeId) (w:World) (n:Nat):LB U (w.alloc (.cells (Array.replicate n (u64 0)) U)) w.heap.size (List.replicate n 0):=by
 have h:=LB.new (U:=U) w (List.replicate n 0)
 rwa [List.map_replicate,List.toArray_replicate]at h
def LP (U:TypeId) (w:World) (g:Nat) (o:List Nat):Prop:=∃r:List Value,w.heap[g]?=some (.cells (o.map u64 ++ r).toArray U (0,0))
end Gn
namespace Gn
open Go Go.RowKit
section
variable {U:TypeId} {w w':World} {g:Nat} {o:List Nat}
theorem LB.lp_take (h:LB U w g o) (k:Nat):LP U w g (o.take k):=⟨(o.drop k).map u64,by rw[<-List.map_append,List.take_append_drop];exact h⟩
theorem LB.lp (h:LB U w g o):LP U w g o:=⟨[],by simpa[LB] using h⟩
theorem LP.lt (h:LP U w g o):g<w.heap.size:=by obtain⟨r,h⟩:=h;exact(zqA.1 h).1
theorem LP.cell (h:LP U w g o) (i:Nat) (hi:i<o.length):w.cell? ⟨g,i,none⟩=some (u64 o[i]):=by
 obtain⟨r,h⟩:=h;simp[World.cell?,h,List.getElem?_append_left,hi]
theorem LP.frozen (h:LP U w g o) (i:Nat):w.frozen? ⟨g,i,none⟩=false:=by
 obtain⟨r,h⟩:=h;simp[World.frozen?,h]
theorem LP.set (h:LP U w g o) (i x:Nat) (hi:i<o.length):LP U (w.setCell ⟨g,i,none⟩ (u64 x)) g (o.set i x):=by
 obtain⟨r,h⟩:=h;refine⟨r,?_⟩;simp[World.setCell,Array.getElem?_modify,h,List.set_append_left,hi]
theorem LP.far (h:LP U w g o) {p:Addr} (hp:p.block≠g) (u:Value):LP U (w.setCell p u) g o:=by
 obtain⟨r,h⟩:=h;exact⟨r,(Below.heap_setCell w p u g (Ne.symm hp)).trans h⟩
theorem LP.alloc (h:LP U w g o) (x:Obj):LP U (w.alloc x) g o:=by
 have hl:=h.lt;obtain⟨r,h⟩:=h;exact⟨r,(Below.heap_alloc w x g hl).trans h⟩
theorem LP.drewN (h:LP U w g o) (k:Nat):LP U (w.drewN k) g o:=h
theorem LP.below {B:Nat} (h:LP U w g o) (hb:Below B w w') (hg:g<B):LP U w' g o:=by
 obtain⟨r,h⟩:=h;exact⟨r,(hb.block g hg).trans h⟩
theorem LP.natV (h:LP U w g o) (hl:Lim o) {n c:Nat} (hn:o.length=n) (hc:n<=c) (hm:c<=maxLen):NatV U w (some ⟨g,0,none⟩) n c o:=by
 obtain⟨r,h⟩:=h;exact NatV.of_block h hn hc hm hl fun i hi=>by simp[List.getElem?_append_left,hi]
theorem LP.of_own {base:Nat} {A:Option Addr} {n c:Nat} (h:w.ownsRow base U 1 (.slice A n c) n (o.map u64)) (hn:0<n):∃g,A=some ⟨g,0,none⟩/\base<=g/\LP U w g o/\n<=c/\c<=maxLen:=by
 rcases h.2 with⟨_,h0⟩|⟨g,cap,cur,e,hb,hh,hnc,hm,_,ht⟩
 · omega
 · injection e with e1 _ e3
   subst e1 e3;refine⟨g,rfl,hb,⟨cur.toList.drop (n*1),?_⟩,hnc,hm⟩;rw[hh,<-ht,List.take_append_drop]
end
end Gn
namespace Gn
open Go Go.RowKit
theorem own_new {U:TypeId} {w w0:World} {A:Option Addr} {n c:Nat} {xs:List Value} (h:w.ownsRow w0.heap.size U 1 (.slice A n c) n xs):NewA w0 A:=by
 rcases h.2 with⟨e,h0⟩|⟨g,cap,cur,e,hb,hh,hnc,hm,_,ht⟩
 · injection e with e1 _ _
   subst e1;exact NewA.nil _
 · injection e with e1 _ e3
   subst e1;exact NewA.mk hb
theorem NatV.of_own {U:TypeId} {w:World} {base:Nat} {A:Option Addr} {n c:Nat} {l:List Nat} (h:w.ownsRow base U 1 (.slice A n c) n (l.map u64)) (hl:Lim l):NatV U w A n c l:=by
 have a1:l.length=n:=by simpa using h.1
 rcases h.2 with⟨e,h0⟩|⟨g,cap,cur,e,_,hh,hnc,hm,_,ht⟩
 · injection e with e1 e2 e3
   subst e1 h0 e3;have:l=[]:=List.eq_nil_of_length_eq_zero a1;subst this;exact NatV.nil U w
 · injection e with e1 _ e3
   subst e1 e3;refine⟨a1,hnc,hm,hl,fun _=>⟨g,0,rfl,cur,_,_,hh,fun i v hv=>?_⟩⟩;rw[Nat.zero_add];rw[<-ht,List.getElem?_take]at hv
   split at hv
   · simpa using hv
   · cases hv
theorem ownsRow_form {w:World} {base:Nat} {e:TypeId} {size:Nat} {v:Value} {n:Nat} {xs:List Value} (h:w.ownsRow base e size v n xs):∃A c,v=.slice A n c:=by
 rcases h.2 with⟨e,h0⟩|⟨g,cap,cur,e,_⟩
 · subst h0;exact⟨_,_,e⟩
 · exact⟨_,_,e⟩
def Src (w:World) (A:Option Addr) (m:Nat) (news:List Value):Prop:=
 0<m->∃b off,A=some ⟨b,off,none⟩/\∀(j:Nat) (u:Value),news[j]?=some u->w.cell? ⟨b,off+j,none⟩=some u
theorem Src.of_natV {U:TypeId} {w:World} {A:Option Addr} {n c:Nat} {l:List Nat} (h:NatV U w A n c l):Src w A n (l.map u64):=fun hn=>by
 obtain⟨b,off,e,hr⟩:=h.row hn;exact⟨b,off,e,fun j u hu=>hr.cell j u hu⟩
end Gn
namespace Gn
open Go Go.RowKit
section
variable {P:Program} (w:World)
theorem run_append_src (base:Nat) (t ty e:TypeId) (i:TypeInfo) (z:Value) (size bytes:Nat) (ht:P.underlying t=some (.slice e)) (hi:P.info? e=some i) (hz:i.zero=some z)
 (hsize:i.size=size) (hby:i.bytes=bytes) (hzs:z.cells.size=size) (hsz:0<size)
 (v:Value) (n:Nat) (xs:List Value) (hown:w.ownsRow base e size v n xs)
 (A:Option Addr) (m c:Nat) (news:List Value) (hl:news.length=m*size) (hsrc:Src w A m news) (h1:∀u ∈ news,u.oneCell'=true)
 (h63:n+m<=maxLen) (hbytes:(n+m)*bytes<=140737488355328) (hbase:base<=w.heap.size):
 ∃v' w',(Builtin.append_ #[t,t] ty #[v,.slice A m c]).run P w=.ok v' w'/\w'.ownsRow base e size v' (n+m) (xs ++ news)/\w.grownBy w' v.ownBlock /\
  (v'.ownBlock=v.ownBlock\/v'.ownBlock=some w.heap.size):=by
 cases A with
 | none=>
   have hm:m=0:=by
    rcases Nat.eq_zero_or_pos m with h0|h0
    · exact h0
    · obtain⟨b,off,h,_⟩:=hsrc h0;cases h
   subst hm;have hn:news=[]:=List.eq_nil_of_length_eq_zero (by simpa using hl);subst hn;refine⟨v,w,?_,by simpa using hown,⟨rfl,rfl,rfl,zR _,fun _ _ _=>rfl⟩,.inl rfl⟩;rcases hown.2 with⟨rfl,rfl⟩|⟨g,cap,cur,rfl,_,_,hnc,_⟩
   · simp[Builtin.append_,run_underlying ht,Go.sizeOf,typeInfo,hi,Builtin.lenOf,Builtin.firstCells]
   · simp[Builtin.append_,run_underlying ht,Go.sizeOf,typeInfo,hi,Builtin.lenOf,Builtin.firstCells,hnc,storeCells]
 | some ad=>
   have a1:∀j u,news[j]?=some u->w.cell? (ad.add j)=some u:=by
    intro j u hu;rcases Nat.eq_zero_or_pos m with h0|h0
    · subst h0;have hn:news=[]:=List.eq_nil_of_length_eq_zero (by simpa using hl);subst hn;simp at hu
    · obtain⟨b,off,h,hc⟩:=hsrc h0
      injection h with h
      subst h;have:=hc j u hu
      rwa [show(⟨b,off,none⟩:Addr).add j=⟨b,off+j,none⟩ from by unfold Addr.add;split<;>simp_all]
   obtain⟨v',w',hr,h2,h3,_,h5⟩:=run_append_own_at (P:=P) w base t ty e i z size bytes ht hi hz hsize hby hzs hsz v n xs hown ad m c news hl a1 h1 h63 hbytes hbase;exact⟨v',w',hr,h2,h3,h5⟩
theorem wpList_append_src {ops:Array Oper} {rest:List Oper} {o:Oper} {a:Act} {Q:Exit->Act->World->Prop} (hgd:o.guard=none) (s x:Operand) (t:TypeId)
 (ho:o.op=.call { callee:=.builtin .append,args:=#[s,x],argTypes:=#[t,t] })
 (base:Nat) (e:TypeId) (i:TypeInfo) (z:Value) (size bytes:Nat) (ht:P.underlying t=some (.slice e)) (hi:P.info? e=some i) (hz:i.zero=some z)
 (hsize:i.size=size) (hby:i.bytes=bytes) (hzs:z.cells.size=size) (hsz:0<size)
 (v:Value) (n:Nat) (xs:List Value) (hs:a.eval s=v) (hown:w.ownsRow base e size v n xs)
 (A:Option Addr) (m c:Nat) (news:List Value) (hx:a.eval x=.slice A m c) (hl:news.length=m*size) (hsrc:Src w A m news) (h1:∀u ∈ news,u.oneCell'=true)
 (h63:n+m<=maxLen) (hbytes:(n+m)*bytes<=140737488355328) (hbase:base<=w.heap.size)
 (h:∀A' c' w',w'.ownsRow base e size (.slice A' (n+m) c') (n+m) (xs ++ news)->w.grownBy w' v.ownBlock → ((Value.slice A' (n+m) c').ownBlock=v.ownBlock\/(Value.slice A' (n+m) c').ownBlock=some w.heap.size)->wpList P ops Q rest (a.put o.dst (.slice A' (n+m) c')) w'):
 wpList P ops Q (o :: rest) a w:=by
 refine wpList_plain hgd fun K hK=>?_
 obtain⟨v',w',hr,h2,h3,h4⟩:=run_append_src (P:=P) w base t o.type e i z size bytes ht hi hz hsize hby hzs hsz v n xs hown A m c news hl hsrc h1 h63 hbytes hbase;obtain⟨A',c',rfl⟩:=ownsRow_form h2;unfold Oper.wp execOp;simp only[ho,resolve,invoke,builtin,Sem.run_bind,Sem.run_pure,Result.andThen_ok,List.map_toArray,List.map_cons,List.map_nil,hs,hx,hr];exact hK _ _ (h A' c' w' h2 h3 h4)
end
end Gn
namespace Gn
open Go Go.RowKit
theorem run_make_limbs {P:Program} (t U:TypeId) (i:TypeInfo) (ht:P.underlying t=some (.slice U)) (hi:P.info? U=some i) (hz:i.zero=some (.int .u64 0)) (hs:i.size=1) (hb:i.bytes=8)
 (n:Nat) (hn:n<=1073741824) (w:World):
 (Instr.makeSlice t (.int .i64 (n:Int)) (.int .i64 (n:Int))).run P w=.ok (.slice (some ⟨w.heap.size,0,none⟩) n n) (w.alloc (.cells ((List.replicate n 0).map u64).toArray U)):=by
 have hr:=run_make (P:=P) w t U i (.int .u64 0) ht hi hz .i64 .i64 n n (by omega) (by omega) (by rw[hb];omega) (by omega);simp only[Int.toNat_natCast,hs,Nat.mul_one]at hr;rw[hr];have e:madeCells (Value.int .u64 0).cells n=((List.replicate n 0).map u64).toArray:=by
  apply Array.ext';apply List.ext_getElem
  · simp[madeCells]
  · intro j h1 h2;simp[madeCells,Value.cells,Nat.mod_one]
 rw[e]
theorem zao {a w:World} {g:Nat} (h:a.grownBy w (some g)) {p:Addr} (hp:p.block=g) (u:Value):a.grownBy (w.setCell p u) (some g):=
 ⟨h.os,h.tape,h.output,by simpa[World.setCell] using h.size,fun i hi hne=>(Below.heap_setCell w p u i (by rintro rfl;exact hne (by rw[hp]))).trans (h.block i hi hne)⟩
theorem NatV.grown {U:TypeId} {w w':World} {A:Option Addr} {n c:Nat} {l:List Nat} {row:Option Nat} (h:NatV U w A n c l) (hg:w.grownBy w' row) (hne:∀b off,0<n->A=some ⟨b,off,none⟩->some b≠row):NatV U w' A n c l:=
 ⟨h.len,h.le,h.max,h.lim,fun hn=>let ⟨b,off,e,hr⟩:=h.row hn;⟨b,off,e,by
   have hlt:=hr.lt;obtain⟨cs,f,t',hh,hc⟩:=hr;exact⟨cs,f,t',(hg.block b hlt (hne b off hn e)).trans hh,hc⟩⟩⟩
end Gn
theorem zqH {p:Prop} (h:p):Go.RowKit.Hid p:=Go.Lib.hid h
theorem zqB (w:Go.World) (a:Go.Addr) {x:Go.Value} (h:w.cell? a=some x):a.block<w.heap.size:=Go.World.block_lt_of_cell? w a h
theorem zqP:(∀(l:List Go.Value) i a,l.toArray.setIfInBounds i a=(l.set i a).toArray)∧(∀(x:Go.Value) l a,(x::l).set 0 a=a::l)∧(∀(x:Go.Value) l n a,(x::l).set (n+1) a=x::l.set n a):=⟨fun l i a=>List.setIfInBounds_toArray l i a,fun _ _ _=>rfl,fun _ _ _ _=>rfl⟩
namespace Gl
open Go Go.RowKit
structure Upd (S:Nat->Prop) (w w':World):Prop where
 os:w'.os=w.os
 output:w'.output=w.output
 tape:w'.tape=w.tape
 size:w.heap.size<=w'.heap.size
 block:∀c,c<w.heap.size->¬S c->w'.heap[c]?=w.heap[c]?
abbrev New (w w':World):Prop:=Upd (fun _=>False) w w'
end Gl
namespace Gl
open Go Go.RowKit
section
variable {S S':Nat->Prop} {w w' w'':World}
theorem Upd.refl (S:Nat->Prop) (w:World):Upd S w w:=⟨rfl,rfl,rfl,zR _,fun _ _ _=>rfl⟩
theorem Upd.trans (h:Upd S w w') (h':Upd S w' w''):Upd S w w'':=
 ⟨h'.os.trans h.os,h'.output.trans h.output,h'.tape.trans h.tape,zT h.size h'.size,fun c hc hn=>(h'.block c (zqL hc h.size) hn).trans (h.block c hc hn)⟩
theorem Upd.mono (h:Upd S w w') (hs:∀c,c<w.heap.size->S c->S' c):Upd S' w w':=⟨h.os,h.output,h.tape,h.size,fun c hc hn=>h.block c hc (fun hh=>hn (hs c hc hh))⟩
theorem Upd.then (h:Upd S w w') (h':Upd S' w' w'') (hs:∀c,c<w.heap.size->S' c->S c):Upd S w w'':=
 ⟨h'.os.trans h.os,h'.output.trans h.output,h'.tape.trans h.tape,zT h.size h'.size,fun c hc hn=>(h'.block c (zqL hc h.size) (fun hh=>hn (hs c hc hh))).trans (h.block c hc hn)⟩
theorem Upd.drew (h:Upd S w w'):Upd S w w'.drew:=⟨h.os,h.output,h.tape,h.size,h.block⟩
theorem Upd.drewN (h:Upd S w w') (n:Nat):Upd S w (w'.drewN n):=⟨h.os,h.output,h.tape,h.size,h.block⟩
theorem Upd.of_drew (h:Upd S w.drew w'):Upd S w w':=⟨h.os,h.output,h.tape,h.size,h.block⟩
theorem Upd.alloc (S:Nat->Prop) (w:World) (o:Obj):Upd S w (w.alloc o):=
 ⟨rfl,rfl,rfl,by show w.heap.size<=(w.heap.push o).size;simp,fun c hc _=>by show(w.heap.push o)[c]?=_;rw[Array.getElem?_push_lt hc];simp[hc]⟩
theorem zU (S:Nat->Prop) (w:Go.World) (o:Go.Obj):Upd S w (w.alloc o):=Upd.alloc S w o
theorem Upd.setCell {a:Addr} (w:World) (v:Value) (hs:S a.block):Upd S w (w.setCell a v):=
 ⟨rfl,rfl,rfl,by simp[World.setCell],fun c hc hn=>by
   have hne:c≠a.block:=fun e=>hn (e▸hs);simp only[World.setCell,Array.getElem?_modify];rw[if_neg (Ne.symm hne)]⟩
theorem Upd.of_grown {r:Option Nat} (h:w.grownBy w' r) (hs:∀c,r=some c->S c):Upd S w w':=
 ⟨h.os,h.output,h.tape,h.size,fun c hc hn=>h.block c hc (fun e=>hn (hs c e.symm))⟩
theorem Upd.frozen (h:Upd S w w') {a:Addr} (ha:a.block<w.heap.size) (hn:¬S a.block):w'.frozen? a=w.frozen? a:=by
 simp only[World.frozen?,h.block _ ha hn]
theorem Upd.cell (h:Upd S w w') {a:Addr} (ha:a.block<w.heap.size) (hn:¬S a.block):w'.cell? a=w.cell? a:=by
 simp only[World.cell?,h.block _ ha hn]
end
end Gl
namespace Gl
open Go Go.RowKit
def Row (w:World) (b off:Nat) (xs:List Value):Prop:=b<w.heap.size/\∀i v,xs[i]?=some v->w.cell? ⟨b,off+i,none⟩=some v
end Gl
namespace Gl
open Go Go.RowKit
section
variable {S:Nat->Prop} {w w':World} {b off:Nat} {xs:List Value}
theorem Row.upd (h:Row w b off xs) (hu:Upd S w w') (hn:¬S b):Row w' b off xs:=⟨zqL h.1 hu.size,fun i v hv=>(hu.cell (a:=⟨b,off+i,none⟩) h.1 hn).trans (h.2 i v hv)⟩
theorem Row.drop (h:Row w b off xs) (n:Nat):Row w b (off+n) (xs.drop n):=⟨h.1,fun i v hv=>by rw[Nat.add_assoc];exact h.2 _ v (by rwa [List.getElem?_drop]at hv)⟩
theorem Row.take (h:Row w b off xs) (n:Nat):Row w b off (xs.take n):=⟨h.1,fun i v hv=>by
 rw[List.getElem?_take]at hv
 split at hv
 · exact h.2 i v hv
 · cases hv⟩
end
end Gl
namespace Gl
open Go Go.RowKit
structure Sl (k:Nat) (w:World) (A:Option Addr) (n c:Nat) (xs:List Value):Prop where
 len:xs.length=n*k
 le:n<=c
 max:c<=maxLen
 row:0<n->∃b off,A=some ⟨b,off,none⟩/\Row w b off xs
 nil:A=none->c=0
def Away (S:Nat->Prop) (A:Option Addr) (n:Nat):Prop:=∀a,A=some a → 0<n->¬S a.block
end Gl
namespace Gl
open Go Go.RowKit
section
variable {S:Nat->Prop} {w w':World} {A:Option Addr} {k n c:Nat} {xs:List Value}
theorem Sl.upd (h:Sl k w A n c xs) (hu:Upd S w w') (hn:Away S A n):Sl k w' A n c xs:=
 ⟨h.len,h.le,h.max,fun h0=>let ⟨b,off,e,hr⟩:=h.row h0;⟨b,off,e,hr.upd hu (hn _ e h0)⟩,h.nil⟩
theorem Sl.new (h:Sl k w A n c xs) (hu:New w w'):Sl k w' A n c xs:=h.upd hu (fun _ _ _=>id)
theorem Sl.nilS (k:Nat) (w:World):Sl k w none 0 0 []:=⟨by simp,zR _,Nat.zero_le _,fun h=>absurd h (by omega),fun _=>rfl⟩
theorem Sl.lt (h:Sl k w A n c xs) {a:Addr} (ha:A=some a) (hn:0<n):a.block<w.heap.size:=by
 obtain⟨b,off,e,hr⟩:=h.row hn;rw[ha]at e
 injection e with e
 subst e;exact hr.1
theorem Sl.drewN (h:Sl k w A n c xs) (m:Nat):Sl k (w.drewN m) A n c xs:=⟨h.len,h.le,h.max,fun h0=>let ⟨b,off,e,hr⟩:=h.row h0;⟨b,off,e,hr.1,hr.2⟩,h.nil⟩
end
end Gl
namespace Gl
open Go Go.RowKit
abbrev u8 (n:Nat):Value:=.int .u8 (n:Int)
abbrev u64 (n:Nat):Value:=.int .u64 (n:Int)
def Small (bs:List Nat):Prop:=∀b ∈ bs,b<256
structure By (w:World) (A:Option Addr) (n c:Nat) (bs:List Nat):Prop where
 sl:Sl 1 w A n c (bs.map u8)
 small:Small bs
end Gl
namespace Gl
open Go Go.RowKit
section
variable {S:Nat->Prop} {w w':World} {A:Option Addr} {n c:Nat} {bs:List Nat}
theorem By.len (h:By w A n c bs):bs.length=n:=by have:=h.sl.len;simpa using this
theorem By.upd (h:By w A n c bs) (hu:Upd S w w') (hn:Away S A n):By w' A n c bs:=⟨h.sl.upd hu hn,h.small⟩
theorem By.new (h:By w A n c bs) (hu:New w w'):By w' A n c bs:=⟨h.sl.new hu,h.small⟩
theorem By.nil (w:World):By w none 0 0 []:=⟨Sl.nilS 1 w,fun b hb=>by cases hb⟩
theorem By.cell (h:By w A n c bs) {b off:Nat} (hA:A=some ⟨b,off,none⟩) (i:Nat) (hi:i<bs.length):w.cell? ⟨b,off+i,none⟩=some (u8 bs[i]):=by
 obtain⟨b',a1,e,hr⟩:=h.sl.row (by have:=h.len;omega);rw[hA]at e
 injection e with e
 injection e with e1 e2
 subst e1 e2;exact hr.2 i _ (by simp[hi])
theorem By.addr (h:By w A n c bs) (hn:0<n):∃b off,A=some ⟨b,off,none⟩/\b<w.heap.size:=by
 obtain⟨b,off,e,hr⟩:=h.sl.row hn;exact⟨b,off,e,hr.1⟩
end
end Gl
namespace Gl
open Go Go.RowKit
theorem run_shr_nat {P:Program} (x m:Nat) (y:Int) (hy:y=(m:Int)) (hm:m<=64) (w:World):(Op.shift .shr .u64 (x:Int) .i64 y).run P w=.ok (.int .u64 ((x / 2 ^ m:Nat):Int)) w:=by
 subst hy;have h1:¬((m:Int)<0):=by omega
 have h2:min m (IntKind.bits .u64)=m:=by show min m 64=m;omega
 have h3:(x:Int).fdiv (2 ^ m)=((x / 2 ^ m:Nat):Int):=by
  rw[Int.fdiv_eq_ediv_of_nonneg _ (by exact Int.le_of_lt (Int.pow_pos (by decide)))];simp
 simp only[Op.shift,if_neg h1,Int.toNat_natCast,h2,h3]
 rfl
theorem wrap_u8_nat (y:Nat):IntKind.u8.wrap (y:Int)=((y % 256:Nat):Int):=by
 simp[IntKind.wrap,IntKind.bits,IntKind.signed]
theorem or_bytes {X v:Nat} (hX:X<72057594037927936) (hv:v<256):bits .or .u64 (IntKind.u64.wrap ((X:Int)*256)) (IntKind.u64.wrap (v:Int))=((X*256+v:Nat):Int):=by
 have h1:IntKind.u64.wrap ((X:Int)*256)=((X*256:Nat):Int):=by simp[IntKind.wrap,IntKind.bits,IntKind.signed];omega
 have h2:IntKind.u64.wrap (v:Int)=(v:Int):=by simp[IntKind.wrap,IntKind.bits,IntKind.signed];omega
 rw[h1,h2];have h3:(BitVec.ofInt (IntKind.bits .u64) ((X*256:Nat):Int) ||| BitVec.ofInt (IntKind.bits .u64) (v:Int)).toNat=X*256+v:=by
  rw[BitVec.toNat_or,BitVec.toNat_ofInt,BitVec.toNat_ofInt];have e1:(((X*256:Nat):Int) % ((2 ^ IntKind.bits .u64:Nat):Int)).toNat=2 ^ 8*X:=by simp[IntKind.bits];omega
  have e2:((v:Int) % ((2 ^ IntKind.bits .u64:Nat):Int)).toNat=v:=by simp[IntKind.bits];omega
  rw[e1,e2,<-Nat.two_pow_add_eq_or_of_lt (i:=8) hv X];omega
 show IntKind.u64.wrap ((BitVec.ofInt (IntKind.bits .u64) ((X*256:Nat):Int) ||| BitVec.ofInt (IntKind.bits .u64) (v:Int)).toNat:Int)=_
 rw[h3];simp[IntKind.wrap,IntKind.bits,IntKind.signed];omega
def be:Nat->Nat->List Nat
 | 0,_=>[]
 | n+1,x=>x / 2 ^ (8*n) % 256 :: be n x
theorem zah:∀n x,(be n x).length=n
 | 0,_=>rfl
 | n+1,x=>by simp[be,zah n x]
theorem be_small:∀n x,Small (be n x)
 | 0,_,b,hb=>by cases hb
 | n+1,x,b,hb=>by
   simp only[be,List.mem_cons]at hb;rcases hb with rfl|hb
   · exact Nat.mod_lt _ (by omega)
   · exact be_small n x b hb
theorem be_get:∀(n x i:Nat),i<n → (be n x)[i]?=some (x / 2 ^ (8*(n-1-i)) % 256)
 | 0,x,i,h=>by omega
 | n+1,x,0,_=>by simp[be]
 | n+1,x,i+1,h=>by
   simp only[be,List.getElem?_cons_succ];rw[be_get n x i (by omega),show n+1-1-(i+1)=n-1-i by omega]
theorem be_take {k j x:Nat} (h0:0<j) (hj:j<=k):(be k x).take (k-j) ++ [x / 2 ^ (8*(j-1)) % 256]=(be k x).take (k-(j-1)):=by
 rw[show k-(j-1)=(k-j)+1 by omega,List.take_add_one,be_get k x (k-j) (by omega),show k-1-(k-j)=j-1 by omega]
 rfl
theorem Small.append {a b:List Nat} (ha:Small a) (hb:Small b):Small (a ++ b):=fun x hx=>(List.mem_append.1 hx).elim (ha x) (hb x)
def num (bs:List Nat):Nat:=bs.foldl (fun x b=>x*256+b) 0
end Gl
namespace F1
open Gl
theorem pow28 (k:Nat):2 ^ (8*k)=256 ^ k:=by rw[Nat.pow_mul]
theorem be_mod:∀(n m p:Nat),n<=m->be n (p % 256 ^ m)=be n p
 | 0,_,_,_=>rfl
 | n+1,m,p,h=>by
   simp only[be];rw[be_mod n m p (by omega),pow28]
   congr 1
   obtain⟨d,rfl⟩:∃d,m=n+(d+1):=⟨m-n-1,by omega⟩
   rw[Nat.pow_add,Nat.mod_mul_right_div_self,Nat.mod_mod_of_dvd];exact⟨256 ^ d,by rw[Nat.pow_succ,Nat.mul_comm]⟩
theorem blt_self_cons (x:Nat) (a b:Bs):blt (x :: a) (x :: b)=blt a b:=by simp[blt]
theorem blt_pre:∀(p a b:Bs),blt (p ++ a) (p ++ b)=blt a b
 | [],_,_=>rfl
 | x :: p,a,b=>by rw[List.cons_append,List.cons_append,blt_self_cons,blt_pre p]
theorem blt_be:∀(n p q:Nat),p<256 ^ n->q<256 ^ n->blt (be n p) (be n q)=decide (p<q)
 | 0,p,q,hp,hq=>by
   simp at hp hq;subst hp hq;rfl
 | n+1,p,q,hp,hq=>by
   have h0:0<256 ^ n:=Nat.pow_pos (by decide);have ep:p / 256 ^ n<256:=Nat.div_lt_of_lt_mul (by rw[Nat.pow_succ]at hp;exact hp);have eq:q / 256 ^ n<256:=Nat.div_lt_of_lt_mul (by rw[Nat.pow_succ]at hq;exact hq);have hp1:=Nat.div_add_mod p (256 ^ n);have hq1:=Nat.div_add_mod q (256 ^ n);have hp2:=Nat.mod_lt p h0;have hq2:=Nat.mod_lt q h0;simp only[be,pow28,Nat.mod_eq_of_lt ep,Nat.mod_eq_of_lt eq];unfold blt;rw[<-be_mod n n p (zR _),<-be_mod n n q (zR _),blt_be n _ _ hp2 hq2];by_cases h1:p / 256 ^ n<q / 256 ^ n
   · rw[if_pos h1];have:p<q:=by
      have h3:256 ^ n*(p / 256 ^ n+1)<=256 ^ n*(q / 256 ^ n):=Nat.mul_le_mul_left _ h1;rw[Nat.mul_add]at h3;omega
     simp[this]
   · rw[if_neg h1];by_cases h2:q / 256 ^ n<p / 256 ^ n
     · rw[if_pos h2];have:¬p<q:=by
        have h3:256 ^ n*(q / 256 ^ n+1)<=256 ^ n*(p / 256 ^ n):=Nat.mul_le_mul_left _ h2;rw[Nat.mul_add]at h3;omega
       simp[this]
     · rw[if_neg h2];have e:p / 256 ^ n=q / 256 ^ n:=(by omega);rw[e]at hp1;have:(p % 256 ^ n<q % 256 ^ n)↔p<q:=(by omega);simp[this]
theorem blt_be8 {p q:Nat} (hp:p<18446744073709551616) (hq:q<18446744073709551616):blt (be 8 p) (be 8 q)=decide (p<q):=blt_be 8 p q (by simpa using hp) (by simpa using hq)
def hk (p:Nat):Bs:=118 :: (be 8 16 ++ 104 :: be 8 p)
def ck (p:Nat):Bs:=118 :: (be 8 16 ++ 115 :: be 8 p)
abbrev Small64 (p:Nat):Prop:=p<18446744073709551616
theorem blt_hh {p q:Nat} (hp:Small64 p) (hq:Small64 q):blt (hk p) (hk q)=decide (p<q):=by
 unfold hk;rw[blt_self_cons,blt_pre,blt_self_cons,blt_be8 hp hq]
theorem blt_cc {p q:Nat} (hp:Small64 p) (hq:Small64 q):blt (ck p) (ck q)=decide (p<q):=by
 unfold ck;rw[blt_self_cons,blt_pre,blt_self_cons,blt_be8 hp hq]
theorem blt_hc (p q:Nat):blt (hk p) (ck q)=true:=by
 unfold hk ck;rw[blt_self_cons,blt_pre];simp[blt]
theorem blt_ch (p q:Nat):blt (ck p) (hk q)=false:=by
 unfold hk ck;rw[blt_self_cons,blt_pre];simp[blt]
theorem hk_beq {p q:Nat} (hp:Small64 p) (hq:Small64 q):(hk p == hk q)=(p == q):=by
 rw[Bool.eq_iff_iff,beq_iff_eq,beq_iff_eq];refine⟨fun h=>?_,fun h=>by rw[h]⟩;have h1:=blt_hh hp hq;have h2:=blt_hh hq hp;rw[h,zax]at h1;rw[<-h,zax]at h2;have h1:=of_decide_eq_false h1.symm;have h2:=of_decide_eq_false h2.symm;omega
theorem ck_ne_hk (p q:Nat):(ck p == hk q)=false:=by
 have h:=blt_ne (blt_hc q p);simp[Ne.symm h]
def nb (x:Nat):Nat:=if x=0 then 0 else x.log2 / 8+1
def encH (r c:Nat):Bs:=nb r :: (be (nb r) r ++ be 8 c)
def encC (b a:Nat):Bs:=be 8 b ++ be 8 a
theorem nb_lt (x:Nat):x<256 ^ nb x:=by
 unfold nb;by_cases h:x=0
 · rw[if_pos h,h];decide
 · rw[if_neg h];have h1:=Nat.lt_log2_self (n:=x);refine zqL h1 ?_
   rw[<-pow28];exact Nat.pow_le_pow_right (by decide) (by omega)
theorem nb_le {x k:Nat} (h:x<256 ^ k):nb x<=k:=by
 unfold nb;by_cases h0:x=0
 · rw[if_pos h0];omega
 · rw[if_neg h0];have h1:2 ^ x.log2<=x:=Nat.log2_self_le h0;have h2:2 ^ x.log2<2 ^ (8*k):=by rw[pow28];exact Nat.lt_of_le_of_lt h1 h
   have h3:=(Nat.pow_lt_pow_iff_right (by decide:1<2)).1 h2;omega
theorem num_be (n x:Nat) (h:x<256 ^ n):num (be n x)=x:=by
 have key:∀(n acc x:Nat),(be n x).foldl (fun a b=>a*256+b) acc=acc*256 ^ n+x % 256 ^ n:=by
  intro n
  induction n with
  | zero=>intro acc x;simp[be,Nat.mod_one]
  | succ n ih=>
    intro acc x;simp only[be,List.foldl_cons];rw[ih,pow28];have h1:x % 256 ^ (n+1)=256 ^ n*(x / 256 ^ n % 256)+x % 256 ^ n:=by
     rw[Nat.pow_succ,Nat.mod_mul];omega
    rw[h1,Nat.pow_succ,Nat.add_mul];have:acc*256*256 ^ n=acc*(256 ^ n*256):=(by rw[Nat.mul_assoc,Nat.mul_comm 256]);rw[this,Nat.mul_comm (256 ^ n) (x / 256 ^ n % 256)];omega
 show(be n x).foldl _ 0=x
 rw[key,Nat.zero_mul,Nat.zero_add,Nat.mod_eq_of_lt h]
abbrev Rec:=Nat × Nat × Nat
structure Sta where
 h:List Rec
 c:List Rec
def entH (x:Rec):Ent:=(hk x.1,encH x.2.1 x.2.2)
def entC (x:Rec):Ent:=(ck x.1,encC x.2.1 x.2.2)
def ents (S:Sta):List Ent:=S.h.map entH ++ S.c.map entC
def putR (l:List Rec) (x:Rec):List Rec:=l.filter (fun y=>decide (y.1<x.1)) ++ x :: l.filter (fun y=>decide (x.1<y.1))
def delR (l:List Rec) (p:Nat):List Rec:=l.filter fun y=>!(y.1 == p)
def findR (l:List Rec) (p:Nat):Option Rec:=l.find? fun y=>y.1 == p
structure Fine (S:Sta):Prop where
 h:∀x ∈ S.h,Small64 x.1
 c:∀x ∈ S.c,Small64 x.1
theorem put_h {S:Sta} (hS:Fine S) {p:Nat} (hp:Small64 p) (r c:Nat):put (ents S) (hk p) (encH r c)=ents { S with h:=putR S.h (p,r,c) }:=by
 have h1:(S.h.map entH).filter (fun e=>blt e.1 (hk p))=(S.h.filter (fun y=>decide (y.1<p))).map entH:=by
  rw[List.filter_map];congr 1;exact List.filter_congr fun x hx=>blt_hh (hS.h x hx) hp
 have h2:(S.h.map entH).filter (fun e=>blt (hk p) e.1)=(S.h.filter (fun y=>decide (p<y.1))).map entH:=by
  rw[List.filter_map];congr 1;exact List.filter_congr fun x hx=>blt_hh hp (hS.h x hx)
 have h3:(S.c.map entC).filter (fun e=>blt e.1 (hk p))=[]:=List.filter_eq_nil_iff.2 fun e he=>by
  obtain⟨x,_,rfl⟩:=List.mem_map.1 he;simp[entC,blt_ch]
 have h4:(S.c.map entC).filter (fun e=>blt (hk p) e.1)=S.c.map entC:=List.filter_eq_self.2 fun e he=>by
  obtain⟨x,_,rfl⟩:=List.mem_map.1 he;exact blt_hc _ _
 unfold put ents;rw[List.filter_append,List.filter_append,h1,h2,h3,h4];simp[putR,entH]
theorem put_c {S:Sta} (hS:Fine S) {p:Nat} (hp:Small64 p) (b a:Nat):put (ents S) (ck p) (encC b a)=ents { S with c:=putR S.c (p,b,a) }:=by
 have h1:(S.c.map entC).filter (fun e=>blt e.1 (ck p))=(S.c.filter (fun y=>decide (y.1<p))).map entC:=by
  rw[List.filter_map];congr 1;exact List.filter_congr fun x hx=>blt_cc (hS.c x hx) hp
 have h2:(S.c.map entC).filter (fun e=>blt (ck p) e.1)=(S.c.filter (fun y=>decide (p<y.1))).map entC:=by
  rw[List.filter_map];congr 1;exact List.filter_congr fun x hx=>blt_cc hp (hS.c x hx)
 have h3:(S.h.map entH).filter (fun e=>blt (ck p) e.1)=[]:=List.filter_eq_nil_iff.2 fun e he=>by
  obtain⟨x,_,rfl⟩:=List.mem_map.1 he;simp[entH,blt_ch]
 have h4:(S.h.map entH).filter (fun e=>blt e.1 (ck p))=S.h.map entH:=List.filter_eq_self.2 fun e he=>by
  obtain⟨x,_,rfl⟩:=List.mem_map.1 he;exact blt_hc _ _
 unfold put ents;rw[List.filter_append,List.filter_append,h1,h2,h3,h4];simp[putR,entC]
theorem del_h {S:Sta} (hS:Fine S) {p:Nat} (hp:Small64 p):del (ents S) (hk p)=ents { S with h:=delR S.h p }:=by
 have h1:(S.h.map entH).filter (fun e=>e.1 != hk p)=(S.h.filter fun y=>!(y.1 == p)).map entH:=by
  rw[List.filter_map];congr 1;exact List.filter_congr fun x hx=>by show(!(hk x.1 == hk p))=_;rw[hk_beq (hS.h x hx) hp]
 have h2:(S.c.map entC).filter (fun e=>e.1 != hk p)=S.c.map entC:=List.filter_eq_self.2 fun e he=>by
  obtain⟨x,_,rfl⟩:=List.mem_map.1 he;show(!(ck x.1 == hk p))=true;rw[ck_ne_hk];rfl
 unfold del ents;rw[List.filter_append,h1,h2];rfl
theorem get_h {S:Sta} (hS:Fine S) {p:Nat} (hp:Small64 p):get (ents S) (hk p)=(findR S.h p).map fun x=>encH x.2.1 x.2.2:=by
 have h1:(S.h.map entH).find? (fun e=>e.1 == hk p)=(findR S.h p).map entH:=by
  rw[List.find?_map];congr 1;have:∀l:List Rec,(∀x ∈ l,Small64 x.1)->l.find? ((fun e:Ent=>e.1 == hk p) ∘ entH)=l.find? (fun y=>y.1 == p):=by
   intro l
   induction l with
   | nil=>intro _;rfl
   | cons x l ih=>
     intro h;have e:((fun e:Ent=>e.1 == hk p) ∘ entH) x=(x.1 == p):=hk_beq (h x List.mem_cons_self) hp;rw[List.find?_cons,List.find?_cons,e,ih fun y hy=>h y (List.mem_cons_of_mem _ hy)]
  exact this S.h hS.h
 have h2:(S.c.map entC).find? (fun e=>e.1 == hk p)=none:=List.find?_eq_none.2 fun e he=>by
  obtain⟨x,_,rfl⟩:=List.mem_map.1 he;simp[entC,ck_ne_hk]
 unfold Gl.get ents;rw[List.find?_append,h1,h2];cases findR S.h p<;>rfl
theorem Fine.putH {S:Sta} (hS:Fine S) {p:Nat} (hp:Small64 p) (r c:Nat):Fine { S with h:=putR S.h (p,r,c) }:=
 ⟨fun x hx=>by
   simp only[putR,List.mem_append,List.mem_cons,List.mem_filter]at hx;rcases hx with hx|rfl|hx
   · exact hS.h x hx.1
   · exact hp
   · exact hS.h x hx.1,hS.c⟩
theorem Fine.putC {S:Sta} (hS:Fine S) {p:Nat} (hp:Small64 p) (b a:Nat):Fine { S with c:=putR S.c (p,b,a) }:=
 ⟨hS.h,fun x hx=>by
   simp only[putR,List.mem_append,List.mem_cons,List.mem_filter]at hx;rcases hx with hx|rfl|hx
   · exact hS.c x hx.1
   · exact hp
   · exact hS.c x hx.1⟩
def hist (S:Sta) (p:Nat):Nat × Nat:=((findR S.h p).map (·.2)).getD (0,0)
def refer (S:Sta) (p:Nat):Sta:={ S with h:=putR S.h (p,(hist S p).1,(hist S p).2+1) }
def free (S:Sta) (p:Nat):Sta:=
 if(hist S p).2=0 then S else if(hist S p).2=1 then { S with h:=delR S.h p } else { S with h:=putR S.h (p,(hist S p).1,(hist S p).2-1) }
def close (S:Sta) (per tok cur:Nat):Sta:=
 free { S with h:=putR S.h (per,(hist S (per-1)).1+(if tok=0 then 0 else cur / tok),1) } (per-1)
end F1
namespace Gl
def sz (L:List Ent):Nat:=(L.map fun e=>1+e.1.length+e.2.length).sum
theorem mem_put {L:List Ent} {k v:Bs} {e:Ent} (h:e ∈ put L k v):e=(k,v)\/e ∈ L:=by
 rw[put,List.mem_append,List.mem_cons]at h;rcases h with h|h|h
 · exact .inr (List.mem_filter.1 h).1
 · exact .inl h
 · exact .inr (List.mem_filter.1 h).1
end Gl

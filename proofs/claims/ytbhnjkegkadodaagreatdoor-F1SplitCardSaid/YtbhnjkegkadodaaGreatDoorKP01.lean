/- A part of the proof of the statement of this seat: no condition. -/
import Derived.WalkKit
import Derived.Maps.AppendAt
import Derived.Laws.MakeOwn
import Derived.WalkSmall
import Derived.Lib.Hide
import Derived.Deep.RegionLaw
set_option linter.unusedVariables false
set_option linter.unusedSimpArgs false
set_option maxRecDepth 100000
set_option maxHeartbeats 8000000
namespace Gl
open Go Go.RowKit
structure Upd (S:Nat->Prop) (w w':World):Prop where
 os:w'.os=w.os
 output:w'.output=w.output
 tape:w'.tape=w.tape
 size:w.heap.size<=w'.heap.size
 block:∀c,c<w.heap.size->¬S c->w'.heap[c]?=w.heap[c]?
abbrev New (w w':World):Prop:=Upd (fun _=>False) w w'
end Gl
namespace Gl
open Go Go.RowKit
section
variable {S S':Nat->Prop} {w w' w'':World}
theorem Upd.refl (S:Nat->Prop) (w:World):Upd S w w:=⟨rfl,rfl,rfl,Nat.le_refl _,fun _ _ _=>rfl⟩
theorem Upd.trans (h:Upd S w w') (h':Upd S w' w''):Upd S w w'':=
 ⟨h'.os.trans h.os,h'.output.trans h.output,h'.tape.trans h.tape,Nat.le_trans h.size h'.size,fun c hc hn=>(h'.block c (Nat.lt_of_lt_of_le hc h.size) hn).trans (h.block c hc hn)⟩
theorem Upd.mono (h:Upd S w w') (hs:∀c,c<w.heap.size->S c->S' c):Upd S' w w':=⟨h.os,h.output,h.tape,h.size,fun c hc hn=>h.block c hc (fun hh=>hn (hs c hc hh))⟩
theorem Upd.then (h:Upd S w w') (h':Upd S' w' w'') (hs:∀c,c<w.heap.size->S' c->S c):Upd S w w'':=
 ⟨h'.os.trans h.os,h'.output.trans h.output,h'.tape.trans h.tape,Nat.le_trans h.size h'.size,fun c hc hn=>(h'.block c (Nat.lt_of_lt_of_le hc h.size) (fun hh=>hn (hs c hc hh))).trans (h.block c hc hn)⟩
theorem Upd.drew (h:Upd S w w'):Upd S w w'.drew:=⟨h.os,h.output,h.tape,h.size,h.block⟩
theorem Upd.drewN (h:Upd S w w') (n:Nat):Upd S w (w'.drewN n):=⟨h.os,h.output,h.tape,h.size,h.block⟩
theorem Upd.of_drew (h:Upd S w.drew w'):Upd S w w':=⟨h.os,h.output,h.tape,h.size,h.block⟩
theorem Upd.alloc (S:Nat->Prop) (w:World) (o:Obj):Upd S w (w.alloc o):=
 ⟨rfl,rfl,rfl,by show w.heap.size<=(w.heap.push o).size;simp,fun c hc _=>by show(w.heap.push o)[c]?=_;rw[Array.getElem?_push_lt hc];simp[hc]⟩
theorem Upd.setCell {a:Addr} (w:World) (v:Value) (hs:S a.block):Upd S w (w.setCell a v):=
 ⟨rfl,rfl,rfl,by simp[World.setCell],fun c hc hn=>by
   have hne:c≠a.block:=fun e=>hn (e▸hs)
   simp only[World.setCell,Array.getElem?_modify]
   rw[if_neg (Ne.symm hne)]⟩
theorem Upd.of_grown {r:Option Nat} (h:w.grownBy w' r) (hs:∀c,r=some c->S c):Upd S w w':=
 ⟨h.os,h.output,h.tape,h.size,fun c hc hn=>h.block c hc (fun e=>hn (hs c e.symm))⟩
theorem Upd.frozen (h:Upd S w w') {a:Addr} (ha:a.block<w.heap.size) (hn:¬S a.block):w'.frozen? a=w.frozen? a:=by
 simp only[World.frozen?,h.block _ ha hn]
theorem Upd.cell (h:Upd S w w') {a:Addr} (ha:a.block<w.heap.size) (hn:¬S a.block):w'.cell? a=w.cell? a:=by
 simp only[World.cell?,h.block _ ha hn]
end
end Gl
namespace Gl
open Go Go.RowKit
def Row (w:World) (b off:Nat) (xs:List Value):Prop:=b<w.heap.size/\∀i v,xs[i]?=some v->w.cell? ⟨b,off+i,none⟩=some v
end Gl
namespace Gl
open Go Go.RowKit
section
variable {S:Nat->Prop} {w w':World} {b off:Nat} {xs:List Value}
theorem Row.upd (h:Row w b off xs) (hu:Upd S w w') (hn:¬S b):Row w' b off xs:=⟨Nat.lt_of_lt_of_le h.1 hu.size,fun i v hv=>(hu.cell (a:=⟨b,off+i,none⟩) h.1 hn).trans (h.2 i v hv)⟩
theorem Row.drop (h:Row w b off xs) (n:Nat):Row w b (off+n) (xs.drop n):=⟨h.1,fun i v hv=>by rw[Nat.add_assoc];exact h.2 _ v (by rwa [List.getElem?_drop]at hv)⟩
theorem Row.take (h:Row w b off xs) (n:Nat):Row w b off (xs.take n):=⟨h.1,fun i v hv=>by
 rw[List.getElem?_take]at hv
 split at hv
 · exact h.2 i v hv
 · cases hv⟩
end
end Gl
namespace Gl
open Go Go.RowKit
structure Sl (k:Nat) (w:World) (A:Option Addr) (n c:Nat) (xs:List Value):Prop where
 len:xs.length=n*k
 le:n<=c
 max:c<=maxLen
 row:0<n->∃b off,A=some ⟨b,off,none⟩/\Row w b off xs
 nil:A=none->c=0
def Away (S:Nat->Prop) (A:Option Addr) (n:Nat):Prop:=∀a,A=some a → 0<n->¬S a.block
end Gl
namespace Gl
open Go Go.RowKit
section
variable {S:Nat->Prop} {w w':World} {A:Option Addr} {k n c:Nat} {xs:List Value}
theorem Sl.upd (h:Sl k w A n c xs) (hu:Upd S w w') (hn:Away S A n):Sl k w' A n c xs:=
 ⟨h.len,h.le,h.max,fun h0=>let ⟨b,off,e,hr⟩:=h.row h0;⟨b,off,e,hr.upd hu (hn _ e h0)⟩,h.nil⟩
theorem Sl.new (h:Sl k w A n c xs) (hu:New w w'):Sl k w' A n c xs:=h.upd hu (fun _ _ _=>id)
theorem Sl.nilS (k:Nat) (w:World):Sl k w none 0 0 []:=⟨by simp,Nat.le_refl _,Nat.zero_le _,fun h=>absurd h (by omega),fun _=>rfl⟩
theorem Sl.lt (h:Sl k w A n c xs) {a:Addr} (ha:A=some a) (hn:0<n):a.block<w.heap.size:=by
 obtain⟨b,off,e,hr⟩:=h.row hn
 rw[ha]at e
 injection e with e
 subst e
 exact hr.1
theorem Sl.drewN (h:Sl k w A n c xs) (m:Nat):Sl k (w.drewN m) A n c xs:=⟨h.len,h.le,h.max,fun h0=>let ⟨b,off,e,hr⟩:=h.row h0;⟨b,off,e,hr.1,hr.2⟩,h.nil⟩
end
end Gl
namespace Gl
open Go Go.RowKit
abbrev u8 (n:Nat):Value:=.int .u8 (n:Int)
abbrev u64 (n:Nat):Value:=.int .u64 (n:Int)
def Small (bs:List Nat):Prop:=∀b ∈ bs,b<256
structure By (w:World) (A:Option Addr) (n c:Nat) (bs:List Nat):Prop where
 sl:Sl 1 w A n c (bs.map u8)
 small:Small bs
end Gl
namespace Gl
open Go Go.RowKit
section
variable {S:Nat->Prop} {w w':World} {A:Option Addr} {n c:Nat} {bs:List Nat}
theorem By.len (h:By w A n c bs):bs.length=n:=by have:=h.sl.len;simpa using this
theorem By.upd (h:By w A n c bs) (hu:Upd S w w') (hn:Away S A n):By w' A n c bs:=⟨h.sl.upd hu hn,h.small⟩
theorem By.new (h:By w A n c bs) (hu:New w w'):By w' A n c bs:=⟨h.sl.new hu,h.small⟩
theorem By.nil (w:World):By w none 0 0 []:=⟨Sl.nilS 1 w,fun b hb=>by cases hb⟩
theorem By.cell (h:By w A n c bs) {b off:Nat} (hA:A=some ⟨b,off,none⟩) (i:Nat) (hi:i<bs.length):w.cell? ⟨b,off+i,none⟩=some (u8 bs[i]):=by
 obtain⟨b',off',e,hr⟩:=h.sl.row (by have:=h.len;omega)
 rw[hA]at e
 injection e with e
 injection e with e1 e2
 subst e1 e2
 exact hr.2 i _ (by simp[hi])
theorem By.addr (h:By w A n c bs) (hn:0<n):∃b off,A=some ⟨b,off,none⟩/\b<w.heap.size:=by
 obtain⟨b,off,e,hr⟩:=h.sl.row hn
 exact⟨b,off,e,hr.1⟩
end
end Gl
namespace Gl
open Go Go.RowKit
theorem run_shr_nat {P:Program} (x m:Nat) (y:Int) (hy:y=(m:Int)) (hm:m<=64) (w:World):(Op.shift .shr .u64 (x:Int) .i64 y).run P w=.ok (.int .u64 ((x / 2 ^ m:Nat):Int)) w:=by
 subst hy
 have h1:¬((m:Int)<0):=by omega
 have h2:min m (IntKind.bits .u64)=m:=by show min m 64=m;omega
 have h3:(x:Int).fdiv (2 ^ m)=((x / 2 ^ m:Nat):Int):=by
  rw[Int.fdiv_eq_ediv_of_nonneg _ (by exact Int.le_of_lt (Int.pow_pos (by decide)))]
  simp
 simp only[Op.shift,if_neg h1,Int.toNat_natCast,h2,h3]
 rfl
theorem wrap_u8_nat (y:Nat):IntKind.u8.wrap (y:Int)=((y % 256:Nat):Int):=by
 simp[IntKind.wrap,IntKind.bits,IntKind.signed]
theorem or_bytes {X v:Nat} (hX:X<72057594037927936) (hv:v<256):bits .or .u64 (IntKind.u64.wrap ((X:Int)*256)) (IntKind.u64.wrap (v:Int))=((X*256+v:Nat):Int):=by
 have h1:IntKind.u64.wrap ((X:Int)*256)=((X*256:Nat):Int):=by simp[IntKind.wrap,IntKind.bits,IntKind.signed];omega
 have h2:IntKind.u64.wrap (v:Int)=(v:Int):=by simp[IntKind.wrap,IntKind.bits,IntKind.signed];omega
 rw[h1,h2]
 have h3:(BitVec.ofInt (IntKind.bits .u64) ((X*256:Nat):Int) ||| BitVec.ofInt (IntKind.bits .u64) (v:Int)).toNat=X*256+v:=by
  rw[BitVec.toNat_or,BitVec.toNat_ofInt,BitVec.toNat_ofInt]
  have e1:(((X*256:Nat):Int) % ((2 ^ IntKind.bits .u64:Nat):Int)).toNat=2 ^ 8*X:=by simp[IntKind.bits];omega
  have e2:((v:Int) % ((2 ^ IntKind.bits .u64:Nat):Int)).toNat=v:=by simp[IntKind.bits];omega
  rw[e1,e2,<-Nat.two_pow_add_eq_or_of_lt (i:=8) hv X]
  omega
 show IntKind.u64.wrap ((BitVec.ofInt (IntKind.bits .u64) ((X*256:Nat):Int) ||| BitVec.ofInt (IntKind.bits .u64) (v:Int)).toNat:Int)=_
 rw[h3]
 simp[IntKind.wrap,IntKind.bits,IntKind.signed];omega
def be:Nat->Nat->List Nat
 | 0,_=>[]
 | n+1,x=>x / 2 ^ (8*n) % 256 :: be n x
theorem be_length:∀n x,(be n x).length=n
 | 0,_=>rfl
 | n+1,x=>by simp[be,be_length n x]
theorem be_small:∀n x,Small (be n x)
 | 0,_,b,hb=>by cases hb
 | n+1,x,b,hb=>by
   simp only[be,List.mem_cons]at hb
   rcases hb with rfl|hb
   · exact Nat.mod_lt _ (by omega)
   · exact be_small n x b hb
theorem be_get:∀(n x i:Nat),i<n → (be n x)[i]?=some (x / 2 ^ (8*(n-1-i)) % 256)
 | 0,x,i,h=>by omega
 | n+1,x,0,_=>by simp[be]
 | n+1,x,i+1,h=>by
   simp only[be,List.getElem?_cons_succ]
   rw[be_get n x i (by omega),show n+1-1-(i+1)=n-1-i by omega]
theorem be_take {k j x:Nat} (h0:0<j) (hj:j<=k):(be k x).take (k-j) ++ [x / 2 ^ (8*(j-1)) % 256]=(be k x).take (k-(j-1)):=by
 rw[show k-(j-1)=(k-j)+1 by omega,List.take_add_one,be_get k x (k-j) (by omega),show k-1-(k-j)=j-1 by omega]
 rfl
theorem Small.append {a b:List Nat} (ha:Small a) (hb:Small b):Small (a ++ b):=fun x hx=>(List.mem_append.1 hx).elim (ha x) (hb x)
def num (bs:List Nat):Nat:=bs.foldl (fun x b=>x*256+b) 0
theorem ownsRow_form {w:World} {base:Nat} {e:TypeId} {size:Nat} {v:Value} {n:Nat} {xs:List Value} (h:w.ownsRow base e size v n xs):∃A c,v=.slice A n c:=by
 rcases h.2 with⟨e,h0⟩|⟨g,cap,cur,e,_⟩
 · subst h0;exact⟨_,_,e⟩
 · exact⟨_,_,e⟩
theorem ownsRow_keep {w w':World} {base:Nat} {e:TypeId} {size:Nat} {v:Value} {n:Nat} {xs:List Value} (h:w.ownsRow base e size v n xs) (hk:∀c,v.ownBlock=some c->c<w.heap.size->w'.heap[c]?=w.heap[c]?):w'.ownsRow base e size v n xs:=by
 refine⟨h.1,?_⟩
 rcases h.2 with h0|⟨g,cap,cur,rfl,h2,h3,h4⟩
 · exact .inl h0
 · exact .inr ⟨g,cap,cur,rfl,h2,(hk g rfl (Array.getElem?_eq_some_iff.1 h3).1).trans h3,h4⟩
theorem ownsRow_alloc {w:World} {base:Nat} {e:TypeId} {size:Nat} {v:Value} {n:Nat} {xs:List Value} (h:w.ownsRow base e size v n xs) (o:Obj) {W:World} (hW:W.heap=w.heap.push o):W.ownsRow base e size v n xs:=
 ownsRow_keep h fun c _ hc=>by rw[hW,Array.getElem?_push_lt hc];simp[hc]
theorem ownsRow_lt {w:World} {base:Nat} {e:TypeId} {size:Nat} {v:Value} {n:Nat} {xs:List Value} (h:w.ownsRow base e size v n xs) {c:Nat} (hc:v.ownBlock=some c):c<w.heap.size/\base<=c:=by
 rcases h.2 with⟨rfl,_⟩|⟨g,cap,cur,rfl,h2,h3,h4⟩
 · cases hc
 · cases hc;exact⟨(Array.getElem?_eq_some_iff.1 h3).1,h2⟩
theorem Sl.of_own {w:World} {base:Nat} {e:TypeId} {k:Nat} {A:Option Addr} {n c:Nat} {xs:List Value} (h:w.ownsRow base e k (.slice A n c) n xs):Sl k w A n c xs:=by
 rcases h.2 with⟨e,h0⟩|⟨g,cap,cur,e,_,hh,hnc,hm,_,ht⟩
 · injection e with e1 e2 e3
   subst e1 h0 e3
   exact⟨h.1,Nat.le_refl _,Nat.zero_le _,fun h=>absurd h (by omega),fun _=>rfl⟩
 · injection e with e1 _ e3
   subst e1 e3
   refine⟨h.1,hnc,hm,fun _=>⟨g,0,rfl,(Array.getElem?_eq_some_iff.1 hh).1,fun i v hv=>?_⟩,fun e=>by cases e⟩
   rw[<-ht,List.getElem?_take]at hv
   split at hv
   · simp only[World.cell?,hh,Nat.zero_add];simpa using hv
   · cases hv
theorem By.of_own {w:World} {base:Nat} {e:TypeId} {A:Option Addr} {n c:Nat} {bs:List Nat} (h:w.ownsRow base e 1 (.slice A n c) n (bs.map u8)) (hs:Small bs):By w A n c bs:=⟨Sl.of_own h,hs⟩
def Src (w:World) (A:Option Addr) (m:Nat) (news:List Value):Prop:=
 0<m->∃b off,A=some ⟨b,off,none⟩/\∀(j:Nat) (u:Value),news[j]?=some u->w.cell? ⟨b,off+j,none⟩=some u
end Gl
namespace Gl
open Go Go.RowKit
section
variable {P:Program} (w:World)
theorem Src.of_sl {k:Nat} {w:World} {A:Option Addr} {n c:Nat} {xs:List Value} (h:Sl k w A n c xs):Src w A n xs:=fun hn=>by
 obtain⟨b,off,e,hr⟩:=h.row hn
 exact⟨b,off,e,fun j u hu=>hr.2 j u hu⟩
theorem run_append_src (base:Nat) (t ty e:TypeId) (i:TypeInfo) (z:Value) (size bytes:Nat) (ht:P.underlying t=some (.slice e)) (hi:P.info? e=some i) (hz:i.zero=some z)
 (hsize:i.size=size) (hby:i.bytes=bytes) (hzs:z.cells.size=size) (hsz:0<size)
 (v:Value) (n:Nat) (xs:List Value) (hown:w.ownsRow base e size v n xs)
 (A:Option Addr) (m c:Nat) (news:List Value) (hl:news.length=m*size) (hsrc:Src w A m news) (h1:∀u ∈ news,u.oneCell'=true)
 (h63:n+m<=maxLen) (hbytes:(n+m)*bytes<=140737488355328) (hbase:base<=w.heap.size):
 ∃v' w',(Builtin.append_ #[t,t] ty #[v,.slice A m c]).run P w=.ok v' w'/\w'.ownsRow base e size v' (n+m) (xs ++ news)/\w.grownBy w' v.ownBlock /\
  (v'.ownBlock=v.ownBlock\/v'.ownBlock=some w.heap.size):=by
 cases A with
 | none=>
   have hm:m=0:=by
    rcases Nat.eq_zero_or_pos m with h0|h0
    · exact h0
    · obtain⟨b,off,h,_⟩:=hsrc h0;cases h
   subst hm
   have hn:news=[]:=List.eq_nil_of_length_eq_zero (by simpa using hl)
   subst hn
   refine⟨v,w,?_,by simpa using hown,⟨rfl,rfl,rfl,Nat.le_refl _,fun _ _ _=>rfl⟩,.inl rfl⟩
   rcases hown.2 with⟨rfl,rfl⟩|⟨g,cap,cur,rfl,_,_,hnc,_⟩
   · simp[Builtin.append_,run_underlying ht,Go.sizeOf,typeInfo,hi,Builtin.lenOf,Builtin.firstCells]
   · simp[Builtin.append_,run_underlying ht,Go.sizeOf,typeInfo,hi,Builtin.lenOf,Builtin.firstCells,hnc,storeCells]
 | some ad=>
   have hnews:∀j u,news[j]?=some u->w.cell? (ad.add j)=some u:=by
    intro j u hu
    rcases Nat.eq_zero_or_pos m with h0|h0
    · subst h0
      have hn:news=[]:=List.eq_nil_of_length_eq_zero (by simpa using hl)
      subst hn;simp at hu
    · obtain⟨b,off,h,hc⟩:=hsrc h0
      injection h with h
      subst h
      have:=hc j u hu
      rwa [show(⟨b,off,none⟩:Addr).add j=⟨b,off+j,none⟩ from by unfold Addr.add;split<;>simp_all]
   obtain⟨v',w',hr,h2,h3,_,h5⟩:=run_append_own_at (P:=P) w base t ty e i z size bytes ht hi hz hsize hby hzs hsz v n xs hown ad m c news hl hnews h1 h63 hbytes hbase
   exact⟨v',w',hr,h2,h3,h5⟩
theorem wpList_append_src {ops:Array Oper} {rest:List Oper} {o:Oper} {a:Act} {Q:Exit->Act->World->Prop} (hgd:o.guard=none) (s x:Operand) (t:TypeId)
 (ho:o.op=.call { callee:=.builtin .append,args:=#[s,x],argTypes:=#[t,t] })
 (base:Nat) (e:TypeId) (i:TypeInfo) (z:Value) (size bytes:Nat) (ht:P.underlying t=some (.slice e)) (hi:P.info? e=some i) (hz:i.zero=some z)
 (hsize:i.size=size) (hby:i.bytes=bytes) (hzs:z.cells.size=size) (hsz:0<size)
 (v:Value) (n:Nat) (xs:List Value) (hs:a.eval s=v) (hown:w.ownsRow base e size v n xs)
 (A:Option Addr) (m c:Nat) (news:List Value) (hx:a.eval x=.slice A m c) (hl:news.length=m*size) (hsrc:Src w A m news) (h1:∀u ∈ news,u.oneCell'=true)
 (h63:n+m<=maxLen) (hbytes:(n+m)*bytes<=140737488355328) (hbase:base<=w.heap.size)
 (h:∀A' c' w',w'.ownsRow base e size (.slice A' (n+m) c') (n+m) (xs ++ news)->w.grownBy w' v.ownBlock → ((Value.slice A' (n+m) c').ownBlock=v.ownBlock\/(Value.slice A' (n+m) c').ownBlock=some w.heap.size)->wpList P ops Q rest (a.put o.dst (.slice A' (n+m) c')) w'):
 wpList P ops Q (o :: rest) a w:=by
 refine wpList_plain hgd fun K hK=>?_
 obtain⟨v',w',hr,h2,h3,h4⟩:=run_append_src (P:=P) w base t o.type e i z size bytes ht hi hz hsize hby hzs hsz v n xs hown A m c news hl hsrc h1 h63 hbytes hbase
 obtain⟨A',c',rfl⟩:=ownsRow_form h2
 unfold Oper.wp execOp
 simp only[ho,resolve,invoke,builtin,Sem.run_bind,Sem.run_pure,Result.andThen_ok,List.map_toArray,List.map_cons,List.map_nil,hs,hx,hr]
 exact hK _ _ (h A' c' w' h2 h3 h4)
end
end Gl
namespace Gl
open Go Go.RowKit
section
variable {P:Program}
theorem step_append_src {ops:Array Oper} {o:Oper} {a:Act} {w:World} {K:Act->World->Prop} {Q:Exit->Act->World->Prop} {E:Prop}
 (hg:o.guard=none) (s x:Operand) (t:TypeId) (hop:o.op=Op.call { callee:=Callee.builtin Builtin.append,args:=#[s,x],argTypes:=#[t,t] })
 (base:Nat) (e:TypeId) (i:TypeInfo) (z:Value) (size bytes:Nat) (ht:P.underlying t=some (.slice e)) (hi:P.info? e=some i) (hz:i.zero=some z)
 (hsize:i.size=size) (hby:i.bytes=bytes) (hzs:z.cells.size=size) (hsz:0<size)
 (v:Value) (n:Nat) (xs:List Value) (hs:a.eval s=v) (hown:w.ownsRow base e size v n xs)
 (A:Option Addr) (m c:Nat) (news:List Value) (hx:a.eval x=.slice A m c) (hl:news.length=m*size) (hsrc:Src w A m news) (h1:∀u ∈ news,u.oneCell'=true)
 (h63:n+m<=maxLen) (hbytes:(n+m)*bytes<=140737488355328) (hbase:base<=w.heap.size)
 (hK:∀A' c' w',w'.ownsRow base e size (.slice A' (n+m) c') (n+m) (xs ++ news)->w.grownBy w' v.ownBlock → ((Value.slice A' (n+m) c').ownBlock=v.ownBlock\/(Value.slice A' (n+m) c').ownBlock=some w.heap.size)->K (a.put o.dst (.slice A' (n+m) c')) w'):
 if Region.wanted o (yielded ops a.tmps)=true then Oper.wp P o a w K Q else E:=by
 have hw:Region.wanted o (yielded ops a.tmps)=true:=by simp[Region.wanted,hg]
 rw[if_pos hw]
 obtain⟨v',w',hr,h2,h3,h4⟩:=run_append_src (P:=P) w base t o.type e i z size bytes ht hi hz hsize hby hzs hsz v n xs hown A m c news hl hsrc h1 h63 hbytes hbase
 obtain⟨A',c',rfl⟩:=ownsRow_form h2
 unfold Oper.wp execOp
 simp only[hop,resolve,invoke,builtin,Sem.run_bind,Sem.run_pure,Result.andThen_ok,List.map_toArray,List.map_cons,List.map_nil,hs,hx,hr]
 exact hK _ _ _ h2 h3 h4
end
end Gl
namespace Gl
abbrev Bs:=List Nat
def blt:Bs->Bs->Bool
 | [],[]=>false
 | [],_ :: _=>true
 | _ :: _,[]=>false
 | x :: a,y :: b=>if x<y then true else if y<x then false else blt a b
theorem blt_irrefl (a:Bs):blt a a=false:=by
 induction a with
 | nil=>rfl
 | cons x a ih=>simp[blt,ih,Nat.lt_irrefl]
theorem nn_eq {x y:Nat} (h1:¬x<y) (h2:¬y<x):x=y:=by
 omega
theorem blt_tri {a b:Bs} (h1:blt a b=false) (h2:blt b a=false):a=b:=by
 induction a generalizing b with
 | nil=>cases b with
   | nil=>rfl
   | cons y b=>simp[blt]at h1
 | cons x a ih=>cases b with
   | nil=>simp[blt]at h2
   | cons y b=>
     simp only[blt]at h1 h2
     by_cases hx:x<y
     · simp[hx]at h1
     · by_cases hy:y<x
       · simp[hy]at h2
       · have e:=nn_eq hx hy
         subst e
         simp only[hx,if_false]at h1 h2
         rw[ih h1 h2]
theorem blt_trans {a b c:Bs} (h1:blt a b=true) (h2:blt b c=true):blt a c=true:=by
 induction a generalizing b c with
 | nil=>cases b with
   | nil=>simp[blt]at h1
   | cons y b=>cases c with
     | nil=>simp[blt]at h2
     | cons z c=>rfl
 | cons x a ih=>cases b with
   | nil=>simp[blt]at h1
   | cons y b=>cases c with
     | nil=>simp[blt]at h2
     | cons z c=>
       simp only[blt]at h1 h2 ⊢
       by_cases hxy:x<y
       · by_cases hyz:y<z
         · rw[if_pos (by omega)]
         · rw[if_neg hyz]at h2
           by_cases hzy:z<y
           · simp[hzy]at h2
           · rw[if_pos (by omega)]
       · rw[if_neg hxy]at h1
         by_cases hyx:y<x
         · simp[hyx]at h1
         · rw[if_neg hyx]at h1
           by_cases hyz:y<z
           · rw[if_pos (by omega)]
           · rw[if_neg hyz]at h2
             by_cases hzy:z<y
             · simp[hzy]at h2
             · rw[if_neg hzy]at h2
               rw[if_neg (by omega),if_neg (by omega)]
               exact ih h1 h2
theorem blt_asymm {a b:Bs} (h:blt a b=true):blt b a=false:=by
 cases hb:blt b a with
 | false=>rfl
 | true=>have:=blt_trans h hb;rw[blt_irrefl]at this;cases this
theorem blt_ne {a b:Bs} (h:blt a b=true):a≠b:=fun e=>by rw[e,blt_irrefl]at h;cases h
theorem blt_of_not {a b:Bs} (h:blt a b=false) (hne:a≠b):blt b a=true:=by
 cases hb:blt b a with
 | true=>rfl
 | false=>exact absurd (blt_tri h hb) hne
theorem blt_of_lt_of_le {a b c:Bs} (h1:blt a b=true) (h2:blt c b=false):blt a c=true:=by
 by_cases e:c=b
 · rw[e];exact h1
 · exact blt_trans h1 (blt_of_not h2 e)
theorem blt_of_le_of_lt {a b c:Bs} (h1:blt b a=false) (h2:blt b c=true):blt a c=true:=by
 by_cases e:b=a
 · rw[<-e];exact h2
 · exact blt_trans (blt_of_not h1 e) h2
abbrev Ent:=Bs × Bs
def Sorted (L:List Ent):Prop:=L.Pairwise fun x y=>blt x.1 y.1=true
def get (L:List Ent) (k:Bs):Option Bs:=(L.find? fun e=>e.1 == k).map (·.2)
def put (L:List Ent) (k v:Bs):List Ent:=L.filter (fun e=>blt e.1 k) ++ (k,v) :: L.filter (fun e=>blt k e.1)
def del (L:List Ent) (k:Bs):List Ent:=L.filter fun e=>e.1 != k
def has (L:List Ent) (k:Bs):Bool:=L.any fun e=>e.1 == k
def Low (L:List Ent) (k:Bs):Prop:=∀e ∈ L,blt e.1 k=true
def High (L:List Ent) (k:Bs):Prop:=∀e ∈ L,blt k e.1=true
theorem Low.append {A C:List Ent} {k:Bs} (h:Low A k) (h':Low C k):Low (A ++ C) k:=fun e he=>(List.mem_append.1 he).elim (h e) (h' e)
theorem High.append {A C:List Ent} {k:Bs} (h:High A k) (h':High C k):High (A ++ C) k:=fun e he=>(List.mem_append.1 he).elim (h e) (h' e)
theorem filter_low {A:List Ent} {k:Bs} (h:Low A k):A.filter (fun e=>blt e.1 k)=A:=List.filter_eq_self.2 h
theorem filter_high {A:List Ent} {k:Bs} (h:High A k):A.filter (fun e=>blt k e.1)=A:=List.filter_eq_self.2 h
theorem filter_low_of_high {A:List Ent} {k:Bs} (h:High A k):A.filter (fun e=>blt e.1 k)=[]:=List.filter_eq_nil_iff.2 fun e he=>by simp[blt_asymm (h e he)]
theorem filter_high_of_low {A:List Ent} {k:Bs} (h:Low A k):A.filter (fun e=>blt k e.1)=[]:=List.filter_eq_nil_iff.2 fun e he=>by simp[blt_asymm (h e he)]
theorem filter_ne_low {A:List Ent} {k:Bs} (h:Low A k):A.filter (fun e=>e.1 != k)=A:=List.filter_eq_self.2 fun e he=>by simp[blt_ne (h e he)]
theorem filter_ne_high {A:List Ent} {k:Bs} (h:High A k):A.filter (fun e=>e.1 != k)=A:=List.filter_eq_self.2 fun e he=>by simp[Ne.symm (blt_ne (h e he))]
theorem put_new {A C:List Ent} {k v:Bs} (ha:Low A k) (hc:High C k):put (A ++ C) k v=A ++ (k,v) :: C:=by
 simp[put,List.filter_append,filter_low ha,filter_high hc,filter_low_of_high hc,filter_high_of_low ha]
theorem put_old {A C:List Ent} {k v u:Bs} (ha:Low A k) (hc:High C k):put (A ++ (k,u) :: C) k v=A ++ (k,v) :: C:=by
 simp[put,List.filter_append,blt_irrefl,filter_low ha,filter_high hc,filter_low_of_high hc,filter_high_of_low ha]
theorem del_old {A C:List Ent} {k u:Bs} (ha:Low A k) (hc:High C k):del (A ++ (k,u) :: C) k=A ++ C:=by
 simp[del,List.filter_append,filter_ne_low ha,filter_ne_high hc]
theorem del_none {A C:List Ent} {k:Bs} (ha:Low A k) (hc:High C k):del (A ++ C) k=A ++ C:=by
 simp[del,List.filter_append,filter_ne_low ha,filter_ne_high hc]
theorem get_old {A C:List Ent} {k u:Bs} (ha:Low A k):get (A ++ (k,u) :: C) k=some u:=by
 have h:A.find? (fun e=>e.1 == k)=none:=List.find?_eq_none.2 fun e he=>by simp[blt_ne (ha e he)]
 simp[get,List.find?_append,h]
theorem get_none {A C:List Ent} {k:Bs} (ha:Low A k) (hc:High C k):get (A ++ C) k=none:=by
 have h:A.find? (fun e=>e.1 == k)=none:=List.find?_eq_none.2 fun e he=>by simp[blt_ne (ha e he)]
 have h':C.find? (fun e=>e.1 == k)=none:=List.find?_eq_none.2 fun e he=>by simp[Ne.symm (blt_ne (hc e he))]
 simp[get,List.find?_append,h,h']
theorem Sorted.append {A C:List Ent} (h:Sorted (A ++ C)):Sorted A/\Sorted C/\∀a ∈ A,∀c ∈ C,blt a.1 c.1=true:=List.pairwise_append.1 h
theorem Sorted.mk {A C:List Ent} (ha:Sorted A) (hc:Sorted C) (h:∀a ∈ A,∀c ∈ C,blt a.1 c.1=true):Sorted (A ++ C):=List.pairwise_append.2 ⟨ha,hc,h⟩
theorem sorted_ins {A C:List Ent} {k v:Bs} (h:Sorted (A ++ C)) (ha:Low A k) (hc:High C k):Sorted (A ++ (k,v) :: C):=by
 obtain⟨h1,h2,h3⟩:=h.append
 refine Sorted.mk h1 (List.pairwise_cons.2 ⟨fun e he=>hc e he,h2⟩) fun a haa c hcc=>?_
 rcases List.mem_cons.1 hcc with rfl|hcc
 · exact ha a haa
 · exact h3 a haa c hcc
theorem sorted_rem {A C:List Ent} {x:Ent} (h:Sorted (A ++ x :: C)):Sorted (A ++ C):=by
 obtain⟨h1,h2,h3⟩:=h.append
 exact Sorted.mk h1 (List.pairwise_cons.1 h2).2 fun a ha c hc=>h3 a ha c (List.mem_cons_of_mem _ hc)
def Pages (ps:List (List Ent)):Prop:=(∀l ∈ ps,l≠[])/\Sorted ps.flatten
def Found (ps:List (List Ent)) (k:Bs) (p i:Nat) (there:Bool):Prop:=
 ∃(A:List (List Ent)) (X Y:List Ent) (C:List (List Ent)),ps=A ++ (X ++ Y) :: C/\p=A.length/\i=X.length/\Low (A.flatten ++ X) k /\
  (if there then ∃u Y',Y=(k,u) :: Y'/\High (Y' ++ C.flatten) k else High (Y ++ C.flatten) k)
def head1 (l:List Ent):Bs:=(l.head?.map (·.1)).getD []
theorem found_of {ps:List (List Ent)} {k:Bs} {p i:Nat} (h:Pages ps) (hp:p<ps.length)
 (h1:∀q,p<q->∀hq:q<ps.length,blt k (head1 ps[q])=true) (h2:p=0\/blt k (head1 ps[p])=false)
 (hi:i<=ps[p].length) (h3:∀j,∀hj:j<i,blt (ps[p][j]'(by omega)).1 k=true) (h4:∀j,i<=j->∀hj:j<ps[p].length,blt (ps[p][j]).1 k=false):
 Found ps k p i (decide (∃hj:i<ps[p].length,(ps[p][i]).1=k)):=by
 obtain⟨hne,hs⟩:=h
 have e:ps=ps.take p ++ ps[p] :: ps.drop (p+1):=by
  rw[<-List.drop_eq_getElem_cons hp,List.take_append_drop]
 obtain⟨l,hl⟩:∃l,l=ps[p]:=⟨_,rfl⟩
 have hmem:l ∈ ps:=hl▸List.getElem_mem hp
 simp only[<-hl]at hi h3 h4 h2 e ⊢
 have hlne:=hne l hmem
 obtain⟨A,hA⟩:∃A,A=ps.take p:=⟨_,rfl⟩
 obtain⟨C,hC⟩:∃C,C=ps.drop (p+1):=⟨_,rfl⟩
 have hAl:p=A.length:=by rw[hA,List.length_take_of_le (by omega)]
 rw[<-hA,<-hC]at e
 have hfl:ps.flatten=A.flatten ++ (l ++ C.flatten):=by
  conv=>lhs;rw[e]
  simp
 rw[hfl]at hs
 obtain⟨hsA,hsR,hAR⟩:=hs.append
 obtain⟨hsl,hsC,hlC⟩:=hsR.append
 have hCk:High C.flatten k:=by
  intro x hx
  obtain⟨c,hc,hxc⟩:=List.mem_flatten.1 hx
  obtain⟨m,hm,hmc⟩:=List.getElem_of_mem hc
  have hm':p+1+m<ps.length:=by rw[hC,List.length_drop]at hm;omega
  have hcm:ps[p+1+m]=c:=by rw[<-hmc];simp[hC]
  have hk:=h1 (p+1+m) (by omega) hm'
  rw[hcm]at hk
  have hcne:=hne c (hcm▸List.getElem_mem hm')
  obtain⟨y,c',rfl⟩:=List.exists_cons_of_ne_nil hcne
  simp only[head1,List.head?_cons,Option.map_some,Option.getD_some]at hk
  have hsc:Sorted (y :: c'):=hsC.sublist (List.sublist_flatten_of_mem hc)
  rcases List.mem_cons.1 hxc with rfl|hxc
  · exact hk
  · exact blt_trans hk ((List.pairwise_cons.1 hsc).1 x hxc)
 have hAk:Low A.flatten k:=by
  rcases h2 with h0|h2
  · have hA0:A=[]:=by rw[hA,h0];rfl
    rw[hA0];intro x hx;cases hx
  · intro x hx
    obtain⟨y,l',hl'⟩:=List.exists_cons_of_ne_nil hlne
    rw[hl']at h2
    simp only[head1,List.head?_cons,Option.map_some,Option.getD_some]at h2
    have hxy:=hAR x hx y (by rw[hl'];simp)
    exact blt_of_lt_of_le hxy h2
 refine⟨A,l.take i,l.drop i,C,by rw[List.take_append_drop];exact e,hAl,by rw[List.length_take_of_le hi],hAk.append ?_,?_⟩
 · intro x hx
   obtain⟨j,hj,hjx⟩:=List.getElem_of_mem hx
   rw[List.length_take_of_le hi]at hj
   have:=h3 j hj
   rw[<-hjx,List.getElem_take];exact this
 · have hge:∀x ∈ l.drop i,blt x.1 k=false:=by
    intro x hx
    obtain⟨j,hj,hjx⟩:=List.getElem_of_mem hx
    rw[List.length_drop]at hj
    have:=h4 (i+j) (by omega) (by omega)
    rw[<-hjx,List.getElem_drop];exact this
   by_cases ht:∃hj:i<l.length,l[i].1=k
   · obtain⟨hj,hk⟩:=ht
     rw[if_pos (by simpa using⟨hj,hk⟩)]
     refine⟨l[i].2,l.drop (i+1),by rw[List.drop_eq_getElem_cons hj,<-hk],High.append ?_ hCk⟩
     intro x hx
     have hs1:Sorted (l.drop i):=hsl.sublist (List.drop_sublist _ _)
     rw[List.drop_eq_getElem_cons hj]at hs1
     have:=(List.pairwise_cons.1 hs1).1 x hx
     rwa [hk]at this
   · rw[if_neg (by simpa using ht)]
     refine High.append ?_ hCk
     intro x hx
     rcases Nat.lt_or_ge i l.length with hj|hj
     · rw[List.drop_eq_getElem_cons hj]at hx hge
       have h0:=hge l[i] List.mem_cons_self
       have hlt:blt k l[i].1=true:=blt_of_not h0 (fun hk=>ht ⟨hj,hk⟩)
       rcases List.mem_cons.1 hx with rfl|hx
       · exact hlt
       · have hs1:Sorted (l.drop i):=hsl.sublist (List.drop_sublist _ _)
         rw[List.drop_eq_getElem_cons hj]at hs1
         exact blt_trans hlt ((List.pairwise_cons.1 hs1).1 x hx)
     · rw[List.drop_eq_nil_of_le hj]at hx;cases hx
end Gl
namespace Gl
open Go Go.RowKit
def BV (D:Nat->Prop) (w:World) (v:Value) (bs:Bs):Prop:=∃A n c,v=.slice A n c/\By w A n c bs/\∀a,A=some a → 0<n->D a.block
end Gl
namespace Gl
open Go Go.RowKit
section
variable {D D' T:Nat->Prop} {w w':World} {v:Value} {bs:Bs}
theorem BV.upd (h:BV D w v bs) (hu:Upd T w w') (hd:∀b,D b->¬T b):BV D w' v bs:=by
 obtain⟨A,n,c,e,hb,ha⟩:=h
 exact⟨A,n,c,e,hb.upd hu (fun a e h0=>hd _ (ha a e h0)),ha⟩
theorem BV.mono (h:BV D w v bs) (hd:∀b,D b->D' b):BV D' w v bs:=by
 obtain⟨A,n,c,e,hb,ha⟩:=h
 exact⟨A,n,c,e,hb,fun a e h0=>hd _ (ha a e h0)⟩
theorem BV.small (h:BV D w v bs):Small bs:=by
 obtain⟨A,n,c,e,hb,ha⟩:=h
 exact hb.small
theorem BV.one {D:Nat->Prop} {w:World} {v:Value} {bs:Bs} (h:BV D w v bs):v.oneCell'=true:=by
 obtain⟨A,n,c,rfl,hb,ha⟩:=h;rfl
theorem BV.of {A:Option Addr} {n c:Nat} (hb:By w A n c bs):BV (fun b=>b<w.heap.size) w (.slice A n c) bs:=
 ⟨A,n,c,rfl,hb,fun a e h0=>hb.sl.lt e h0⟩
theorem BV.lt (h:BV D w v bs):BV (fun b=>D b/\b<w.heap.size) w v bs:=by
 obtain⟨A,n,c,e,hb,ha⟩:=h
 exact⟨A,n,c,e,hb,fun a e h0=>⟨ha a e h0,hb.sl.lt e h0⟩⟩
end
end Gl
namespace Gl
open Go Go.RowKit
def EntsAt (D:Nat->Prop) (w:World):List Value->List Ent->Prop
 | [],[]=>True
 | k :: v :: cs,e :: l=>BV D w k e.1/\BV D w v e.2/\EntsAt D w cs l
 | _,_=>False
end Gl
namespace Gl
open Go Go.RowKit
section
variable {D D' T:Nat->Prop} {w w':World}
theorem EntsAt.length:∀ {cs:List Value} {l:List Ent},EntsAt D w cs l->cs.length=l.length*2
 | [],[],_=>rfl
 | k :: v :: cs,e :: l,⟨_,_,h⟩=>by simp[EntsAt.length h];omega
 | [],_ :: _,h=>h.elim
 | [_],[],h=>h.elim
 | [_],_ :: _,h=>h.elim
 | _ :: _ :: _,[],h=>h.elim
theorem EntsAt.imp (hi:∀v bs,BV D w v bs->BV D' w' v bs):∀ {cs:List Value} {l:List Ent},EntsAt D w cs l->EntsAt D' w' cs l
 | [],[],_=>trivial
 | k :: v :: cs,e :: l,⟨a,b,h⟩=>⟨hi _ _ a,hi _ _ b,EntsAt.imp hi h⟩
 | [],_ :: _,h=>h.elim
 | [_],[],h=>h.elim
 | [_],_ :: _,h=>h.elim
 | _ :: _ :: _,[],h=>h.elim
theorem EntsAt.append:∀ {cs cs':List Value} {l l':List Ent},EntsAt D w cs l->EntsAt D w cs' l'->EntsAt D w (cs ++ cs') (l ++ l')
 | [],_,[],_,_,h'=>h'
 | k :: v :: cs,_,e :: l,_,⟨a,b,h⟩,h'=>⟨a,b,EntsAt.append h h'⟩
 | [],_,_ :: _,_,h,_=>h.elim
 | [_],_,[],_,h,_=>h.elim
 | [_],_,_ :: _,_,h,_=>h.elim
 | _ :: _ :: _,_,[],_,h,_=>h.elim
theorem EntsAt.take:∀ {cs:List Value} {l:List Ent} (i:Nat),EntsAt D w cs l->EntsAt D w (cs.take (i*2)) (l.take i)
 | cs,l,0,_=>by simp[EntsAt]
 | [],[],i+1,_=>by simp[EntsAt]
 | k :: v :: cs,e :: l,i+1,⟨a,b,h⟩=>by
   rw[show(i+1)*2=i*2+1+1 by omega]
   exact⟨a,b,EntsAt.take i h⟩
 | [],_ :: _,_+1,h=>h.elim
 | [_],[],_+1,h=>h.elim
 | [_],_ :: _,_+1,h=>h.elim
 | _ :: _ :: _,[],_+1,h=>h.elim
theorem EntsAt.drop:∀ {cs:List Value} {l:List Ent} (i:Nat),EntsAt D w cs l->EntsAt D w (cs.drop (i*2)) (l.drop i)
 | cs,l,0,h=>by simpa using h
 | [],[],i+1,_=>by simp[EntsAt]
 | k :: v :: cs,e :: l,i+1,⟨a,b,h⟩=>by
   rw[show(i+1)*2=i*2+1+1 by omega]
   exact EntsAt.drop i h
 | [],_ :: _,_+1,h=>h.elim
 | [_],[],_+1,h=>h.elim
 | [_],_ :: _,_+1,h=>h.elim
 | _ :: _ :: _,[],_+1,h=>h.elim
theorem EntsAt.get:∀ {cs:List Value} {l:List Ent} (i:Nat) {e:Ent},EntsAt D w cs l->l[i]?=some e->∃k v,cs[i*2]?=some k/\cs[i*2+1]?=some v/\BV D w k e.1/\BV D w v e.2
 | k :: v :: cs,e :: l,0,e',⟨a,b,h⟩,he=>by
   simp at he;subst he
   exact⟨k,v,rfl,rfl,a,b⟩
 | k :: v :: cs,e :: l,i+1,e',⟨a,b,h⟩,he=>by
   rw[show(i+1)*2=i*2+1+1 by omega]
   simpa using EntsAt.get i h (by simpa using he)
 | [],[],_,_,_,he=>by simp at he
 | [],_ :: _,_,_,h,_=>h.elim
 | [_],[],_,_,h,_=>h.elim
 | [_],_ :: _,_,_,h,_=>h.elim
 | _ :: _ :: _,[],_,_,h,_=>h.elim
theorem EntsAt.oneCells {cs:List Value} {l:List Ent} (h:EntsAt D w cs l):∀u ∈ cs,u.oneCell'=true:=by
 induction l generalizing cs with
 | nil=>cases cs with
   | nil=>intro u hu;cases hu
   | cons k cs=>cases cs<;>exact h.elim
 | cons e l ih=>cases cs with
   | nil=>exact h.elim
   | cons k cs=>cases cs with
     | nil=>exact h.elim
     | cons v cs=>
       obtain⟨a,b,h⟩:=h
       intro u hu
       simp only[List.mem_cons]at hu
       rcases hu with rfl|rfl|hu
       · exact a.one
       · exact b.one
       · exact ih h u hu
end
end Gl
namespace Gl
open Go Go.RowKit
def PageAt (tE base:Nat) (D:Nat->Prop) (w:World) (v:Value) (l:List Ent):Prop:=∃cs,w.ownsRow base tE 2 v l.length cs/\EntsAt D w cs l
structure MapRaw (tE tP base:Nat) (w:World) (bm:Nat) (D:Nat->Prop) (A:Option Addr) (n c N:Nat) (vs:List Value) (ps:List (List Ent)):Prop where
 blk:∃t,w.heap[bm]?=some (.cells #[.slice A n c,.int .i64 (N:Int)] t (0,0))
 row:w.ownsRow base tP 1 (.slice A n c) n vs
 len:vs.length=ps.length
 page:∀(i:Nat) (v:Value) (l:List Ent),vs[i]?=some v->ps[i]?=some l->PageAt tE base D w v l
 inj:∀(i j:Nat) (v v':Value),vs[i]?=some v->vs[j]?=some v'->i≠j->v.ownBlock≠v'.ownBlock
 away:∀(i:Nat) (v:Value) (b:Nat),vs[i]?=some v->v.ownBlock=some b->b≠bm/\(Value.slice A n c).ownBlock≠some b/\¬D b
 bmA:(Value.slice A n c).ownBlock≠some bm
 dm:¬D bm
 dA:∀b,(Value.slice A n c).ownBlock=some b->¬D b
 hb:base<=bm
 lim:∀b,D b->b<w.heap.size
structure MapIn (tE tP base:Nat) (w:World) (bm:Nat) (D:Nat->Prop) (A:Option Addr) (n c:Nat) (vs:List Value) (ps:List (List Ent)):Prop extends MapRaw tE tP base w bm D A n c ps.flatten.length vs ps where
 good:Pages ps
 few:∀l ∈ ps,l.length<=32
def foot (bm:Nat) (D:Nat->Prop) (A:Option Addr) (n c:Nat) (vs:List Value):Nat->Prop:=fun b=>b=bm\/(Value.slice A n c).ownBlock=some b\/(∃v ∈ vs,v.ownBlock=some b)\/D b
def MapAt (tE tP base:Nat) (w:World) (bm:Nat) (F:Nat->Prop) (ps:List (List Ent)):Prop:=
 ∃D A n c vs,MapIn tE tP base w bm D A n c vs ps/\∀b,foot bm D A n c vs b->F b
end Gl
namespace Gl
open Go Go.RowKit
section
variable {tE tP base bm n c:Nat} {w w':World} {D F T:Nat->Prop} {A:Option Addr} {vs:List Value} {ps:List (List Ent)}
theorem PageAt.upd {v:Value} {l:List Ent} (h:PageAt tE base D w v l) (hu:Upd T w w') (hd:∀b,D b->¬T b) (hv:∀b,v.ownBlock=some b->¬T b):PageAt tE base D w' v l:=by
 obtain⟨cs,h1,h2⟩:=h
 exact⟨cs,ownsRow_keep h1 (fun b hb hl=>hu.block b hl (hv b hb)),h2.imp fun v bs hb=>hb.upd hu hd⟩
theorem PageAt.mono {D':Nat->Prop} {v:Value} {l:List Ent} (h:PageAt tE base D w v l) (hd:∀b,D b->D' b):PageAt tE base D' w v l:=by
 obtain⟨cs,h1,h2⟩:=h
 exact⟨cs,h1,h2.imp fun v bs hb=>hb.mono hd⟩
theorem PageAt.lt {v:Value} {l:List Ent} (h:PageAt tE base D w v l) {b:Nat} (hb:v.ownBlock=some b):b<w.heap.size:=by
 obtain⟨cs,h1,_⟩:=h
 exact(ownsRow_lt h1 hb).1
end
end Gl
namespace Gl
open Go Go.RowKit
section
variable {tE tP base bm n c:Nat} {w w':World} {D F T:Nat->Prop} {A:Option Addr} {vs:List Value} {ps:List (List Ent)}
section
variable {N:Nat}
theorem MapRaw.bm_lt (h:MapRaw tE tP base w bm D A n c N vs ps):bm<w.heap.size:=by
 obtain⟨t,ht⟩:=h.blk
 exact(Array.getElem?_eq_some_iff.1 ht).1
theorem MapRaw.page_at (h:MapRaw tE tP base w bm D A n c N vs ps) {i:Nat} {v:Value} (hv:vs[i]?=some v):∃l,ps[i]?=some l/\PageAt tE base D w v l:=by
 have hi:i<ps.length:=by rw[<-h.len];exact(List.getElem?_eq_some_iff.1 hv).1
 exact⟨_,List.getElem?_eq_getElem hi,h.page i v _ hv (List.getElem?_eq_getElem hi)⟩
theorem MapRaw.foot_lt (h:MapRaw tE tP base w bm D A n c N vs ps) {b:Nat} (hb:foot bm D A n c vs b):b<w.heap.size:=by
 rcases hb with rfl|hb|⟨v,hv,hb⟩|hb
 · exact h.bm_lt
 · exact(ownsRow_lt h.row hb).1
 · obtain⟨i,hi⟩:=List.getElem?_of_mem hv
   obtain⟨l,_,hl⟩:=h.page_at hi
   exact hl.lt hb
 · exact h.lim b hb
theorem MapRaw.upd (h:MapRaw tE tP base w bm D A n c N vs ps) (hu:Upd T w w') (hf:∀b,foot bm D A n c vs b->¬T b):MapRaw tE tP base w' bm D A n c N vs ps where
 blk:=by
  obtain⟨t,ht⟩:=h.blk
  exact⟨t,(hu.block bm h.bm_lt (hf _ (.inl rfl))).trans ht⟩
 row:=ownsRow_keep h.row (fun b hb hl=>hu.block b hl (hf b (.inr (.inl hb))))
 len:=h.len
 page i v l hv hl:=(h.page i v l hv hl).upd hu (fun b hb=>hf b (.inr (.inr (.inr hb)))) (fun b hb=>hf b (.inr (.inr (.inl ⟨v,List.mem_of_getElem? hv,hb⟩))))
 inj:=h.inj
 away:=h.away
 bmA:=h.bmA
 dm:=h.dm
 dA:=h.dA
 hb:=h.hb
 lim b hb:=Nat.lt_of_lt_of_le (h.lim b hb) hu.size
theorem MapRaw.n_eq (h:MapRaw tE tP base w bm D A n c N vs ps):n=ps.length:=by
 have:=h.row.1
 rw[<-h.len];omega
theorem MapRaw.cell0 (h:MapRaw tE tP base w bm D A n c N vs ps):w.cell? ⟨bm,0,none⟩=some (.slice A n c):=by
 obtain⟨t,h⟩:=h.blk
 simp[World.cell?,h]
theorem MapRaw.cell1 (h:MapRaw tE tP base w bm D A n c N vs ps):w.cell? ⟨bm,1,none⟩=some (.int .i64 (N:Int)):=by
 obtain⟨t,h⟩:=h.blk
 simp[World.cell?,h]
theorem MapRaw.frozen (h:MapRaw tE tP base w bm D A n c N vs ps) (i:Nat):w.frozen? ⟨bm,i,none⟩=false:=by
 obtain⟨t,h⟩:=h.blk
 simp[World.frozen?,h]
def touch (bm:Nat) (A:Option Addr) (n c:Nat) (vs:List Value) (p:Nat):Nat->Prop:=fun b=>b=bm\/(Value.slice A n c).ownBlock=some b\/∃v,vs[p]?=some v/\v.ownBlock=some b
theorem MapRaw.page_set (h:MapRaw tE tP base w bm D A n c N vs ps) {p N':Nat} {v':Value} {l':List Ent} {D':Nat->Prop} (hp:p<ps.length) (hu:Upd (touch bm A n c vs p) w w')
 (hblk:∃t,w'.heap[bm]?=some (.cells #[.slice A n c,.int .i64 (N':Int)] t (0,0))) (hrow:w'.ownsRow base tP 1 (.slice A n c) n (vs.set p v'))
 (hD:∀b,D b->D' b) (hD2:∀b,D' b->D b\/w.heap.size<=b) (hlim:∀b,D' b->b<w'.heap.size) (hpg:PageAt tE base D' w' v' l')
 (hown:∀b,v'.ownBlock=some b → (∃v,vs[p]?=some v/\v.ownBlock=some b)\/w.heap.size<=b) (hnD:∀b,v'.ownBlock=some b->¬D' b) (hpos:v'.ownBlock≠none):
 MapRaw tE tP base w' bm D' A n c N' (vs.set p v') (ps.set p l'):=by
 have hpv:p<vs.length:=by rw[h.len];exact hp
 have hget:∀(i:Nat) (v:Value),(vs.set p v')[i]?=some v → (i=p/\v'=v)\/(i≠p/\vs[i]?=some v):=fun i v hv=>by
  by_cases e:p=i
  · rw[List.getElem?_set,if_pos e,if_pos (e▸hpv)]at hv
    exact .inl ⟨e.symm,by cases hv;rfl⟩
  · rw[List.getElem?_set,if_neg e]at hv
    exact .inr ⟨fun e2=>e e2.symm,hv⟩
 have hAlt:∀b,(Value.slice A n c).ownBlock=some b->b<w.heap.size:=fun b hb=>(ownsRow_lt h.row hb).1
 have hne:∀b,v'.ownBlock=some b->b≠bm/\(Value.slice A n c).ownBlock≠some b:=fun b hb=>by
  rcases hown b hb with⟨v,hv,e⟩|hge
  · exact⟨(h.away p v b hv e).1,(h.away p v b hv e).2.1⟩
  · exact⟨fun e=>by have:=h.bm_lt;omega,fun e=>by have:=hAlt b e;omega⟩
 have hother:∀i v b,i≠p->vs[i]?=some v->v.ownBlock=some b->¬touch bm A n c vs p b:=fun i v b hi hv e=>by
  rintro(e2|e2|⟨v2,hv2,e2⟩)
  · exact(h.away i v b hv e).1 e2
  · exact(h.away i v b hv e).2.1 e2
  · exact h.inj i p v v2 hv hv2 hi (e.trans e2.symm)
 have hDt:∀b,D b->¬touch bm A n c vs p b:=fun b hb=>by
  rintro(e2|e2|⟨v2,hv2,e2⟩)
  · exact h.dm (e2▸hb)
  · exact h.dA b e2 hb
  · exact(h.away p v2 b hv2 e2).2.2 hb
 exact {
  blk:=hblk
  row:=hrow
  len:=by rw[List.length_set,List.length_set];exact h.len
  page:=fun i v l hv hl=>by
   rcases hget i v hv with⟨rfl,rfl⟩|⟨hi,hv⟩
   · rw[List.getElem?_set,if_pos rfl,if_pos hp]at hl
     cases hl;exact hpg
   · rw[List.getElem?_set,if_neg (Ne.symm hi)]at hl
     exact((h.page i v l hv hl).upd hu hDt (fun b e=>hother i v b hi hv e)).mono hD
  inj:=fun i j v u hv hu2 hij e=>by
   have one:∀(k:Nat) (x:Value),k≠p->vs[k]?=some x->v'.ownBlock≠x.ownBlock:=fun k x hk hx e=>by
    cases hb:v'.ownBlock with
    | none=>exact hpos hb
    | some b=>
      rw[hb]at e
      rcases hown b hb with⟨v2,hv2,e2⟩|hge
      · exact h.inj k p x v2 hx hv2 hk (e.symm.trans e2.symm)
      · obtain⟨l,_,hl⟩:=h.page_at hx
        have:=hl.lt e.symm
        omega
   rcases hget i v hv with⟨e1,e2⟩|⟨hi,hv3⟩
   · rcases hget j u hu2 with⟨e3,_⟩|⟨hj,hu3⟩
     · exact hij (e1.trans e3.symm)
     · exact one j u hj hu3 (e2▸e)
   · rcases hget j u hu2 with⟨e3,e4⟩|⟨hj,hu3⟩
     · exact one i v hi hv3 (e4▸e.symm)
     · exact h.inj i j v u hv3 hu3 hij e
  away:=fun i v b hv e=>by
   rcases hget i v hv with⟨_,rfl⟩|⟨hi,hv⟩
   · exact⟨(hne b e).1,(hne b e).2,hnD b e⟩
   · refine⟨(h.away i v b hv e).1,(h.away i v b hv e).2.1,fun hd=>?_⟩
     rcases hD2 b hd with hd|hge
     · exact(h.away i v b hv e).2.2 hd
     · obtain⟨l,_,hl⟩:=h.page_at hv
       have:=hl.lt e
       omega
  bmA:=h.bmA
  dm:=fun hd=>by
   rcases hD2 bm hd with hd|hge
   · exact h.dm hd
   · have:=h.bm_lt;omega
  dA:=fun b e hd=>by
   rcases hD2 b hd with hd|hge
   · exact h.dA b e hd
   · have:=hAlt b e;omega
  hb:=h.hb
  lim:=hlim }
theorem MapRaw.page_ins (h:MapRaw tE tP base w bm D A n c N vs ps) {i c' N':Nat} {A':Option Addr} {v':Value} {l':List Ent} (hi:i<=ps.length) (hu:Upd (fun b=>b=bm\/(Value.slice A n c).ownBlock=some b) w w')
 (hblk:∃t,w'.heap[bm]?=some (.cells #[.slice A' (n+1) c',.int .i64 (N':Int)] t (0,0))) (hrow:w'.ownsRow base tP 1 (.slice A' (n+1) c') (n+1) (vs.take i ++ [v'] ++ vs.drop i))
 (hA:∀b,(Value.slice A' (n+1) c').ownBlock=some b → (Value.slice A n c).ownBlock=some b\/w.heap.size<=b) (hpg:PageAt tE base D w v' l') {g':Nat} (hg:v'.ownBlock=some g')
 (hgn:∀(j:Nat) (v:Value),vs[j]?=some v->v.ownBlock≠some g') (hgb:g'≠bm/\(Value.slice A n c).ownBlock≠some g'/\¬D g'):
 MapRaw tE tP base w' bm D A' (n+1) c' N' (vs.take i ++ [v'] ++ vs.drop i) (ps.take i ++ [l'] ++ ps.drop i):=by
 have hiv:i<=vs.length:=by rw[h.len];exact hi
 have hget:∀ {α:Type} (L:List α) (x:α) (j:Nat) (y:α),i<=L.length → (L.take i ++ [x] ++ L.drop i)[j]?=some y → (j=i/\x=y)\/(j<i/\L[j]?=some y)\/(i<j/\L[j-1]?=some y):=fun L x j y hL hy=>by
  rcases Nat.lt_trichotomy j i with hj|hj|hj
  · rw[List.append_assoc,List.getElem?_append_left (by rw[List.length_take];omega),List.getElem?_take,if_pos hj]at hy
    exact .inr (.inl ⟨hj,hy⟩)
  · subst hj
    rw[List.append_assoc,List.getElem?_append_right (by rw[List.length_take];omega),List.length_take,Nat.min_eq_left hL,Nat.sub_self]at hy
    exact .inl ⟨rfl,by simpa using hy⟩
  · rw[List.getElem?_append_right (by rw[List.length_append,List.length_take];simp;omega),List.length_append,List.length_take,Nat.min_eq_left hL,List.getElem?_drop]at hy
    refine .inr (.inr ⟨hj,?_⟩)
    rw[<-hy];congr 1;simp;omega
 have hback:∀(j:Nat) (v:Value),(vs.take i ++ [v'] ++ vs.drop i)[j]?=some v->v'=v\/∃q:Nat,vs[q]?=some v:=fun j v hv=>by
  rcases hget vs v' j v hiv hv with⟨_,rfl⟩|⟨_,h⟩|⟨_,h⟩
  · exact .inl rfl
  · exact .inr ⟨_,h⟩
  · exact .inr ⟨_,h⟩
 have hglt:=hpg.lt hg
 have hDt:∀b,D b->¬(b=bm\/(Value.slice A n c).ownBlock=some b):=fun b hb=>by
  rintro(e2|e2)
  · exact h.dm (e2▸hb)
  · exact h.dA b e2 hb
 exact {
  blk:=hblk
  row:=hrow
  len:=by simp[h.len]
  page:=fun j v l hv hl=>by
   have key:PageAt tE base D w v l:=by
    rcases hget vs v' j v hiv hv with⟨e1,rfl⟩|⟨e1,hv⟩|⟨e1,hv⟩<;>rcases hget ps l' j l hi hl with⟨e2,rfl⟩|⟨e2,hl⟩|⟨e2,hl⟩<;>first|exact hpg|exact h.page _ _ _ hv hl|(exfalso;omega)
   refine key.upd hu hDt (fun b e=>?_)
   rcases hback j v hv with rfl|⟨q,hq⟩
   · rw[hg]at e;cases e
     rintro(e2|e2)
     · exact hgb.1 e2
     · exact hgb.2.1 e2
   · rintro(e2|e2)
     · exact(h.away q v b hq e).1 e2
     · exact(h.away q v b hq e).2.1 e2
  inj:=fun j k v u hv hu2 hjk e=>by
   rcases hget vs v' j v hiv hv with⟨e1,rfl⟩|⟨e1,hv⟩|⟨e1,hv⟩<;>rcases hget vs v' k u hiv hu2 with⟨e2,rfl⟩|⟨e2,hu2⟩|⟨e2,hu2⟩ <;>
    first
    | omega
    | exact hgn _ _ hu2 (e.symm.trans hg)
    | exact hgn _ _ hv (e.trans hg)
    | exact h.inj _ _ _ _ hv hu2 (by omega) e
  away:=fun j v b hv e=>by
   have hA2:∀b,b<w.heap.size → (Value.slice A n c).ownBlock≠some b → (Value.slice A' (n+1) c').ownBlock≠some b:=fun b hb hn e=>by
    rcases hA b e with e|hge
    · exact hn e
    · omega
   rcases hback j v hv with rfl|⟨q,hq⟩
   · rw[hg]at e;cases e
     exact⟨hgb.1,hA2 _ hglt hgb.2.1,hgb.2.2⟩
   · obtain⟨l,_,hl⟩:=h.page_at hq
     exact⟨(h.away q v b hq e).1,hA2 _ (hl.lt e) (h.away q v b hq e).2.1,(h.away q v b hq e).2.2⟩
  bmA:=fun e=>by
   rcases hA bm e with e|hge
   · exact h.bmA e
   · have:=h.bm_lt;omega
  dm:=h.dm
  dA:=fun b e hd=>by
   rcases hA b e with e|hge
   · exact h.dA b e hd
   · have:=h.lim b hd;omega
  hb:=h.hb
  lim:=fun b hb=>Nat.lt_of_lt_of_le (h.lim b hb) hu.size }
end
end
end Gl
namespace Gl
open Go Go.RowKit
section
variable {tE tP base bm n c:Nat} {w w':World} {D F T:Nat->Prop} {A:Option Addr} {vs:List Value} {ps:List (List Ent)}
theorem MapIn.upd (h:MapIn tE tP base w bm D A n c vs ps) (hu:Upd T w w') (hf:∀b,foot bm D A n c vs b->¬T b):MapIn tE tP base w' bm D A n c vs ps:=
 ⟨h.toMapRaw.upd hu hf,h.good,h.few⟩
theorem MapAt.upd (h:MapAt tE tP base w bm F ps) (hu:Upd T w w') (hf:∀b,F b->¬T b):MapAt tE tP base w' bm F ps:=by
 obtain⟨D,A,n,c,vs,h1,h2⟩:=h
 exact⟨D,A,n,c,vs,h1.upd hu (fun b hb=>hf b (h2 b hb)),h2⟩
theorem MapIn.at (h:MapIn tE tP base w bm D A n c vs ps) {i:Nat} (hi:i<ps.length):∃g gp cp cs,A=some ⟨g,0,none⟩/\vs[i]?=some (.slice (some ⟨gp,0,none⟩) ps[i].length cp)/\w.cell? ⟨g,i,none⟩=some (.slice (some ⟨gp,0,none⟩) ps[i].length cp) /\
 w.ownsRow base tE 2 (.slice (some ⟨gp,0,none⟩) ps[i].length cp) ps[i].length cs/\EntsAt D w cs ps[i]/\0<ps[i].length:=by
 have hvl:i<vs.length:=by rw[h.len];exact hi
 have hv:vs[i]?=some vs[i]:=List.getElem?_eq_getElem hvl
 obtain⟨cs,h1,h2⟩:=h.page i _ _ hv (List.getElem?_eq_getElem hi)
 have hne:ps[i]≠[]:=h.good.1 _ (List.getElem_mem hi)
 have hpos:0<ps[i].length:=List.length_pos_iff.2 hne
 obtain⟨g,cap,cur,e1,e2,e3,e4,e5,e6,e7⟩:∃g cap cur,vs[i]=.slice (some ⟨g,0,none⟩) ps[i].length cap/\base<=g/\w.heap[g]?=some (.cells cur tE (0,0))/\ps[i].length<=cap/\cap<=maxLen/\cur.size=cap*2/\cur.toList.take (ps[i].length*2)=cs:=by
  rcases h1.2 with⟨_,h0⟩|h0
  · omega
  · exact h0
 have hrow:=Sl.of_own h.row
 have hn:=h.toMapRaw.n_eq
 obtain⟨g',off,eA,hr⟩:=hrow.row (by omega)
 have hoff:off=0:=by
  rcases h.row.2 with⟨e,_⟩|⟨g2,cap2,cur2,e,_⟩
  · cases e;cases eA
  · rw[eA]at e;injection e with e;injection e with e;injection e
 subst hoff
 refine⟨g',g,cap,cs,eA,by rw[hv,e1],?_,by rw[<-e1];exact h1,h2,hpos⟩
 have:=hr.2 i _ (by rw[hv,e1])
 simpa using this
theorem Sl.cell {k:Nat} {A:Option Addr} {n c:Nat} {xs:List Value} (h:Sl k w A n c xs) {b off:Nat} (hA:A=some ⟨b,off,none⟩) {i:Nat} {v:Value} (hv:xs[i]?=some v):w.cell? ⟨b,off+i,none⟩=some v:=by
 have hn:0<n:=by
  rcases Nat.eq_zero_or_pos n with h0|h0
  · have:=h.len;rw[h0]at this
    have:xs=[]:=List.eq_nil_of_length_eq_zero (by simpa using this)
    subst this;simp at hv
  · exact h0
 obtain⟨b',off',e,hr⟩:=h.row hn
 rw[hA]at e
 injection e with e
 injection e with e1 e2
 subst e1 e2
 exact hr.2 i v hv
theorem page_cells {g cp m:Nat} {cs:List Value} {l:List Ent} (h:w.ownsRow base tE 2 (.slice (some ⟨g,0,none⟩) m cp) m cs) (he:EntsAt D w cs l) {i:Nat} {e:Ent} (hi:l[i]?=some e):
 ∃k v,w.cell? ⟨g,i*2,none⟩=some k/\w.cell? ⟨g,i*2+1,none⟩=some v/\BV D w k e.1/\BV D w v e.2:=by
 obtain⟨k,v,h1,h2,h3,h4⟩:=he.get i hi
 have hs:=Sl.of_own h
 exact⟨k,v,by simpa using hs.cell rfl h1,by simpa using hs.cell rfl h2,h3,h4⟩
end
end Gl
namespace Gl
theorem mem_put {L:List Ent} {k v:Bs} {e:Ent} (h:e ∈ put L k v):e=(k,v)\/e ∈ L:=by
 rw[put,List.mem_append,List.mem_cons]at h
 rcases h with h|h|h
 · exact .inr (List.mem_filter.1 h).1
 · exact .inl h
 · exact .inr (List.mem_filter.1 h).1
end Gl

/- Part of the proof. -/
import Derived.Test.YtbhnjkegkadodaaGreatDoorG02
import Derived.Deep.RegionLaw
set_option linter.all false
set_option maxRecDepth 100000
set_option maxHeartbeats 8000000
namespace Gl
open Go Go.RowKit
theorem ownsRow_form {w:World} {base:Nat} {e:TypeId} {size:Nat} {v:Value} {n:Nat} {xs:List Value} (h:w.ownsRow base e size v n xs):∃A c,v=.slice A n c:=by
 rcases h.2 with⟨e,h0⟩|⟨g,cap,cur,e,_⟩
 · subst h0;exact⟨_,_,e⟩
 · exact⟨_,_,e⟩
theorem zae {w w':World} {base:Nat} {e:TypeId} {size:Nat} {v:Value} {n:Nat} {xs:List Value} (h:w.ownsRow base e size v n xs) (hk:∀c,v.ownBlock=some c->c<w.heap.size->w'.heap[c]?=w.heap[c]?):w'.ownsRow base e size v n xs:=by
 refine⟨h.1,?_⟩;rcases h.2 with h0|⟨g,cap,cur,rfl,h2,h3,h4⟩
 · exact .inl h0
 · exact .inr ⟨g,cap,cur,rfl,h2,(hk g rfl (zqA.1 h3).1).trans h3,h4⟩
theorem zar {w:World} {base:Nat} {e:TypeId} {size:Nat} {v:Value} {n:Nat} {xs:List Value} (h:w.ownsRow base e size v n xs) (o:Obj) {W:World} (hW:W.heap=w.heap.push o):W.ownsRow base e size v n xs:=
 zae h fun c _ hc=>by rw[hW,Array.getElem?_push_lt hc];simp[hc]
theorem zal {w:World} {base:Nat} {e:TypeId} {size:Nat} {v:Value} {n:Nat} {xs:List Value} (h:w.ownsRow base e size v n xs) {c:Nat} (hc:v.ownBlock=some c):c<w.heap.size/\base<=c:=by
 rcases h.2 with⟨rfl,_⟩|⟨g,cap,cur,rfl,h2,h3,h4⟩
 · cases hc
 · cases hc;exact⟨(zqA.1 h3).1,h2⟩
theorem Sl.of_own {w:World} {base:Nat} {e:TypeId} {k:Nat} {A:Option Addr} {n c:Nat} {xs:List Value} (h:w.ownsRow base e k (.slice A n c) n xs):Sl k w A n c xs:=by
 rcases h.2 with⟨e,h0⟩|⟨g,cap,cur,e,_,hh,hnc,hm,_,ht⟩
 · injection e with e1 e2 e3
   subst e1 h0 e3;exact⟨h.1,zR _,Nat.zero_le _,fun h=>absurd h (by omega),fun _=>rfl⟩
 · injection e with e1 _ e3
   subst e1 e3;refine⟨h.1,hnc,hm,fun _=>⟨g,0,rfl,(zqA.1 hh).1,fun i v hv=>?_⟩,fun e=>by cases e⟩;rw[<-ht,List.getElem?_take]at hv
   split at hv
   · simp only[World.cell?,hh,Nat.zero_add];simpa using hv
   · cases hv
theorem By.of_own {w:World} {base:Nat} {e:TypeId} {A:Option Addr} {n c:Nat} {bs:List Nat} (h:w.ownsRow base e 1 (.slice A n c) n (bs.map u8)) (hs:Small bs):By w A n c bs:=⟨Sl.of_own h,hs⟩
def Src (w:World) (A:Option Addr) (m:Nat) (news:List Value):Prop:=
 0<m->∃b off,A=some ⟨b,off,none⟩/\∀(j:Nat) (u:Value),news[j]?=some u->w.cell? ⟨b,off+j,none⟩=some u
end Gl
namespace Gl
open Go Go.RowKit
section
variable {P:Program} (w:World)
theorem Src.of_sl {k:Nat} {w:World} {A:Option Addr} {n c:Nat} {xs:List Value} (h:Sl k w A n c xs):Src w A n xs:=fun hn=>by
 obtain⟨b,off,e,hr⟩:=h.row hn;exact⟨b,off,e,fun j u hu=>hr.2 j u hu⟩
theorem run_append_src (base:Nat) (t ty e:TypeId) (i:TypeInfo) (z:Value) (size bytes:Nat) (ht:P.underlying t=some (.slice e)) (hi:P.info? e=some i) (hz:i.zero=some z)
 (hsize:i.size=size) (hby:i.bytes=bytes) (hzs:z.cells.size=size) (hsz:0<size)
 (v:Value) (n:Nat) (xs:List Value) (hown:w.ownsRow base e size v n xs)
 (A:Option Addr) (m c:Nat) (news:List Value) (hl:news.length=m*size) (hsrc:Src w A m news) (h1:∀u ∈ news,u.oneCell'=true)
 (h63:n+m<=maxLen) (hbytes:(n+m)*bytes<=140737488355328) (hbase:base<=w.heap.size):
 ∃v' w',(Builtin.append_ #[t,t] ty #[v,.slice A m c]).run P w=.ok v' w'/\w'.ownsRow base e size v' (n+m) (xs ++ news)/\w.grownBy w' v.ownBlock /\
  (v'.ownBlock=v.ownBlock\/v'.ownBlock=some w.heap.size):=by
 cases A with
 | none=>
   have hm:m=0:=by
    rcases Nat.eq_zero_or_pos m with h0|h0
    · exact h0
    · obtain⟨b,off,h,_⟩:=hsrc h0;cases h
   subst hm;have hn:news=[]:=List.eq_nil_of_length_eq_zero (by simpa using hl);subst hn;refine⟨v,w,?_,by simpa using hown,⟨rfl,rfl,rfl,zR _,fun _ _ _=>rfl⟩,.inl rfl⟩;rcases hown.2 with⟨rfl,rfl⟩|⟨g,cap,cur,rfl,_,_,hnc,_⟩
   · simp[Builtin.append_,run_underlying ht,Go.sizeOf,typeInfo,hi,Builtin.lenOf,Builtin.firstCells]
   · simp[Builtin.append_,run_underlying ht,Go.sizeOf,typeInfo,hi,Builtin.lenOf,Builtin.firstCells,hnc,storeCells]
 | some ad=>
   have a1:∀j u,news[j]?=some u->w.cell? (ad.add j)=some u:=by
    intro j u hu;rcases Nat.eq_zero_or_pos m with h0|h0
    · subst h0;have hn:news=[]:=List.eq_nil_of_length_eq_zero (by simpa using hl);subst hn;simp at hu
    · obtain⟨b,off,h,hc⟩:=hsrc h0
      injection h with h
      subst h;have:=hc j u hu
      rwa [show(⟨b,off,none⟩:Addr).add j=⟨b,off+j,none⟩ from by unfold Addr.add;split<;>simp_all]
   obtain⟨v',w',hr,h2,h3,_,h5⟩:=run_append_own_at (P:=P) w base t ty e i z size bytes ht hi hz hsize hby hzs hsz v n xs hown ad m c news hl a1 h1 h63 hbytes hbase;exact⟨v',w',hr,h2,h3,h5⟩
theorem wpList_append_src {ops:Array Oper} {rest:List Oper} {o:Oper} {a:Act} {Q:Exit->Act->World->Prop} (hgd:o.guard=none) (s x:Operand) (t:TypeId)
 (ho:o.op=.call { callee:=.builtin .append,args:=#[s,x],argTypes:=#[t,t] })
 (base:Nat) (e:TypeId) (i:TypeInfo) (z:Value) (size bytes:Nat) (ht:P.underlying t=some (.slice e)) (hi:P.info? e=some i) (hz:i.zero=some z)
 (hsize:i.size=size) (hby:i.bytes=bytes) (hzs:z.cells.size=size) (hsz:0<size)
 (v:Value) (n:Nat) (xs:List Value) (hs:a.eval s=v) (hown:w.ownsRow base e size v n xs)
 (A:Option Addr) (m c:Nat) (news:List Value) (hx:a.eval x=.slice A m c) (hl:news.length=m*size) (hsrc:Src w A m news) (h1:∀u ∈ news,u.oneCell'=true)
 (h63:n+m<=maxLen) (hbytes:(n+m)*bytes<=140737488355328) (hbase:base<=w.heap.size)
 (h:∀A' c' w',w'.ownsRow base e size (.slice A' (n+m) c') (n+m) (xs ++ news)->w.grownBy w' v.ownBlock → ((Value.slice A' (n+m) c').ownBlock=v.ownBlock\/(Value.slice A' (n+m) c').ownBlock=some w.heap.size)->wpList P ops Q rest (a.put o.dst (.slice A' (n+m) c')) w'):
 wpList P ops Q (o :: rest) a w:=by
 refine wpList_plain hgd fun K hK=>?_
 obtain⟨v',w',hr,h2,h3,h4⟩:=run_append_src (P:=P) w base t o.type e i z size bytes ht hi hz hsize hby hzs hsz v n xs hown A m c news hl hsrc h1 h63 hbytes hbase;obtain⟨A',c',rfl⟩:=ownsRow_form h2;unfold Oper.wp execOp;simp only[ho,resolve,invoke,builtin,Sem.run_bind,Sem.run_pure,Result.andThen_ok,List.map_toArray,List.map_cons,List.map_nil,hs,hx,hr];exact hK _ _ (h A' c' w' h2 h3 h4)
end
end Gl
namespace Gl
open Go Go.RowKit
section
variable {P:Program}
theorem step_append_src {ops:Array Oper} {o:Oper} {a:Act} {w:World} {K:Act->World->Prop} {Q:Exit->Act->World->Prop} {E:Prop}
 (hg:o.guard=none) (s x:Operand) (t:TypeId) (hop:o.op=Op.call { callee:=Callee.builtin Builtin.append,args:=#[s,x],argTypes:=#[t,t] })
 (base:Nat) (e:TypeId) (i:TypeInfo) (z:Value) (size bytes:Nat) (ht:P.underlying t=some (.slice e)) (hi:P.info? e=some i) (hz:i.zero=some z)
 (hsize:i.size=size) (hby:i.bytes=bytes) (hzs:z.cells.size=size) (hsz:0<size)
 (v:Value) (n:Nat) (xs:List Value) (hs:a.eval s=v) (hown:w.ownsRow base e size v n xs)
 (A:Option Addr) (m c:Nat) (news:List Value) (hx:a.eval x=.slice A m c) (hl:news.length=m*size) (hsrc:Src w A m news) (h1:∀u ∈ news,u.oneCell'=true)
 (h63:n+m<=maxLen) (hbytes:(n+m)*bytes<=140737488355328) (hbase:base<=w.heap.size)
 (hK:∀A' c' w',w'.ownsRow base e size (.slice A' (n+m) c') (n+m) (xs ++ news)->w.grownBy w' v.ownBlock → ((Value.slice A' (n+m) c').ownBlock=v.ownBlock\/(Value.slice A' (n+m) c').ownBlock=some w.heap.size)->K (a.put o.dst (.slice A' (n+m) c')) w'):
 if Region.wanted o (yielded ops a.tmps)=true then Oper.wp P o a w K Q else E:=by
 have hw:Region.wanted o (yielded ops a.tmps)=true:=by simp[Region.wanted,hg]
 rw[if_pos hw];obtain⟨v',w',hr,h2,h3,h4⟩:=run_append_src (P:=P) w base t o.type e i z size bytes ht hi hz hsize hby hzs hsz v n xs hown A m c news hl hsrc h1 h63 hbytes hbase;obtain⟨A',c',rfl⟩:=ownsRow_form h2;unfold Oper.wp execOp;simp only[hop,resolve,invoke,builtin,Sem.run_bind,Sem.run_pure,Result.andThen_ok,List.map_toArray,List.map_cons,List.map_nil,hs,hx,hr];exact hK _ _ _ h2 h3 h4
end
end Gl
namespace Gl
open Go Go.RowKit
def BV (D:Nat->Prop) (w:World) (v:Value) (bs:Bs):Prop:=∃A n c,v=.slice A n c/\By w A n c bs/\∀a,A=some a → 0<n->D a.block
end Gl
namespace Gl
open Go Go.RowKit
section
variable {D D' T:Nat->Prop} {w w':World} {v:Value} {bs:Bs}
theorem BV.upd (h:BV D w v bs) (hu:Upd T w w') (hd:∀b,D b->¬T b):BV D w' v bs:=by
 obtain⟨A,n,c,e,hb,ha⟩:=h;exact⟨A,n,c,e,hb.upd hu (fun a e h0=>hd _ (ha a e h0)),ha⟩
theorem BV.mono (h:BV D w v bs) (hd:∀b,D b->D' b):BV D' w v bs:=by
 obtain⟨A,n,c,e,hb,ha⟩:=h;exact⟨A,n,c,e,hb,fun a e h0=>hd _ (ha a e h0)⟩
theorem BV.small (h:BV D w v bs):Small bs:=by
 obtain⟨A,n,c,e,hb,ha⟩:=h;exact hb.small
theorem BV.one {D:Nat->Prop} {w:World} {v:Value} {bs:Bs} (h:BV D w v bs):v.oneCell'=true:=by
 obtain⟨A,n,c,rfl,hb,ha⟩:=h;rfl
theorem BV.of {A:Option Addr} {n c:Nat} (hb:By w A n c bs):BV (fun b=>b<w.heap.size) w (.slice A n c) bs:=
 ⟨A,n,c,rfl,hb,fun a e h0=>hb.sl.lt e h0⟩
theorem BV.lt (h:BV D w v bs):BV (fun b=>D b/\b<w.heap.size) w v bs:=by
 obtain⟨A,n,c,e,hb,ha⟩:=h;exact⟨A,n,c,e,hb,fun a e h0=>⟨ha a e h0,hb.sl.lt e h0⟩⟩
end
end Gl
namespace Gl
open Go Go.RowKit
def EntsAt (D:Nat->Prop) (w:World):List Value->List Ent->Prop
 | [],[]=>True
 | k :: v :: cs,e :: l=>BV D w k e.1/\BV D w v e.2/\EntsAt D w cs l
 | _,_=>False
end Gl
namespace Gl
open Go Go.RowKit
section
variable {D D' T:Nat->Prop} {w w':World}
theorem EntsAt.length:∀ {cs:List Value} {l:List Ent},EntsAt D w cs l->cs.length=l.length*2
 | [],[],_=>rfl
 | k :: v :: cs,e :: l,⟨_,_,h⟩=>by simp[EntsAt.length h];omega
 | [],_ :: _,h=>h.elim
 | [_],[],h=>h.elim
 | [_],_ :: _,h=>h.elim
 | _ :: _ :: _,[],h=>h.elim
theorem EntsAt.imp (hi:∀v bs,BV D w v bs->BV D' w' v bs):∀ {cs:List Value} {l:List Ent},EntsAt D w cs l->EntsAt D' w' cs l
 | [],[],_=>trivial
 | k :: v :: cs,e :: l,⟨a,b,h⟩=>⟨hi _ _ a,hi _ _ b,EntsAt.imp hi h⟩
 | [],_ :: _,h=>h.elim
 | [_],[],h=>h.elim
 | [_],_ :: _,h=>h.elim
 | _ :: _ :: _,[],h=>h.elim
theorem EntsAt.append:∀ {cs cs':List Value} {l l':List Ent},EntsAt D w cs l->EntsAt D w cs' l'->EntsAt D w (cs ++ cs') (l ++ l')
 | [],_,[],_,_,h'=>h'
 | k :: v :: cs,_,e :: l,_,⟨a,b,h⟩,h'=>⟨a,b,EntsAt.append h h'⟩
 | [],_,_ :: _,_,h,_=>h.elim
 | [_],_,[],_,h,_=>h.elim
 | [_],_,_ :: _,_,h,_=>h.elim
 | _ :: _ :: _,_,[],_,h,_=>h.elim
theorem EntsAt.take:∀ {cs:List Value} {l:List Ent} (i:Nat),EntsAt D w cs l->EntsAt D w (cs.take (i*2)) (l.take i)
 | cs,l,0,_=>by simp[EntsAt]
 | [],[],i+1,_=>by simp[EntsAt]
 | k :: v :: cs,e :: l,i+1,⟨a,b,h⟩=>by
   rw[show(i+1)*2=i*2+1+1 by omega];exact⟨a,b,EntsAt.take i h⟩
 | [],_ :: _,_+1,h=>h.elim
 | [_],[],_+1,h=>h.elim
 | [_],_ :: _,_+1,h=>h.elim
 | _ :: _ :: _,[],_+1,h=>h.elim
theorem EntsAt.drop:∀ {cs:List Value} {l:List Ent} (i:Nat),EntsAt D w cs l->EntsAt D w (cs.drop (i*2)) (l.drop i)
 | cs,l,0,h=>by simpa using h
 | [],[],i+1,_=>by simp[EntsAt]
 | k :: v :: cs,e :: l,i+1,⟨a,b,h⟩=>by
   rw[show(i+1)*2=i*2+1+1 by omega];exact EntsAt.drop i h
 | [],_ :: _,_+1,h=>h.elim
 | [_],[],_+1,h=>h.elim
 | [_],_ :: _,_+1,h=>h.elim
 | _ :: _ :: _,[],_+1,h=>h.elim
theorem EntsAt.get:∀ {cs:List Value} {l:List Ent} (i:Nat) {e:Ent},EntsAt D w cs l->l[i]?=some e->∃k v,cs[i*2]?=some k/\cs[i*2+1]?=some v/\BV D w k e.1/\BV D w v e.2
 | k :: v :: cs,e :: l,0,e',⟨a,b,h⟩,he=>by
   simp at he;subst he;exact⟨k,v,rfl,rfl,a,b⟩
 | k :: v :: cs,e :: l,i+1,e',⟨a,b,h⟩,he=>by
   rw[show(i+1)*2=i*2+1+1 by omega]
   simpa using EntsAt.get i h (by simpa using he)
 | [],[],_,_,_,he=>by simp at he
 | [],_ :: _,_,_,h,_=>h.elim
 | [_],[],_,_,h,_=>h.elim
 | [_],_ :: _,_,_,h,_=>h.elim
 | _ :: _ :: _,[],_,_,h,_=>h.elim
theorem EntsAt.oneCells {cs:List Value} {l:List Ent} (h:EntsAt D w cs l):∀u ∈ cs,u.oneCell'=true:=by
 induction l generalizing cs with
 | nil=>cases cs with
   | nil=>intro u hu;cases hu
   | cons k cs=>cases cs<;>exact h.elim
 | cons e l ih=>cases cs with
   | nil=>exact h.elim
   | cons k cs=>cases cs with
     | nil=>exact h.elim
     | cons v cs=>
       obtain⟨a,b,h⟩:=h;intro u hu;simp only[List.mem_cons]at hu;rcases hu with rfl|rfl|hu
       · exact a.one
       · exact b.one
       · exact ih h u hu
end
end Gl
namespace Gl
open Go Go.RowKit
def PageAt (tE base:Nat) (D:Nat->Prop) (w:World) (v:Value) (l:List Ent):Prop:=∃cs,w.ownsRow base tE 2 v l.length cs/\EntsAt D w cs l
structure MapRaw (tE tP base:Nat) (w:World) (bm:Nat) (D:Nat->Prop) (A:Option Addr) (n c N:Nat) (vs:List Value) (ps:List (List Ent)):Prop where
 blk:∃t,w.heap[bm]?=some (.cells #[.slice A n c,.int .i64 (N:Int)] t (0,0))
 row:w.ownsRow base tP 1 (.slice A n c) n vs
 len:vs.length=ps.length
 page:∀(i:Nat) (v:Value) (l:List Ent),vs[i]?=some v->ps[i]?=some l->PageAt tE base D w v l
 inj:∀(i j:Nat) (v v':Value),vs[i]?=some v->vs[j]?=some v'->i≠j->v.ownBlock≠v'.ownBlock
 away:∀(i:Nat) (v:Value) (b:Nat),vs[i]?=some v->v.ownBlock=some b->b≠bm/\(Value.slice A n c).ownBlock≠some b/\¬D b
 bmA:(Value.slice A n c).ownBlock≠some bm
 dm:¬D bm
 dA:∀b,(Value.slice A n c).ownBlock=some b->¬D b
 hb:base<=bm
 lim:∀b,D b->b<w.heap.size
structure MapIn (tE tP base:Nat) (w:World) (bm:Nat) (D:Nat->Prop) (A:Option Addr) (n c:Nat) (vs:List Value) (ps:List (List Ent)):Prop extends MapRaw tE tP base w bm D A n c ps.flatten.length vs ps where
 good:Pages ps
 few:∀l ∈ ps,l.length<=32
def foot (bm:Nat) (D:Nat->Prop) (A:Option Addr) (n c:Nat) (vs:List Value):Nat->Prop:=fun b=>b=bm\/(Value.slice A n c).ownBlock=some b\/(∃v ∈ vs,v.ownBlock=some b)\/D b
def MapAt (tE tP base:Nat) (w:World) (bm:Nat) (F:Nat->Prop) (ps:List (List Ent)):Prop:=
 ∃D A n c vs,MapIn tE tP base w bm D A n c vs ps/\∀b,foot bm D A n c vs b->F b
end Gl
namespace Gl
open Go Go.RowKit
section
variable {tE tP base bm n c:Nat} {w w':World} {D F T:Nat->Prop} {A:Option Addr} {vs:List Value} {ps:List (List Ent)}
theorem PageAt.upd {v:Value} {l:List Ent} (h:PageAt tE base D w v l) (hu:Upd T w w') (hd:∀b,D b->¬T b) (hv:∀b,v.ownBlock=some b->¬T b):PageAt tE base D w' v l:=by
 obtain⟨cs,h1,h2⟩:=h;exact⟨cs,zae h1 (fun b hb hl=>hu.block b hl (hv b hb)),h2.imp fun v bs hb=>hb.upd hu hd⟩
theorem PageAt.mono {D':Nat->Prop} {v:Value} {l:List Ent} (h:PageAt tE base D w v l) (hd:∀b,D b->D' b):PageAt tE base D' w v l:=by
 obtain⟨cs,h1,h2⟩:=h;exact⟨cs,h1,h2.imp fun v bs hb=>hb.mono hd⟩
theorem PageAt.lt {v:Value} {l:List Ent} (h:PageAt tE base D w v l) {b:Nat} (hb:v.ownBlock=some b):b<w.heap.size:=by
 obtain⟨cs,h1,_⟩:=h;exact(zal h1 hb).1
end
end Gl
namespace Gl
open Go Go.RowKit
section
variable {tE tP base bm n c:Nat} {w w':World} {D F T:Nat->Prop} {A:Option Addr} {vs:List Value} {ps:List (List Ent)}
section
variable {N:Nat}
theorem MapRaw.bm_lt (h:MapRaw tE tP base w bm D A n c N vs ps):bm<w.heap.size:=by
 obtain⟨t,ht⟩:=h.blk;exact(zqA.1 ht).1
theorem MapRaw.page_at (h:MapRaw tE tP base w bm D A n c N vs ps) {i:Nat} {v:Value} (hv:vs[i]?=some v):∃l,ps[i]?=some l/\PageAt tE base D w v l:=by
 have hi:i<ps.length:=by rw[<-h.len];exact(List.getElem?_eq_some_iff.1 hv).1
 exact⟨_,zG hi,h.page i v _ hv (zG hi)⟩
theorem MapRaw.foot_lt (h:MapRaw tE tP base w bm D A n c N vs ps) {b:Nat} (hb:foot bm D A n c vs b):b<w.heap.size:=by
 rcases hb with rfl|hb|⟨v,hv,hb⟩|hb
 · exact h.bm_lt
 · exact(zal h.row hb).1
 · obtain⟨i,hi⟩:=List.getElem?_of_mem hv;obtain⟨l,_,hl⟩:=h.page_at hi;exact hl.lt hb
 · exact h.lim b hb
theorem MapRaw.upd (h:MapRaw tE tP base w bm D A n c N vs ps) (hu:Upd T w w') (hf:∀b,foot bm D A n c vs b->¬T b):MapRaw tE tP base w' bm D A n c N vs ps where
 blk:=by
  obtain⟨t,ht⟩:=h.blk;exact⟨t,(hu.block bm h.bm_lt (hf _ (.inl rfl))).trans ht⟩
 row:=zae h.row (fun b hb hl=>hu.block b hl (hf b (.inr (.inl hb))))
 len:=h.len
 page i v l hv hl:=(h.page i v l hv hl).upd hu (fun b hb=>hf b (.inr (.inr (.inr hb)))) (fun b hb=>hf b (.inr (.inr (.inl ⟨v,List.mem_of_getElem? hv,hb⟩))))
 inj:=h.inj
 away:=h.away
 bmA:=h.bmA
 dm:=h.dm
 dA:=h.dA
 hb:=h.hb
 lim b hb:=zqL (h.lim b hb) hu.size
theorem MapRaw.n_eq (h:MapRaw tE tP base w bm D A n c N vs ps):n=ps.length:=by
 have:=h.row.1;rw[<-h.len];omega
theorem MapRaw.cell0 (h:MapRaw tE tP base w bm D A n c N vs ps):w.cell? ⟨bm,0,none⟩=some (.slice A n c):=by
 obtain⟨t,h⟩:=h.blk;simp[World.cell?,h]
theorem MapRaw.cell1 (h:MapRaw tE tP base w bm D A n c N vs ps):w.cell? ⟨bm,1,none⟩=some (.int .i64 (N:Int)):=by
 obtain⟨t,h⟩:=h.blk;simp[World.cell?,h]
theorem MapRaw.frozen (h:MapRaw tE tP base w bm D A n c N vs ps) (i:Nat):w.frozen? ⟨bm,i,none⟩=false:=by
 obtain⟨t,h⟩:=h.blk;simp[World.frozen?,h]
def touch (bm:Nat) (A:Option Addr) (n c:Nat) (vs:List Value) (p:Nat):Nat->Prop:=fun b=>b=bm\/(Value.slice A n c).ownBlock=some b\/∃v,vs[p]?=some v/\v.ownBlock=some b
theorem MapRaw.page_set (h:MapRaw tE tP base w bm D A n c N vs ps) {p N':Nat} {v':Value} {l':List Ent} {D':Nat->Prop} (hp:p<ps.length) (hu:Upd (touch bm A n c vs p) w w')
 (hblk:∃t,w'.heap[bm]?=some (.cells #[.slice A n c,.int .i64 (N':Int)] t (0,0))) (hrow:w'.ownsRow base tP 1 (.slice A n c) n (vs.set p v'))
 (hD:∀b,D b->D' b) (hD2:∀b,D' b->D b\/w.heap.size<=b) (hlim:∀b,D' b->b<w'.heap.size) (hpg:PageAt tE base D' w' v' l')
 (hown:∀b,v'.ownBlock=some b → (∃v,vs[p]?=some v/\v.ownBlock=some b)\/w.heap.size<=b) (hnD:∀b,v'.ownBlock=some b->¬D' b) (hpos:v'.ownBlock≠none):
 MapRaw tE tP base w' bm D' A n c N' (vs.set p v') (ps.set p l'):=by
 have a9:p<vs.length:=by rw[h.len];exact hp
 have a1:∀(i:Nat) (v:Value),(vs.set p v')[i]?=some v → (i=p/\v'=v)\/(i≠p/\vs[i]?=some v):=fun i v hv=>by
  by_cases e:p=i
  · rw[List.getElem?_set,if_pos e,if_pos (e▸a9)]at hv;exact .inl ⟨e.symm,by cases hv;rfl⟩
  · rw[List.getElem?_set,if_neg e]at hv;exact .inr ⟨fun e2=>e e2.symm,hv⟩
 have a5:∀b,(Value.slice A n c).ownBlock=some b->b<w.heap.size:=fun b hb=>(zal h.row hb).1;have a7:∀b,v'.ownBlock=some b->b≠bm/\(Value.slice A n c).ownBlock≠some b:=fun b hb=>by
  rcases hown b hb with⟨v,hv,e⟩|hge
  · exact⟨(h.away p v b hv e).1,(h.away p v b hv e).2.1⟩
  · exact⟨fun e=>by have:=h.bm_lt;omega,fun e=>by have:=a5 b e;omega⟩
 have a4:∀i v b,i≠p->vs[i]?=some v->v.ownBlock=some b->¬touch bm A n c vs p b:=fun i v b hi hv e=>by
  rintro(e2|e2|⟨v2,a3,e2⟩)
  · exact(h.away i v b hv e).1 e2
  · exact(h.away i v b hv e).2.1 e2
  · exact h.inj i p v v2 hv a3 hi (e.trans e2.symm)
 have b0:∀b,D b->¬touch bm A n c vs p b:=fun b hb=>by
  rintro(e2|e2|⟨v2,a3,e2⟩)
  · exact h.dm (e2▸hb)
  · exact h.dA b e2 hb
  · exact(h.away p v2 b a3 e2).2.2 hb
 exact {
  blk:=hblk
  row:=hrow
  len:=by rw[List.length_set,List.length_set];exact h.len
  page:=fun i v l hv hl=>by
   rcases a1 i v hv with⟨rfl,rfl⟩|⟨hi,hv⟩
   · rw[List.getElem?_set,if_pos rfl,if_pos hp]at hl;cases hl;exact hpg
   · rw[List.getElem?_set,if_neg (Ne.symm hi)]at hl;exact((h.page i v l hv hl).upd hu b0 (fun b e=>a4 i v b hi hv e)).mono hD
  inj:=fun i j v u hv hu2 hij e=>by
   have one:∀(k:Nat) (x:Value),k≠p->vs[k]?=some x->v'.ownBlock≠x.ownBlock:=fun k x hk hx e=>by
    cases hb:v'.ownBlock with
    | none=>exact hpos hb
    | some b=>
      rw[hb]at e;rcases hown b hb with⟨v2,a3,e2⟩|hge
      · exact h.inj k p x v2 hx a3 hk (e.symm.trans e2.symm)
      · obtain⟨l,_,hl⟩:=h.page_at hx;have:=hl.lt e.symm;omega
   rcases a1 i v hv with⟨e1,e2⟩|⟨hi,hv3⟩
   · rcases a1 j u hu2 with⟨e3,_⟩|⟨hj,hu3⟩
     · exact hij (e1.trans e3.symm)
     · exact one j u hj hu3 (e2▸e)
   · rcases a1 j u hu2 with⟨e3,e4⟩|⟨hj,hu3⟩
     · exact one i v hi hv3 (e4▸e.symm)
     · exact h.inj i j v u hv3 hu3 hij e
  away:=fun i v b hv e=>by
   rcases a1 i v hv with⟨_,rfl⟩|⟨hi,hv⟩
   · exact⟨(a7 b e).1,(a7 b e).2,hnD b e⟩
   · refine⟨(h.away i v b hv e).1,(h.away i v b hv e).2.1,fun hd=>?_⟩;rcases hD2 b hd with hd|hge
     · exact(h.away i v b hv e).2.2 hd
     · obtain⟨l,_,hl⟩:=h.page_at hv;have:=hl.lt e;omega
  bmA:=h.bmA
  dm:=fun hd=>by
   rcases hD2 bm hd with hd|hge
   · exact h.dm hd
   · have:=h.bm_lt;omega
  dA:=fun b e hd=>by
   rcases hD2 b hd with hd|hge
   · exact h.dA b e hd
   · have:=a5 b e;omega
  hb:=h.hb
  lim:=hlim }
theorem MapRaw.page_ins (h:MapRaw tE tP base w bm D A n c N vs ps) {i c' N':Nat} {A':Option Addr} {v':Value} {l':List Ent} (hi:i<=ps.length) (hu:Upd (fun b=>b=bm\/(Value.slice A n c).ownBlock=some b) w w')
 (hblk:∃t,w'.heap[bm]?=some (.cells #[.slice A' (n+1) c',.int .i64 (N':Int)] t (0,0))) (hrow:w'.ownsRow base tP 1 (.slice A' (n+1) c') (n+1) (vs.take i ++ [v'] ++ vs.drop i))
 (hA:∀b,(Value.slice A' (n+1) c').ownBlock=some b → (Value.slice A n c).ownBlock=some b\/w.heap.size<=b) (hpg:PageAt tE base D w v' l') {g':Nat} (hg:v'.ownBlock=some g')
 (hgn:∀(j:Nat) (v:Value),vs[j]?=some v->v.ownBlock≠some g') (hgb:g'≠bm/\(Value.slice A n c).ownBlock≠some g'/\¬D g'):
 MapRaw tE tP base w' bm D A' (n+1) c' N' (vs.take i ++ [v'] ++ vs.drop i) (ps.take i ++ [l'] ++ ps.drop i):=by
 have a3:i<=vs.length:=by rw[h.len];exact hi
 have a1:∀ {α:Type} (L:List α) (x:α) (j:Nat) (y:α),i<=L.length → (L.take i ++ [x] ++ L.drop i)[j]?=some y → (j=i/\x=y)\/(j<i/\L[j]?=some y)\/(i<j/\L[j-1]?=some y):=fun L x j y hL hy=>by
  rcases Nat.lt_trichotomy j i with hj|hj|hj
  · rw[List.append_assoc,List.getElem?_append_left (by rw[List.length_take];omega),List.getElem?_take,if_pos hj]at hy;exact .inr (.inl ⟨hj,hy⟩)
  · subst hj;rw[List.append_assoc,List.getElem?_append_right (by rw[List.length_take];omega),List.length_take,Nat.min_eq_left hL,Nat.sub_self]at hy;exact .inl ⟨rfl,by simpa using hy⟩
  · rw[List.getElem?_append_right (by rw[List.length_append,List.length_take];simp;omega),List.length_append,List.length_take,Nat.min_eq_left hL,List.getElem?_drop]at hy;refine .inr (.inr ⟨hj,?_⟩);rw[<-hy];congr 1;simp;omega
 have a2:∀(j:Nat) (v:Value),(vs.take i ++ [v'] ++ vs.drop i)[j]?=some v->v'=v\/∃q:Nat,vs[q]?=some v:=fun j v hv=>by
  rcases a1 vs v' j v a3 hv with⟨_,rfl⟩|⟨_,h⟩|⟨_,h⟩
  · exact .inl rfl
  · exact .inr ⟨_,h⟩
  · exact .inr ⟨_,h⟩
 have a6:=hpg.lt hg;have a8:∀b,D b->¬(b=bm\/(Value.slice A n c).ownBlock=some b):=fun b hb=>by
  rintro(e2|e2)
  · exact h.dm (e2▸hb)
  · exact h.dA b e2 hb
 exact {
  blk:=hblk
  row:=hrow
  len:=by simp[h.len]
  page:=fun j v l hv hl=>by
   have key:PageAt tE base D w v l:=by
    rcases a1 vs v' j v a3 hv with⟨e1,rfl⟩|⟨e1,hv⟩|⟨e1,hv⟩<;>rcases a1 ps l' j l hi hl with⟨e2,rfl⟩|⟨e2,hl⟩|⟨e2,hl⟩<;>first|exact hpg|exact h.page _ _ _ hv hl|(exfalso;omega)
   refine key.upd hu a8 (fun b e=>?_);rcases a2 j v hv with rfl|⟨q,hq⟩
   · rw[hg]at e;cases e;rintro(e2|e2)
     · exact hgb.1 e2
     · exact hgb.2.1 e2
   · rintro(e2|e2)
     · exact(h.away q v b hq e).1 e2
     · exact(h.away q v b hq e).2.1 e2
  inj:=fun j k v u hv hu2 hjk e=>by
   rcases a1 vs v' j v a3 hv with⟨e1,rfl⟩|⟨e1,hv⟩|⟨e1,hv⟩<;>rcases a1 vs v' k u a3 hu2 with⟨e2,rfl⟩|⟨e2,hu2⟩|⟨e2,hu2⟩ <;>
    first
    | omega
    | exact hgn _ _ hu2 (e.symm.trans hg)
    | exact hgn _ _ hv (e.trans hg)
    | exact h.inj _ _ _ _ hv hu2 (by omega) e
  away:=fun j v b hv e=>by
   have a7:∀b,b<w.heap.size → (Value.slice A n c).ownBlock≠some b → (Value.slice A' (n+1) c').ownBlock≠some b:=fun b hb hn e=>by
    rcases hA b e with e|hge
    · exact hn e
    · omega
   rcases a2 j v hv with rfl|⟨q,hq⟩
   · rw[hg]at e;cases e;exact⟨hgb.1,a7 _ a6 hgb.2.1,hgb.2.2⟩
   · obtain⟨l,_,hl⟩:=h.page_at hq;exact⟨(h.away q v b hq e).1,a7 _ (hl.lt e) (h.away q v b hq e).2.1,(h.away q v b hq e).2.2⟩
  bmA:=fun e=>by
   rcases hA bm e with e|hge
   · exact h.bmA e
   · have:=h.bm_lt;omega
  dm:=h.dm
  dA:=fun b e hd=>by
   rcases hA b e with e|hge
   · exact h.dA b e hd
   · have:=h.lim b hd;omega
  hb:=h.hb
  lim:=fun b hb=>zqL (h.lim b hb) hu.size }
end
end
end Gl
namespace Gl
open Go Go.RowKit
section
variable {tE tP base bm n c:Nat} {w w':World} {D F T:Nat->Prop} {A:Option Addr} {vs:List Value} {ps:List (List Ent)}
theorem MapIn.upd (h:MapIn tE tP base w bm D A n c vs ps) (hu:Upd T w w') (hf:∀b,foot bm D A n c vs b->¬T b):MapIn tE tP base w' bm D A n c vs ps:=
 ⟨h.toMapRaw.upd hu hf,h.good,h.few⟩
theorem MapAt.upd (h:MapAt tE tP base w bm F ps) (hu:Upd T w w') (hf:∀b,F b->¬T b):MapAt tE tP base w' bm F ps:=by
 obtain⟨D,A,n,c,vs,h1,h2⟩:=h;exact⟨D,A,n,c,vs,h1.upd hu (fun b hb=>hf b (h2 b hb)),h2⟩
theorem MapIn.at (h:MapIn tE tP base w bm D A n c vs ps) {i:Nat} (hi:i<ps.length):∃g gp cp cs,A=some ⟨g,0,none⟩/\vs[i]?=some (.slice (some ⟨gp,0,none⟩) ps[i].length cp)/\w.cell? ⟨g,i,none⟩=some (.slice (some ⟨gp,0,none⟩) ps[i].length cp) /\
 w.ownsRow base tE 2 (.slice (some ⟨gp,0,none⟩) ps[i].length cp) ps[i].length cs/\EntsAt D w cs ps[i]/\0<ps[i].length:=by
 have a4:i<vs.length:=by rw[h.len];exact hi
 have hv:vs[i]?=some vs[i]:=zG a4;obtain⟨cs,h1,h2⟩:=h.page i _ _ hv (zG hi);have a6:ps[i]≠[]:=h.good.1 _ (List.getElem_mem hi);have a1:0<ps[i].length:=List.length_pos_iff.2 a6;obtain⟨g,cap,cur,e1,e2,e3,e4,e5,e6,e7⟩:∃g cap cur,vs[i]=.slice (some ⟨g,0,none⟩) ps[i].length cap/\base<=g/\w.heap[g]?=some (.cells cur tE (0,0))/\ps[i].length<=cap/\cap<=maxLen/\cur.size=cap*2/\cur.toList.take (ps[i].length*2)=cs:=by
  rcases h1.2 with⟨_,h0⟩|h0
  · omega
  · exact h0
 have a2:=Sl.of_own h.row;have hn:=h.toMapRaw.n_eq;obtain⟨g',off,eA,hr⟩:=a2.row (by omega);have a3:off=0:=by
  rcases h.row.2 with⟨e,_⟩|⟨g2,cap2,cur2,e,_⟩
  · cases e;cases eA
  · rw[eA]at e;injection e with e;injection e with e;injection e
 subst a3;refine⟨g',g,cap,cs,eA,by rw[hv,e1],?_,by rw[<-e1];exact h1,h2,a1⟩;have:=hr.2 i _ (by rw[hv,e1])
 simpa using this
theorem Sl.cell {k:Nat} {A:Option Addr} {n c:Nat} {xs:List Value} (h:Sl k w A n c xs) {b off:Nat} (hA:A=some ⟨b,off,none⟩) {i:Nat} {v:Value} (hv:xs[i]?=some v):w.cell? ⟨b,off+i,none⟩=some v:=by
 have hn:0<n:=by
  rcases Nat.eq_zero_or_pos n with h0|h0
  · have:=h.len;rw[h0]at this;have:xs=[]:=List.eq_nil_of_length_eq_zero (by simpa using this);subst this;simp at hv
  · exact h0
 obtain⟨b',a1,e,hr⟩:=h.row hn;rw[hA]at e
 injection e with e
 injection e with e1 e2
 subst e1 e2;exact hr.2 i v hv
theorem page_cells {g cp m:Nat} {cs:List Value} {l:List Ent} (h:w.ownsRow base tE 2 (.slice (some ⟨g,0,none⟩) m cp) m cs) (he:EntsAt D w cs l) {i:Nat} {e:Ent} (hi:l[i]?=some e):
 ∃k v,w.cell? ⟨g,i*2,none⟩=some k/\w.cell? ⟨g,i*2+1,none⟩=some v/\BV D w k e.1/\BV D w v e.2:=by
 obtain⟨k,v,h1,h2,h3,h4⟩:=he.get i hi;have hs:=Sl.of_own h;exact⟨k,v,by simpa using hs.cell rfl h1,by simpa using hs.cell rfl h2,h3,h4⟩
end
end Gl
namespace Gl
open Go Go.RowKit
theorem letW {P:Program} {c:Code} {Q:Exit->Act->World->Prop} {a:Act} {w:World} (R:World->Prop) (h0:R w) (h:∀W,R W->Code.wp P c Q a W):Code.wp P c Q a w:=h w h0
theorem zac {w:World} {b i:Nat} {cs:Array Value} {t:TypeId} {fr:Nat × Nat} (h:w.heap[b]?=some (.cells cs t fr)) (v:Value):(w.setCell ⟨b,i,none⟩ v).heap[b]?=some (.cells (cs.setIfInBounds i v) t fr):=by
 simp[World.setCell,Array.getElem?_modify,h]
theorem zam {w:World} {b c i:Nat} (v:Value) (h:c≠b):(w.setCell ⟨b,i,none⟩ v).heap[c]?=w.heap[c]?:=by
 simp only[World.setCell,Array.getElem?_modify];rw[if_neg (Ne.symm h)]
theorem zaj {w:World} {b:Nat} (o:Obj) (hl:b<w.heap.size):(w.alloc o).heap[b]?=w.heap[b]?:=by
 show(w.heap.push o)[b]?=w.heap[b]?
 rw[Array.getElem?_push_lt hl];simp[hl]
theorem zbo {w:World} {base g n c i k:Nat} {e:TypeId} {vs:List Value} (h:w.ownsRow base e k (.slice (some ⟨g,0,none⟩) n c) n vs) (hi:i<n*k) (v:Value):(w.setCell ⟨g,i,none⟩ v).ownsRow base e k (.slice (some ⟨g,0,none⟩) n c) n (vs.set i v):=by
 have hl:=h.1;rcases h.2 with⟨e,_⟩|⟨g',cap,cur,e,h2,h3,h4,h5,h6,h7⟩
 · cases e
 · cases e;refine⟨by rw[List.length_set];exact hl,.inr ⟨g,c,cur.setIfInBounds i v,rfl,h2,zac h3 v,h4,h5,by simpa using h6,?_⟩⟩;rw[<-h7,Array.toList_setIfInBounds,List.take_set]
theorem EntsAt.set {D:Nat->Prop} {w:World} {cs:List Value} {l:List Ent} (h:EntsAt D w cs l) {i:Nat} (hi:i<l.length) {k v:Value} {e:Ent} (hk:BV D w k e.1) (hv:BV D w v e.2):EntsAt D w ((cs.set (i*2) k).set (i*2+1) v) (l.set i e):=by
 induction l generalizing cs i with
 | nil=>simp at hi
 | cons x l ih=>
   cases cs with
   | nil=>exact h.elim
   | cons a cs=>cases cs with
     | nil=>exact h.elim
     | cons b cs=>
       obtain⟨h1,h2,h3⟩:=h;cases i with
       | zero=>exact⟨hk,hv,h3⟩
       | succ i=>
         rw[show(i+1)*2=i*2+1+1 by omega];exact⟨h1,h2,ih h3 (by simpa using hi)⟩
theorem zaa {w:World} {b:Nat} {cs:Array Value} {t:TypeId} {fr:Nat × Nat} (h:w.heap[b]?=some (.cells cs t fr)) (i:Nat) (v:Value) (hv:cs[i]?=some v):w.cell? ⟨b,i,none⟩=some v:=by
 simp[World.cell?,h,hv]
theorem zqC {w:World} {y:Nat} {v0 v1 v2 v3 v4 v5 v6 v7 v8 v9:Value} {t:TypeId} {z:Nat × Nat} (h:w.heap[y]?=some (.cells #[v0,v1,v2,v3,v4,v5,v6,v7,v8,v9] t z)):w.cell? ⟨y,0,none⟩=some v0∧w.cell? ⟨y,1,none⟩=some v1∧w.cell? ⟨y,2,none⟩=some v2∧w.cell? ⟨y,3,none⟩=some v3∧w.cell? ⟨y,4,none⟩=some v4∧w.cell? ⟨y,5,none⟩=some v5∧w.cell? ⟨y,6,none⟩=some v6∧w.cell? ⟨y,7,none⟩=some v7∧w.cell? ⟨y,8,none⟩=some v8∧w.cell? ⟨y,9,none⟩=some v9:=⟨zaa h 0 _ rfl,zaa h 1 _ rfl,zaa h 2 _ rfl,zaa h 3 _ rfl,zaa h 4 _ rfl,zaa h 5 _ rfl,zaa h 6 _ rfl,zaa h 7 _ rfl,zaa h 8 _ rfl,zaa h 9 _ rfl⟩
theorem zad {w:World} {b:Nat} {cs:Array Value} {t:TypeId} (h:w.heap[b]?=some (.cells cs t (0,0))) (i:Nat):w.frozen? ⟨b,i,none⟩=false:=by
 simp[World.frozen?,h]
theorem own_blk {w:World} {base g n c k:Nat} {e:TypeId} {xs:List Value} (h:w.ownsRow base e k (.slice (some ⟨g,0,none⟩) n c) n xs):∃cur,w.heap[g]?=some (.cells cur e (0,0))/\cur.toList.take (n*k)=xs/\base<=g/\n<=c/\c<=maxLen/\cur.size=c*k:=by
 rcases h.2 with⟨e,_⟩|⟨g',cap,cur,e,h2,h3,h4,h5,h6,h7⟩
 · cases e
 · cases e;exact⟨cur,h3,h7,h2,h4,h5,h6⟩
theorem own_frozen {w:World} {base g n c k:Nat} {e:TypeId} {xs:List Value} (h:w.ownsRow base e k (.slice (some ⟨g,0,none⟩) n c) n xs) (i:Nat):w.frozen? ⟨g,i,none⟩=false:=by
 obtain⟨cur,h1,_⟩:=own_blk h;exact zad h1 i
theorem Sl.sub {w:World} {g n c k a b:Nat} {xs:List Value} (h:Sl k w (some ⟨g,0,none⟩) n c xs) (hab:a+b<=n):Sl k w (some ⟨g,a*k,none⟩) b (c-a) ((xs.drop (a*k)).take (b*k)):=by
 have hl:=h.len;have h1:b*k<=n*k-a*k:=by rw[<-Nat.sub_mul];exact Nat.mul_le_mul_right _ (by omega)
 refine⟨by rw[List.length_take,List.length_drop,hl];omega,by have:=h.le;omega,by have:=h.max;omega,fun hb=>?_,fun e=>by cases e⟩;obtain⟨g',o,e,hr⟩:=h.row (by omega);cases e;refine⟨g,a*k,rfl,?_⟩;have:=(hr.drop (a*k)).take (b*k)
 rwa [Nat.zero_add]at this
end Gl

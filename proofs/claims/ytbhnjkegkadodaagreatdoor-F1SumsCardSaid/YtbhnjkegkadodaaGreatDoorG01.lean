/- Part of the proof. -/
import Derived.Test.YtbhnjkegkadodaaGreatDoorG00
import Derived.WalkKit
import Derived.Lib.Hide
import Derived.Deep.Draws
import Derived.Test.YtbhnjkegkadodaaGreatDoorProg
set_option linter.all false
set_option maxRecDepth 100000
set_option maxHeartbeats 8000000
namespace Gn
open Go Go.RowKit
def Obj.isMut (T:List TypeId):Obj->Bool
 | .cells _ t _=>T.contains t
 | _=>false
structure Keeps (T:List TypeId) (base:Nat) (w w':World):Prop where
 os:w'.os=w.os
 tape:w'.tape=w.tape
 output:w'.output=w.output
 size:w.heap.size<=w'.heap.size
 block:∀k o,w.heap[k]?=some o → (k<base\/Obj.isMut T o=false)->w'.heap[k]?=some o
theorem Keeps.refl (T:List TypeId) (base:Nat) (w:World):Keeps T base w w:=⟨rfl,rfl,rfl,zR _,fun _ _ h _=>h⟩
theorem Keeps.trans {T:List TypeId} {base:Nat} {a b c:World} (h:Keeps T base a b) (k:Keeps T base b c):Keeps T base a c:=
 ⟨k.os.trans h.os,k.tape.trans h.tape,k.output.trans h.output,zT h.size k.size,fun i o ho hm=>k.block i o (h.block i o ho hm) hm⟩
theorem Keeps.mono {T:List TypeId} {base base':Nat} {w w':World} (h:Keeps T base w w') (hb:base'<=base):Keeps T base' w w':=
 ⟨h.os,h.tape,h.output,h.size,fun k o ho hm=>h.block k o ho (hm.imp (fun h=>zqL h hb) id)⟩
theorem Keeps.below {T:List TypeId} {base:Nat} {w w':World} (h:Keeps T base w w') (hb:base<=w.heap.size):Below base w w':=
 ⟨h.os,h.tape,h.output,h.size,fun k hk=>by
   obtain⟨o,ho⟩:∃o,w.heap[k]?=some o:=⟨_,Array.getElem?_eq_getElem (by omega)⟩
   rw[h.block k o ho (.inl hk),ho]⟩
theorem Keeps.cells {T:List TypeId} {base:Nat} {w w':World} (h:Keeps T base w w') {k:Nat} {cs:Array Value} {t:TypeId} {f:Nat × Nat} (ho:w.heap[k]?=some (.cells cs t f)) (ht:T.contains t=false):
 w'.heap[k]?=some (.cells cs t f):=h.block k _ ho (.inr ht)
def Row (w:World) (_t:TypeId) (b off:Nat) (xs:List Value):Prop:=
 ∃cs f t',w.heap[b]?=some (.cells cs t' f)/\∀i v,xs[i]?=some v->cs[off+i]?=some v
theorem Row.cell {w:World} {t:TypeId} {b off:Nat} {xs:List Value} (h:Row w t b off xs) (i:Nat) (v:Value) (hv:xs[i]?=some v):w.cell? ⟨b,off+i,none⟩=some v:=by
 obtain⟨cs,f,t',hh,hc⟩:=h;simp[World.cell?,hh,hc i v hv]
theorem Row.lt {w:World} {t:TypeId} {b off:Nat} {xs:List Value} (h:Row w t b off xs):b<w.heap.size:=by
 obtain⟨cs,f,t',hh,_⟩:=h;exact(zqA.1 hh).1
theorem Row.below {w w':World} {B:Nat} {t:TypeId} {b off:Nat} {xs:List Value} (h:Row w t b off xs) (hk:Below B w w') (hb:b<B):Row w' t b off xs:=by
 obtain⟨cs,f,t',hh,hc⟩:=h;exact⟨cs,f,t',(hk.block b hb).trans hh,hc⟩
theorem Row.drop {w:World} {t:TypeId} {b off:Nat} {xs:List Value} (h:Row w t b off xs) (n:Nat):Row w t b (off+n) (xs.drop n):=by
 obtain⟨cs,f,t',hh,hc⟩:=h;refine⟨cs,f,t',hh,fun i v hv=>?_⟩;rw[Nat.add_assoc];exact hc _ v (by rwa [List.getElem?_drop]at hv)
theorem Row.take {w:World} {t:TypeId} {b off:Nat} {xs:List Value} (h:Row w t b off xs) (n:Nat):Row w t b off (xs.take n):=by
 obtain⟨cs,f,t',hh,hc⟩:=h;refine⟨cs,f,t',hh,fun i v hv=>?_⟩;rw[List.getElem?_take]at hv
 split at hv
 · exact hc i v hv
 · cases hv
def Sl (w:World) (t:TypeId) (v:Value) (xs:List Value):Prop:=
 ∃A c,v=.slice A xs.length c/\xs.length<=c/\c<=maxLen/\(0<xs.length->∃b off,A=some ⟨b,off,none⟩/\Row w t b off xs)
theorem Sl.nil (w:World) (t:TypeId):Sl w t (.slice none 0 0) []:=⟨none,0,rfl,zR _,Nat.zero_le _,fun h=>absurd h (by simp)⟩
theorem Sl.below {w w':World} {t:TypeId} {v:Value} {xs:List Value} (h:Sl w t v xs) (hk:Below w.heap.size w w'):Sl w' t v xs:=by
 obtain⟨A,c,hv,h1,h2,h3⟩:=h;exact⟨A,c,hv,h1,h2,fun hl=>let ⟨b,off,ha,hr⟩:=h3 hl;⟨b,off,ha,hr.below hk hr.lt⟩⟩
theorem Sl.of_block {w:World} {t:TypeId} {g n c:Nat} {cs:Array Value} {f:Nat × Nat} {xs:List Value} (h:w.heap[g]?=some (.cells cs t f)) (hn:xs.length=n) (hc:n<=c) (hm:c<=maxLen)
 (hx:∀(i:Nat) (v:Value),xs[i]?=some v->cs[i]?=some v):Sl w t (.slice (some ⟨g,0,none⟩) n c) xs:=by
 subst hn;exact⟨_,c,rfl,hc,hm,fun _=>⟨g,0,rfl,cs,f,t,h,fun i v hv=>by rw[Nat.zero_add];exact hx i v hv⟩⟩
def NewA (w:World) (A:Option Addr):Prop:=∀a,A=some a->w.heap.size<=a.block
theorem NewA.nil (w:World):NewA w none:=fun a h=>by cases h
theorem NewA.mk {w:World} {g o:Nat} (h:w.heap.size<=g):NewA w (some ⟨g,o,none⟩):=fun a e=>by cases e;exact h
theorem NewA.mono {w w':World} {A:Option Addr} (h:NewA w' A) (hs:w.heap.size<=w'.heap.size):NewA w A:=fun a e=>zT hs (h a e)
abbrev u64 (x:Nat):Value:=.int .u64 (x:Int)
structure NatV (U:TypeId) (w:World) (A:Option Addr) (n c:Nat) (l:List Nat):Prop where
 len:l.length=n
 le:n<=c
 max:c<=maxLen
 lim:Lim l
 row:0<n->∃b off,A=some ⟨b,off,none⟩/\Row w U b off (l.map u64)
end Gn
namespace Gn
open Go Go.RowKit
section
variable {U:TypeId} {w w':World} {A:Option Addr} {n c:Nat} {l:List Nat}
theorem NatV.cell (h:NatV U w A n c l) {b off:Nat} (hA:A=some ⟨b,off,none⟩) (i:Nat) (hi:i<l.length):w.cell? ⟨b,off+i,none⟩=some (u64 l[i]):=by
 obtain⟨b',a1,e,hr⟩:=h.row (by have:=h.len;omega);rw[hA]at e
 injection e with e
 injection e with e1 e2
 subst e1 e2;exact hr.cell i _ (by simp[hi])
theorem NatV.below (h:NatV U w A n c l) (hk:Below w.heap.size w w'):NatV U w' A n c l:=
 ⟨h.len,h.le,h.max,h.lim,fun hn=>let ⟨b,off,e,hr⟩:=h.row hn;⟨b,off,e,hr.below hk hr.lt⟩⟩
theorem NatV.drewN (h:NatV U w A n c l) (k:Nat):NatV U (w.drewN k) A n c l:=
 ⟨h.len,h.le,h.max,h.lim,fun hn=>let ⟨b,off,e,cs,f,t',hh,hc⟩:=h.row hn;⟨b,off,e,cs,f,t',hh,hc⟩⟩
theorem NatV.nil (U:TypeId) (w:World):NatV U w none 0 0 []:=⟨rfl,zR _,Nat.zero_le _,Lim.nil,fun h=>absurd h (by omega)⟩
theorem NatV.take (h:NatV U w A n c l) {k c':Nat} (hk:k<=n) (hc:k<=c') (hm:c'<=maxLen):NatV U w A k c' (l.take k):=
 ⟨by rw[List.length_take_of_le (by rw[h.len];exact hk)],hc,hm,h.lim.take k,fun hn=>by
   obtain⟨b,off,e,hr⟩:=h.row (by omega);refine⟨b,off,e,?_⟩;rw[List.map_take];exact hr.take k⟩
theorem NatV.trim (h:NatV U w A n c l):NatV U w A (trimLen l) (trimLen l) (Gn.trim l):=
 h.take (by rw[<-h.len];exact trimLen_le l) (zR _) (by have:=trimLen_le l;have:=h.len;have:=h.le;have:=h.max;omega)
theorem NatV.of_block {g:Nat} {cs:Array Value} {f:Nat × Nat} (hh:w.heap[g]?=some (.cells cs U f)) (hn:l.length=n) (hc:n<=c) (hm:c<=maxLen) (hl:Lim l)
 (hx:∀(i:Nat) (h:i<l.length),cs[i]?=some (u64 l[i])):NatV U w (some ⟨g,0,none⟩) n c l:=
 ⟨hn,hc,hm,hl,fun _=>⟨g,0,rfl,cs,f,U,hh,fun i v hv=>by
   rw[List.getElem?_map]at hv;cases hi:l[i]? with
   | none=>rw[hi]at hv;cases hv
   | some x=>
     rw[hi]at hv;obtain⟨hlt,hx'⟩:=List.getElem?_eq_some_iff.1 hi;rw[Nat.zero_add,hx i hlt,hx',<-hv];rfl⟩⟩
end
end Gn
namespace Gz
open Go Go.RowKit Go.Proofs Gn
theorem zbb {A:Option Addr} {n c:Nat} {l:List Nat} {w:World} (h:NatV 22 w A n c l):
 Calls Tryz.prog 81 #[.slice A n c] w fun e w'=>e=.returned (.slice A (Gn.trimLen l) (Gn.trimLen l))/\w=w':=by
 have hc:=h.le;have hm:=h.max;unfold maxLen at hm;have H:=Lib.hid h;have H2:=Lib.hid h.len;clear h;go_enter Tryz.func81,Tryz.ntmps81;go_wp2
 go_loop [3] (fun i=>∃k:Nat,k<=n/\i=.int .i64 k/\Hid (∀j,k<=j->∀h:j<l.length,l[j]=0)) (fun i=>(intOf i).toNat)
 case atStart=>exact⟨n,zR _,rfl,Lib.hid fun j hj h=>absurd h (by rw[H2.out];omega)⟩
 case round=>
  obtain⟨k,hk,rfl,hz⟩:=hrel;by_cases h0:0<k
  · obtain⟨b,off,rfl,_⟩:=H.out.row (by omega);have a3:k-1<l.length:=(by rw[H2.out];omega);have a1:=H.out.cell rfl (k-1) a3;have hi:((k:Int)-1).toNat=k-1:=(by omega);by_cases hx:l[k-1]=0
    · simp only[u64]at a1;rw[hx]at a1;go_wp2
      go_round
      case rel=>
       refine⟨k-1,by omega,by congr 1;omega,Lib.hid fun j hj h=>?_⟩;by_cases e:j=k-1
       · subst e;exact hx
       · exact hz.out j (by omega) h
      case measure=>simp[intOf];omega
    · simp only[u64]at a1;have a6:((l[k-1]:Int) == 0)=false:=(by rw[beq_eq_false_iff_ne];omega);go_wp2;go_ret;have e:trimLen l=k:=trimLen_of (by rw[H2.out];omega) hz.out (fun _=>hx);rw[e];exact⟨rfl,rfl⟩
  · obtain rfl:k=0:=(by omega);go_wp2;go_ret;have e:trimLen l=0:=trimLen_of (Nat.zero_le _) hz.out (fun h=>absurd h (by omega));rw[e];exact⟨rfl,rfl⟩
end Gz

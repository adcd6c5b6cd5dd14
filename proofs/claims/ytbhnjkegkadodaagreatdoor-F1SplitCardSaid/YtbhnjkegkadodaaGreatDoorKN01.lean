/- A part of the proof of the statement of this seat: no condition. -/
import Derived.WalkKit
import Derived.Lib.Hide
import Derived.Deep.Draws
import Derived.Test.YtbhnjkegkadodaaGreatDoorProg
import Derived.Maps.AppendAt
import Derived.Laws.MakeOwn
import Derived.WalkSmall
import Derived.BigQuiet
import Derived.Deep.RegionWith
import Derived.Deep.QuietTactic
import Derived.Shelf.Small.Bits
import Derived.Shelf.Strconv.Itoa0
import Derived.Shelf.Bits.Mul64
import Derived.Shelf.Spec.BitsCarry
set_option linter.unusedVariables false
set_option linter.unusedSimpArgs false
set_option maxRecDepth 100000
set_option maxHeartbeats 8000000
namespace Gn
def B:Nat:=18446744073709551616
theorem B_pos:0<B:=by decide
theorem B_pow_pos (n:Nat):0<B ^ n:=Nat.pow_pos B_pos
def val:List Nat->Nat
 | []=>0
 | x :: l=>x+B*val l
@[simp] theorem val_nil:val []=0:=rfl
@[simp] theorem val_cons (x:Nat) (l:List Nat):val (x :: l)=x+B*val l:=rfl
def Lim (l:List Nat):Prop:=∀x ∈ l,x<B
theorem Lim.nil:Lim []:=by intro x h;cases h
theorem Lim.take {l:List Nat} (h:Lim l) (n:Nat):Lim (l.take n):=fun x hx=>h x (List.mem_of_mem_take hx)
theorem Lim.drop {l:List Nat} (h:Lim l) (n:Nat):Lim (l.drop n):=fun x hx=>h x (List.mem_of_mem_drop hx)
theorem Lim.get {l:List Nat} (h:Lim l) (i:Nat) (hi:i<l.length):l[i]<B:=h _ (List.getElem_mem hi)
theorem Lim.append {a b:List Nat} (ha:Lim a) (hb:Lim b):Lim (a ++ b):=fun x hx=>by
 rcases List.mem_append.1 hx with h|h
 · exact ha x h
 · exact hb x h
theorem Lim.set {l:List Nat} (h:Lim l) (i x:Nat) (hx:x<B):Lim (l.set i x):=fun y hy=>by
 rcases List.mem_or_eq_of_mem_set hy with h1|h1
 · exact h y h1
 · exact h1▸hx
theorem Lim.zeros (n:Nat):Lim (List.replicate n 0):=fun x hx=>by
 rw[List.mem_replicate]at hx;rw[hx.2];exact B_pos
theorem Lim.cons {x:Nat} {l:List Nat} (hx:x<B) (h:Lim l):Lim (x :: l):=fun y hy=>by
 rcases List.mem_cons.1 hy with h1|h1
 · exact h1▸hx
 · exact h y h1
theorem val_append (a b:List Nat):val (a ++ b)=val a+B ^ a.length*val b:=by
 induction a with
 | nil=>simp
 | cons x a ih=>simp only[List.cons_append,val_cons,ih,List.length_cons,Nat.pow_succ];rw[Nat.mul_add,Nat.add_assoc,<-Nat.mul_assoc,Nat.mul_comm B (B ^ a.length)]
theorem val_lt {l:List Nat} (h:Lim l):val l<B ^ l.length:=by
 induction l with
 | nil=>simp
 | cons x l ih=>
   have h1:=ih (fun y hy=>h y (List.mem_cons_of_mem _ hy))
   have h2:x<B:=h x List.mem_cons_self
   simp only[val_cons,List.length_cons,Nat.pow_succ]
   have h3:B*(val l+1)<=B*B ^ l.length:=Nat.mul_le_mul_left B h1
   rw[Nat.mul_comm (B ^ l.length) B]
   rw[Nat.mul_add]at h3
   omega
theorem val_zeros (n:Nat):val (List.replicate n 0)=0:=by
 induction n with
 | zero=>rfl
 | succ n ih=>rw[List.replicate_succ,val_cons,ih];simp
theorem val_take_succ (l:List Nat) (i:Nat) (h:i<l.length):val (l.take (i+1))=val (l.take i)+B ^ i*l[i]:=by
 rw[List.take_succ_eq_append_getElem h,val_append,List.length_take_of_le (Nat.le_of_lt h)];simp
theorem val_take_all {l:List Nat} {n:Nat} (h:l.length<=n):val (l.take n)=val l:=by rw[List.take_of_length_le h]
theorem val_split (l:List Nat) (i:Nat) (h:i<=l.length):val l=val (l.take i)+B ^ i*val (l.drop i):=by
 conv=>lhs;rw[<-List.take_append_drop i l]
 rw[val_append,List.length_take_of_le h]
theorem val_set (l:List Nat) (i x:Nat) (h:i<l.length):val (l.set i x)+B ^ i*l[i]=val l+B ^ i*x:=by
 rw[val_split l i (Nat.le_of_lt h),val_split (l.set i x) i (by simpa using Nat.le_of_lt h),List.take_set_of_le (Nat.le_refl _)]
 rw[List.drop_eq_getElem_cons h,List.drop_eq_getElem_cons (by simpa using h)]
 simp only[List.getElem_set_self,val_cons,Nat.mul_add]
 rw[List.drop_set_of_lt (by omega)]
 omega
theorem take_set_succ (l:List Nat) (i x:Nat) (h:i<l.length):(l.set i x).take (i+1)=l.take i ++ [x]:=by
 rw[List.take_succ_eq_append_getElem (by simpa using h),List.take_set_of_le (Nat.le_refl _)];simp
theorem val_take_set (l:List Nat) (i x:Nat) (h:i<l.length):val ((l.set i x).take (i+1))=val (l.take i)+B ^ i*x:=by
 rw[take_set_succ l i x h,val_append,List.length_take_of_le (Nat.le_of_lt h)];simp
theorem val_eq_zero {l:List Nat}:val l=0↔∀x ∈ l,x=0:=by
 induction l with
 | nil=>simp
 | cons x l ih=>
   simp only[val_cons,List.mem_cons,forall_eq_or_imp,<-ih]
   constructor
   · intro h
     refine⟨by omega,?_⟩
     rcases Nat.eq_zero_or_pos (val l) with h0|h0
     · exact h0
     · have:=Nat.mul_pos B_pos h0;omega
   · rintro⟨h1,h2⟩;rw[h1,h2];simp
def Norm (l:List Nat):Prop:=∀h:l≠[],l.getLast h≠0
theorem Norm.nil:Norm []:=fun h=>absurd rfl h
theorem Norm.tail {x:Nat} {l:List Nat} (h:Norm (x :: l)):Norm l:=fun hl=>by
 have:=h (by simp);rwa [List.getLast_cons hl]at this
theorem Norm.val_pos {l:List Nat} (h:Norm l) (hl:l≠[]):0<val l:=by
 rcases Nat.eq_zero_or_pos (val l) with h0|h0
 · exact absurd (val_eq_zero.1 h0 _ (List.getLast_mem hl)) (h hl)
 · exact h0
theorem Norm.eq:∀ {a b:List Nat},Norm a->Norm b->Lim a->Lim b->val a=val b->a=b
 | [],[],_,_,_,_,_=>rfl
 | [],y :: b,_,hb,_,_,h=>by have:=hb.val_pos (by simp);simp at h this;omega
 | x :: a,[],ha,_,_,_,h=>by have:=ha.val_pos (by simp);simp at h this;omega
 | x :: a,y :: b,ha,hb,la,lb,h=>by
   have hx:=la x List.mem_cons_self
   have hy:=lb y List.mem_cons_self
   simp only[val_cons]at h
   have e1:x=y:=by
     have h1:=congrArg (· % B) h
     simp only[Nat.add_mul_mod_self_left]at h1
     rwa [Nat.mod_eq_of_lt hx,Nat.mod_eq_of_lt hy]at h1
   subst e1
   have e2:val a=val b:=Nat.eq_of_mul_eq_mul_left B_pos (by omega)
   rw[Norm.eq ha.tail hb.tail (fun z hz=>la z (List.mem_cons_of_mem _ hz)) (fun z hz=>lb z (List.mem_cons_of_mem _ hz)) e2]
theorem Norm.le_val {l:List Nat} (h:Norm l) (hl:l≠[]):B ^ (l.length-1)<=val l:=by
 induction l with
 | nil=>exact absurd rfl hl
 | cons x l ih=>
   rcases Decidable.em (l=[]) with e|e
   · subst e
     have:=h.val_pos (by simp)
     simp at this ⊢;omega
   · have h1:=ih h.tail e
     have h2:l.length≠0:=fun h0=>e (List.eq_nil_of_length_eq_zero h0)
     simp only[List.length_cons,Nat.add_sub_cancel,val_cons]
     obtain⟨k,hk⟩:∃k,l.length=k+1:=⟨l.length-1,by omega⟩
     rw[hk]at h1 ⊢
     rw[Nat.pow_succ,Nat.mul_comm]
     have:=Nat.mul_le_mul_left B h1
     simp at this ⊢
     omega
theorem Norm.len_le {l:List Nat} {k:Nat} (h:Norm l) (hk:val l<B ^ k):l.length<=k:=by
 rcases Decidable.em (l=[]) with e|e
 · subst e;simp
 · have h1:=h.le_val e
   have h2:B ^ (l.length-1)<B ^ k:=Nat.lt_of_le_of_lt h1 hk
   have h3:=(Nat.pow_lt_pow_iff_right (a:=B) (by decide)).1 h2
   omega
def trimLen:List Nat->Nat
 | []=>0
 | x :: l=>if trimLen l=0/\x=0 then 0 else trimLen l+1
def trim (l:List Nat):List Nat:=l.take (trimLen l)
theorem trimLen_le (l:List Nat):trimLen l<=l.length:=by
 induction l with
 | nil=>simp[trimLen]
 | cons x l ih=>simp only[trimLen,List.length_cons];split<;>omega
theorem trim_cons (x:Nat) (l:List Nat):trim (x :: l)=if trim l=[]/\x=0 then[] else x :: trim l:=by
 unfold trim
 simp only[trimLen]
 have h0:trimLen l=0↔l.take (trimLen l)=[]:=by
  constructor
  · intro h;rw[h];simp
  · intro h
    have h1:=congrArg List.length h
    rw[List.length_take_of_le (trimLen_le l)]at h1
    simpa using h1
 by_cases h:trimLen l=0/\x=0
 · rw[if_pos h,if_pos ⟨h0.1 h.1,h.2⟩];simp
 · rw[if_neg h,if_neg (fun hh=>h ⟨h0.2 hh.1,hh.2⟩)];simp
theorem val_trim (l:List Nat):val (trim l)=val l:=by
 induction l with
 | nil=>rfl
 | cons x l ih=>
   rw[trim_cons]
   split
   · rename_i h;rw[h.1]at ih;simp at ih;simp[h.2,<-ih]
   · simp[ih]
theorem norm_trim (l:List Nat):Norm (trim l):=by
 induction l with
 | nil=>exact Norm.nil
 | cons x l ih=>
   rw[trim_cons]
   split
   · exact Norm.nil
   · rename_i h
     intro hne
     by_cases e:trim l=[]
     · have hx:x≠0:=fun hx=>h ⟨e,hx⟩
       simpa[e] using hx
     · rw[List.getLast_cons e];exact ih e
theorem lim_trim {l:List Nat} (h:Lim l):Lim (trim l):=h.take _
theorem trim_length (l:List Nat):(trim l).length=trimLen l:=List.length_take_of_le (trimLen_le l)
theorem trimLen_of {l:List Nat} {n:Nat} (hn:n<=l.length) (hz:∀j,n<=j->∀h:j<l.length,l[j]=0) (ht:∀h:0<n,l[n-1]'(by omega)≠0):trimLen l=n:=by
 induction l generalizing n with
 | nil=>
   have h0:n=0:=by simpa using hn
   rw[h0];rfl
 | cons x l ih=>
   cases n with
   | zero=>
     have h0:trimLen l=0:=ih (Nat.zero_le _) (fun j _ h=>by have:=hz (j+1) (by omega) (by simp;omega);simpa using this) (fun h=>absurd h (by omega))
     have hx:x=0:=by have:=hz 0 (Nat.le_refl _) (by simp);simpa using this
     simp[trimLen,h0,hx]
   | succ n=>
     have hnl:n<=l.length:=by simpa using hn
     have h0:trimLen l=n:=by
      refine ih hnl (fun j hj h=>by have:=hz (j+1) (by omega) (by simp;omega);simpa using this) (fun h=>?_)
      have:=ht (by omega)
      simp only[Nat.add_sub_cancel]at this
      obtain⟨m,rfl⟩:∃m,n=m+1:=⟨n-1,by omega⟩
      simpa using this
     simp only[trimLen,h0]
     split
     · rename_i h
       obtain⟨h1,h2⟩:=h
       subst h1
       have:=ht (by omega)
       simp at this
       exact absurd h2 this
     · rfl
theorem val_lt_len {a b:List Nat} (ha:Lim a) (hb:Norm b) (h:a.length<b.length):val a<val b:=by
 have h1:=val_lt ha
 have h2:=hb.le_val (fun e=>by rw[e]at h;simp at h)
 have h3:B ^ a.length<=B ^ (b.length-1):=Nat.pow_le_pow_right B_pos (by omega)
 omega
theorem val_lt_at {a b:List Nat} (ha:Lim a) (k:Nat) (hka:k<a.length) (hkb:k<b.length) (hd:a.drop (k+1)=b.drop (k+1)) (hlt:a[k]<b[k]):val a<val b:=by
 rw[val_split a k (by omega),val_split b k (by omega),List.drop_eq_getElem_cons hka,List.drop_eq_getElem_cons hkb,hd]
 have h1:=val_lt (ha.take k)
 rw[List.length_take_of_le (by omega)]at h1
 simp only[val_cons]
 have h2:B ^ k*(a[k]+1)<=B ^ k*b[k]:=Nat.mul_le_mul_left _ hlt
 rw[Nat.mul_add]at h2 ⊢
 rw[Nat.mul_add]
 omega
end Gn
namespace Gn
open Go Go.RowKit
def Obj.isMut (T:List TypeId):Obj->Bool
 | .cells _ t _=>T.contains t
 | _=>false
structure Keeps (T:List TypeId) (base:Nat) (w w':World):Prop where
 os:w'.os=w.os
 tape:w'.tape=w.tape
 output:w'.output=w.output
 size:w.heap.size<=w'.heap.size
 block:∀k o,w.heap[k]?=some o → (k<base\/Obj.isMut T o=false)->w'.heap[k]?=some o
theorem Keeps.refl (T:List TypeId) (base:Nat) (w:World):Keeps T base w w:=⟨rfl,rfl,rfl,Nat.le_refl _,fun _ _ h _=>h⟩
theorem Keeps.trans {T:List TypeId} {base:Nat} {a b c:World} (h:Keeps T base a b) (k:Keeps T base b c):Keeps T base a c:=
 ⟨k.os.trans h.os,k.tape.trans h.tape,k.output.trans h.output,Nat.le_trans h.size k.size,fun i o ho hm=>k.block i o (h.block i o ho hm) hm⟩
theorem Keeps.mono {T:List TypeId} {base base':Nat} {w w':World} (h:Keeps T base w w') (hb:base'<=base):Keeps T base' w w':=
 ⟨h.os,h.tape,h.output,h.size,fun k o ho hm=>h.block k o ho (hm.imp (fun h=>Nat.lt_of_lt_of_le h hb) id)⟩
theorem Keeps.below {T:List TypeId} {base:Nat} {w w':World} (h:Keeps T base w w') (hb:base<=w.heap.size):Below base w w':=
 ⟨h.os,h.tape,h.output,h.size,fun k hk=>by
   obtain⟨o,ho⟩:∃o,w.heap[k]?=some o:=⟨_,Array.getElem?_eq_getElem (by omega)⟩
   rw[h.block k o ho (.inl hk),ho]⟩
theorem Keeps.cells {T:List TypeId} {base:Nat} {w w':World} (h:Keeps T base w w') {k:Nat} {cs:Array Value} {t:TypeId} {f:Nat × Nat} (ho:w.heap[k]?=some (.cells cs t f)) (ht:T.contains t=false):
 w'.heap[k]?=some (.cells cs t f):=h.block k _ ho (.inr ht)
def Row (w:World) (_t:TypeId) (b off:Nat) (xs:List Value):Prop:=
 ∃cs f t',w.heap[b]?=some (.cells cs t' f)/\∀i v,xs[i]?=some v->cs[off+i]?=some v
theorem Row.cell {w:World} {t:TypeId} {b off:Nat} {xs:List Value} (h:Row w t b off xs) (i:Nat) (v:Value) (hv:xs[i]?=some v):w.cell? ⟨b,off+i,none⟩=some v:=by
 obtain⟨cs,f,t',hh,hc⟩:=h
 simp[World.cell?,hh,hc i v hv]
theorem Row.lt {w:World} {t:TypeId} {b off:Nat} {xs:List Value} (h:Row w t b off xs):b<w.heap.size:=by
 obtain⟨cs,f,t',hh,_⟩:=h
 exact(Array.getElem?_eq_some_iff.1 hh).1
theorem Row.below {w w':World} {B:Nat} {t:TypeId} {b off:Nat} {xs:List Value} (h:Row w t b off xs) (hk:Below B w w') (hb:b<B):Row w' t b off xs:=by
 obtain⟨cs,f,t',hh,hc⟩:=h
 exact⟨cs,f,t',(hk.block b hb).trans hh,hc⟩
theorem Row.drop {w:World} {t:TypeId} {b off:Nat} {xs:List Value} (h:Row w t b off xs) (n:Nat):Row w t b (off+n) (xs.drop n):=by
 obtain⟨cs,f,t',hh,hc⟩:=h
 refine⟨cs,f,t',hh,fun i v hv=>?_⟩
 rw[Nat.add_assoc];exact hc _ v (by rwa [List.getElem?_drop]at hv)
theorem Row.take {w:World} {t:TypeId} {b off:Nat} {xs:List Value} (h:Row w t b off xs) (n:Nat):Row w t b off (xs.take n):=by
 obtain⟨cs,f,t',hh,hc⟩:=h
 refine⟨cs,f,t',hh,fun i v hv=>?_⟩
 rw[List.getElem?_take]at hv
 split at hv
 · exact hc i v hv
 · cases hv
def Sl (w:World) (t:TypeId) (v:Value) (xs:List Value):Prop:=
 ∃A c,v=.slice A xs.length c/\xs.length<=c/\c<=maxLen/\(0<xs.length->∃b off,A=some ⟨b,off,none⟩/\Row w t b off xs)
theorem Sl.nil (w:World) (t:TypeId):Sl w t (.slice none 0 0) []:=⟨none,0,rfl,Nat.le_refl _,Nat.zero_le _,fun h=>absurd h (by simp)⟩
theorem Sl.below {w w':World} {t:TypeId} {v:Value} {xs:List Value} (h:Sl w t v xs) (hk:Below w.heap.size w w'):Sl w' t v xs:=by
 obtain⟨A,c,hv,h1,h2,h3⟩:=h
 exact⟨A,c,hv,h1,h2,fun hl=>let ⟨b,off,ha,hr⟩:=h3 hl;⟨b,off,ha,hr.below hk hr.lt⟩⟩
theorem Sl.of_block {w:World} {t:TypeId} {g n c:Nat} {cs:Array Value} {f:Nat × Nat} {xs:List Value} (h:w.heap[g]?=some (.cells cs t f)) (hn:xs.length=n) (hc:n<=c) (hm:c<=maxLen)
 (hx:∀(i:Nat) (v:Value),xs[i]?=some v->cs[i]?=some v):Sl w t (.slice (some ⟨g,0,none⟩) n c) xs:=by
 subst hn
 exact⟨_,c,rfl,hc,hm,fun _=>⟨g,0,rfl,cs,f,t,h,fun i v hv=>by rw[Nat.zero_add];exact hx i v hv⟩⟩
def NewA (w:World) (A:Option Addr):Prop:=∀a,A=some a->w.heap.size<=a.block
theorem NewA.nil (w:World):NewA w none:=fun a h=>by cases h
theorem NewA.mk {w:World} {g o:Nat} (h:w.heap.size<=g):NewA w (some ⟨g,o,none⟩):=fun a e=>by cases e;exact h
theorem NewA.mono {w w':World} {A:Option Addr} (h:NewA w' A) (hs:w.heap.size<=w'.heap.size):NewA w A:=fun a e=>Nat.le_trans hs (h a e)
abbrev u64 (x:Nat):Value:=.int .u64 (x:Int)
structure NatV (U:TypeId) (w:World) (A:Option Addr) (n c:Nat) (l:List Nat):Prop where
 len:l.length=n
 le:n<=c
 max:c<=maxLen
 lim:Lim l
 row:0<n->∃b off,A=some ⟨b,off,none⟩/\Row w U b off (l.map u64)
end Gn
namespace Gn
open Go Go.RowKit
section
variable {U:TypeId} {w w':World} {A:Option Addr} {n c:Nat} {l:List Nat}
theorem NatV.cell (h:NatV U w A n c l) {b off:Nat} (hA:A=some ⟨b,off,none⟩) (i:Nat) (hi:i<l.length):w.cell? ⟨b,off+i,none⟩=some (u64 l[i]):=by
 obtain⟨b',off',e,hr⟩:=h.row (by have:=h.len;omega)
 rw[hA]at e
 injection e with e
 injection e with e1 e2
 subst e1 e2
 exact hr.cell i _ (by simp[hi])
theorem NatV.below (h:NatV U w A n c l) (hk:Below w.heap.size w w'):NatV U w' A n c l:=
 ⟨h.len,h.le,h.max,h.lim,fun hn=>let ⟨b,off,e,hr⟩:=h.row hn;⟨b,off,e,hr.below hk hr.lt⟩⟩
theorem NatV.drewN (h:NatV U w A n c l) (k:Nat):NatV U (w.drewN k) A n c l:=
 ⟨h.len,h.le,h.max,h.lim,fun hn=>let ⟨b,off,e,cs,f,t',hh,hc⟩:=h.row hn;⟨b,off,e,cs,f,t',hh,hc⟩⟩
theorem NatV.nil (U:TypeId) (w:World):NatV U w none 0 0 []:=⟨rfl,Nat.le_refl _,Nat.zero_le _,Lim.nil,fun h=>absurd h (by omega)⟩
theorem NatV.take (h:NatV U w A n c l) {k c':Nat} (hk:k<=n) (hc:k<=c') (hm:c'<=maxLen):NatV U w A k c' (l.take k):=
 ⟨by rw[List.length_take_of_le (by rw[h.len];exact hk)],hc,hm,h.lim.take k,fun hn=>by
   obtain⟨b,off,e,hr⟩:=h.row (by omega)
   refine⟨b,off,e,?_⟩
   rw[List.map_take];exact hr.take k⟩
theorem NatV.trim (h:NatV U w A n c l):NatV U w A (trimLen l) (trimLen l) (Gn.trim l):=
 h.take (by rw[<-h.len];exact trimLen_le l) (Nat.le_refl _) (by have:=trimLen_le l;have:=h.len;have:=h.le;have:=h.max;omega)
theorem NatV.of_block {g:Nat} {cs:Array Value} {f:Nat × Nat} (hh:w.heap[g]?=some (.cells cs U f)) (hn:l.length=n) (hc:n<=c) (hm:c<=maxLen) (hl:Lim l)
 (hx:∀(i:Nat) (h:i<l.length),cs[i]?=some (u64 l[i])):NatV U w (some ⟨g,0,none⟩) n c l:=
 ⟨hn,hc,hm,hl,fun _=>⟨g,0,rfl,cs,f,U,hh,fun i v hv=>by
   rw[List.getElem?_map]at hv
   cases hi:l[i]? with
   | none=>rw[hi]at hv;cases hv
   | some x=>
     rw[hi]at hv
     obtain⟨hlt,hx'⟩:=List.getElem?_eq_some_iff.1 hi
     rw[Nat.zero_add,hx i hlt,hx',<-hv];rfl⟩⟩
end
end Gn
namespace Go.Proofs.YtbhnjkegkadodaaGreatDoor
open Go Go.RowKit Go.Proofs Gn
theorem trim_c {A:Option Addr} {n c:Nat} {l:List Nat} {w:World} (h:NatV 22 w A n c l):
 Calls Tryz.prog 81 #[.slice A n c] w fun e w'=>e=.returned (.slice A (Gn.trimLen l) (Gn.trimLen l))/\w=w':=by
 have hc:=h.le
 have hm:=h.max
 unfold maxLen at hm
 have H:=Lib.hid h
 have H2:=Lib.hid h.len
 clear h
 go_enter Tryz.func81,Tryz.ntmps81
 go_wp2
 go_loop [3] (fun i=>∃k:Nat,k<=n/\i=.int .i64 k/\Hid (∀j,k<=j->∀h:j<l.length,l[j]=0)) (fun i=>(intOf i).toNat)
 case atStart=>exact⟨n,Nat.le_refl _,rfl,Lib.hid fun j hj h=>absurd h (by rw[H2.out];omega)⟩
 case round=>
  obtain⟨k,hk,rfl,hz⟩:=hrel
  by_cases h0:0<k
  · obtain⟨b,off,rfl,_⟩:=H.out.row (by omega)
    have hkl:k-1<l.length:=by rw[H2.out];omega
    have hc1:=H.out.cell rfl (k-1) hkl
    have hi:((k:Int)-1).toNat=k-1:=by omega
    by_cases hx:l[k-1]=0
    · simp only[u64]at hc1
      rw[hx]at hc1
      go_wp2
      go_round
      case rel=>
       refine⟨k-1,by omega,by congr 1;omega,Lib.hid fun j hj h=>?_⟩
       by_cases e:j=k-1
       · subst e;exact hx
       · exact hz.out j (by omega) h
      case measure=>simp[intOf];omega
    · simp only[u64]at hc1
      have hx':((l[k-1]:Int) == 0)=false:=by rw[beq_eq_false_iff_ne];omega
      go_wp2
      go_ret
      have e:trimLen l=k:=trimLen_of (by rw[H2.out];omega) hz.out (fun _=>hx)
      rw[e]
      exact⟨rfl,rfl⟩
  · obtain rfl:k=0:=by omega
    go_wp2
    go_ret
    have e:trimLen l=0:=trimLen_of (Nat.zero_le _) hz.out (fun h=>absurd h (by omega))
    rw[e]
    exact⟨rfl,rfl⟩
end Go.Proofs.YtbhnjkegkadodaaGreatDoor
namespace Gn
open Go Go.RowKit
def LB (U:TypeId) (w:World) (g:Nat) (o:List Nat):Prop:=w.heap[g]?=some (.cells (o.map u64).toArray U (0,0))
end Gn
namespace Gn
open Go Go.RowKit
section
variable {U:TypeId} {w w':World} {g:Nat} {o:List Nat}
theorem LB.lt (h:LB U w g o):g<w.heap.size:=(Array.getElem?_eq_some_iff.1 h).1
theorem LB.cell (h:LB U w g o) (i:Nat) (hi:i<o.length):w.cell? ⟨g,i,none⟩=some (u64 o[i]):=by
 unfold LB at h
 simp[World.cell?,h,hi]
theorem LB.frozen (h:LB U w g o) (i:Nat):w.frozen? ⟨g,i,none⟩=false:=by
 unfold LB at h
 simp[World.frozen?,h]
theorem LB.set (h:LB U w g o) (i x:Nat):LB U (w.setCell ⟨g,i,none⟩ (u64 x)) g (o.set i x):=by
 unfold LB at h ⊢
 simp[World.setCell,Array.getElem?_modify,h]
theorem LB.far (h:LB U w g o) {p:Addr} (hp:p.block≠g) (u:Value):LB U (w.setCell p u) g o:=(Below.heap_setCell w p u g (Ne.symm hp)).trans h
theorem LB.alloc (h:LB U w g o) (x:Obj):LB U (w.alloc x) g o:=(Below.heap_alloc w x g h.lt).trans h
theorem LB.drewN (h:LB U w g o) (k:Nat):LB U (w.drewN k) g o:=h
theorem LB.drew (h:LB U w g o):LB U w.drew g o:=h
theorem LB.below {B:Nat} (h:LB U w g o) (hb:Below B w w') (hg:g<B):LB U w' g o:=(hb.block g hg).trans h
theorem LB.only {row:Option Nat} (h:LB U w g o) (hg:w.grownBy w' row) (hne:some g≠row):LB U w' g o:=(hg.block g h.lt hne).trans h
theorem LB.natV (h:LB U w g o) (hl:Lim o) {n c:Nat} (hn:o.length=n) (hc:n<=c) (hm:c<=maxLen):NatV U w (some ⟨g,0,none⟩) n c o:=
 NatV.of_block h hn hc hm hl fun i hi=>by simp[hi]
theorem LB.new (w:World) (o:List Nat):LB U (w.alloc (.cells (o.map u64).toArray U)) w.heap.size o:=heap_alloc_new w _
end
end Gn
namespace Gn
open Go Go.RowKit
theorem LB.zeros (U:TypeId) (w:World) (n:Nat):LB U (w.alloc (.cells (Array.replicate n (u64 0)) U)) w.heap.size (List.replicate n 0):=by
 have h:=LB.new (U:=U) w (List.replicate n 0)
 rwa [List.map_replicate,List.toArray_replicate]at h
def LP (U:TypeId) (w:World) (g:Nat) (o:List Nat):Prop:=∃r:List Value,w.heap[g]?=some (.cells (o.map u64 ++ r).toArray U (0,0))
end Gn
namespace Gn
open Go Go.RowKit
section
variable {U:TypeId} {w w':World} {g:Nat} {o:List Nat}
theorem LB.lp_take (h:LB U w g o) (k:Nat):LP U w g (o.take k):=⟨(o.drop k).map u64,by rw[<-List.map_append,List.take_append_drop];exact h⟩
theorem LB.lp (h:LB U w g o):LP U w g o:=⟨[],by simpa[LB] using h⟩
theorem LP.lt (h:LP U w g o):g<w.heap.size:=by obtain⟨r,h⟩:=h;exact(Array.getElem?_eq_some_iff.1 h).1
theorem LP.cell (h:LP U w g o) (i:Nat) (hi:i<o.length):w.cell? ⟨g,i,none⟩=some (u64 o[i]):=by
 obtain⟨r,h⟩:=h
 simp[World.cell?,h,List.getElem?_append_left,hi]
theorem LP.frozen (h:LP U w g o) (i:Nat):w.frozen? ⟨g,i,none⟩=false:=by
 obtain⟨r,h⟩:=h
 simp[World.frozen?,h]
theorem LP.set (h:LP U w g o) (i x:Nat) (hi:i<o.length):LP U (w.setCell ⟨g,i,none⟩ (u64 x)) g (o.set i x):=by
 obtain⟨r,h⟩:=h
 refine⟨r,?_⟩
 simp[World.setCell,Array.getElem?_modify,h,List.set_append_left,hi]
theorem LP.far (h:LP U w g o) {p:Addr} (hp:p.block≠g) (u:Value):LP U (w.setCell p u) g o:=by
 obtain⟨r,h⟩:=h
 exact⟨r,(Below.heap_setCell w p u g (Ne.symm hp)).trans h⟩
theorem LP.alloc (h:LP U w g o) (x:Obj):LP U (w.alloc x) g o:=by
 have hl:=h.lt
 obtain⟨r,h⟩:=h
 exact⟨r,(Below.heap_alloc w x g hl).trans h⟩
theorem LP.drewN (h:LP U w g o) (k:Nat):LP U (w.drewN k) g o:=h
theorem LP.below {B:Nat} (h:LP U w g o) (hb:Below B w w') (hg:g<B):LP U w' g o:=by
 obtain⟨r,h⟩:=h
 exact⟨r,(hb.block g hg).trans h⟩
theorem LP.natV (h:LP U w g o) (hl:Lim o) {n c:Nat} (hn:o.length=n) (hc:n<=c) (hm:c<=maxLen):NatV U w (some ⟨g,0,none⟩) n c o:=by
 obtain⟨r,h⟩:=h
 exact NatV.of_block h hn hc hm hl fun i hi=>by simp[List.getElem?_append_left,hi]
theorem LP.of_own {base:Nat} {A:Option Addr} {n c:Nat} (h:w.ownsRow base U 1 (.slice A n c) n (o.map u64)) (hn:0<n):∃g,A=some ⟨g,0,none⟩/\base<=g/\LP U w g o/\n<=c/\c<=maxLen:=by
 rcases h.2 with⟨_,h0⟩|⟨g,cap,cur,e,hb,hh,hnc,hm,_,ht⟩
 · omega
 · injection e with e1 _ e3
   subst e1 e3
   refine⟨g,rfl,hb,⟨cur.toList.drop (n*1),?_⟩,hnc,hm⟩
   rw[hh,<-ht,List.take_append_drop]
end
end Gn
namespace Gn
open Go Go.RowKit
theorem own_new {U:TypeId} {w w0:World} {A:Option Addr} {n c:Nat} {xs:List Value} (h:w.ownsRow w0.heap.size U 1 (.slice A n c) n xs):NewA w0 A:=by
 rcases h.2 with⟨e,h0⟩|⟨g,cap,cur,e,hb,hh,hnc,hm,_,ht⟩
 · injection e with e1 _ _
   subst e1
   exact NewA.nil _
 · injection e with e1 _ e3
   subst e1
   exact NewA.mk hb
theorem NatV.of_own {U:TypeId} {w:World} {base:Nat} {A:Option Addr} {n c:Nat} {l:List Nat} (h:w.ownsRow base U 1 (.slice A n c) n (l.map u64)) (hl:Lim l):NatV U w A n c l:=by
 have hlen:l.length=n:=by simpa using h.1
 rcases h.2 with⟨e,h0⟩|⟨g,cap,cur,e,_,hh,hnc,hm,_,ht⟩
 · injection e with e1 e2 e3
   subst e1 h0 e3
   have:l=[]:=List.eq_nil_of_length_eq_zero hlen
   subst this
   exact NatV.nil U w
 · injection e with e1 _ e3
   subst e1 e3
   refine⟨hlen,hnc,hm,hl,fun _=>⟨g,0,rfl,cur,_,_,hh,fun i v hv=>?_⟩⟩
   rw[Nat.zero_add]
   rw[<-ht,List.getElem?_take]at hv
   split at hv
   · simpa using hv
   · cases hv
theorem ownsRow_form {w:World} {base:Nat} {e:TypeId} {size:Nat} {v:Value} {n:Nat} {xs:List Value} (h:w.ownsRow base e size v n xs):∃A c,v=.slice A n c:=by
 rcases h.2 with⟨e,h0⟩|⟨g,cap,cur,e,_⟩
 · subst h0;exact⟨_,_,e⟩
 · exact⟨_,_,e⟩
def Src (w:World) (A:Option Addr) (m:Nat) (news:List Value):Prop:=
 0<m->∃b off,A=some ⟨b,off,none⟩/\∀(j:Nat) (u:Value),news[j]?=some u->w.cell? ⟨b,off+j,none⟩=some u
theorem Src.of_natV {U:TypeId} {w:World} {A:Option Addr} {n c:Nat} {l:List Nat} (h:NatV U w A n c l):Src w A n (l.map u64):=fun hn=>by
 obtain⟨b,off,e,hr⟩:=h.row hn
 exact⟨b,off,e,fun j u hu=>hr.cell j u hu⟩
end Gn
namespace Gn
open Go Go.RowKit
section
variable {P:Program} (w:World)
theorem run_append_src (base:Nat) (t ty e:TypeId) (i:TypeInfo) (z:Value) (size bytes:Nat) (ht:P.underlying t=some (.slice e)) (hi:P.info? e=some i) (hz:i.zero=some z)
 (hsize:i.size=size) (hby:i.bytes=bytes) (hzs:z.cells.size=size) (hsz:0<size)
 (v:Value) (n:Nat) (xs:List Value) (hown:w.ownsRow base e size v n xs)
 (A:Option Addr) (m c:Nat) (news:List Value) (hl:news.length=m*size) (hsrc:Src w A m news) (h1:∀u ∈ news,u.oneCell'=true)
 (h63:n+m<=maxLen) (hbytes:(n+m)*bytes<=140737488355328) (hbase:base<=w.heap.size):
 ∃v' w',(Builtin.append_ #[t,t] ty #[v,.slice A m c]).run P w=.ok v' w'/\w'.ownsRow base e size v' (n+m) (xs ++ news)/\w.grownBy w' v.ownBlock /\
  (v'.ownBlock=v.ownBlock\/v'.ownBlock=some w.heap.size):=by
 cases A with
 | none=>
   have hm:m=0:=by
    rcases Nat.eq_zero_or_pos m with h0|h0
    · exact h0
    · obtain⟨b,off,h,_⟩:=hsrc h0;cases h
   subst hm
   have hn:news=[]:=List.eq_nil_of_length_eq_zero (by simpa using hl)
   subst hn
   refine⟨v,w,?_,by simpa using hown,⟨rfl,rfl,rfl,Nat.le_refl _,fun _ _ _=>rfl⟩,.inl rfl⟩
   rcases hown.2 with⟨rfl,rfl⟩|⟨g,cap,cur,rfl,_,_,hnc,_⟩
   · simp[Builtin.append_,run_underlying ht,Go.sizeOf,typeInfo,hi,Builtin.lenOf,Builtin.firstCells]
   · simp[Builtin.append_,run_underlying ht,Go.sizeOf,typeInfo,hi,Builtin.lenOf,Builtin.firstCells,hnc,storeCells]
 | some ad=>
   have hnews:∀j u,news[j]?=some u->w.cell? (ad.add j)=some u:=by
    intro j u hu
    rcases Nat.eq_zero_or_pos m with h0|h0
    · subst h0
      have hn:news=[]:=List.eq_nil_of_length_eq_zero (by simpa using hl)
      subst hn;simp at hu
    · obtain⟨b,off,h,hc⟩:=hsrc h0
      injection h with h
      subst h
      have:=hc j u hu
      rwa [show(⟨b,off,none⟩:Addr).add j=⟨b,off+j,none⟩ from by unfold Addr.add;split<;>simp_all]
   obtain⟨v',w',hr,h2,h3,_,h5⟩:=run_append_own_at (P:=P) w base t ty e i z size bytes ht hi hz hsize hby hzs hsz v n xs hown ad m c news hl hnews h1 h63 hbytes hbase
   exact⟨v',w',hr,h2,h3,h5⟩
theorem wpList_append_src {ops:Array Oper} {rest:List Oper} {o:Oper} {a:Act} {Q:Exit->Act->World->Prop} (hgd:o.guard=none) (s x:Operand) (t:TypeId)
 (ho:o.op=.call { callee:=.builtin .append,args:=#[s,x],argTypes:=#[t,t] })
 (base:Nat) (e:TypeId) (i:TypeInfo) (z:Value) (size bytes:Nat) (ht:P.underlying t=some (.slice e)) (hi:P.info? e=some i) (hz:i.zero=some z)
 (hsize:i.size=size) (hby:i.bytes=bytes) (hzs:z.cells.size=size) (hsz:0<size)
 (v:Value) (n:Nat) (xs:List Value) (hs:a.eval s=v) (hown:w.ownsRow base e size v n xs)
 (A:Option Addr) (m c:Nat) (news:List Value) (hx:a.eval x=.slice A m c) (hl:news.length=m*size) (hsrc:Src w A m news) (h1:∀u ∈ news,u.oneCell'=true)
 (h63:n+m<=maxLen) (hbytes:(n+m)*bytes<=140737488355328) (hbase:base<=w.heap.size)
 (h:∀A' c' w',w'.ownsRow base e size (.slice A' (n+m) c') (n+m) (xs ++ news)->w.grownBy w' v.ownBlock → ((Value.slice A' (n+m) c').ownBlock=v.ownBlock\/(Value.slice A' (n+m) c').ownBlock=some w.heap.size)->wpList P ops Q rest (a.put o.dst (.slice A' (n+m) c')) w'):
 wpList P ops Q (o :: rest) a w:=by
 refine wpList_plain hgd fun K hK=>?_
 obtain⟨v',w',hr,h2,h3,h4⟩:=run_append_src (P:=P) w base t o.type e i z size bytes ht hi hz hsize hby hzs hsz v n xs hown A m c news hl hsrc h1 h63 hbytes hbase
 obtain⟨A',c',rfl⟩:=ownsRow_form h2
 unfold Oper.wp execOp
 simp only[ho,resolve,invoke,builtin,Sem.run_bind,Sem.run_pure,Result.andThen_ok,List.map_toArray,List.map_cons,List.map_nil,hs,hx,hr]
 exact hK _ _ (h A' c' w' h2 h3 h4)
end
end Gn
namespace Gn
open Go Go.RowKit
theorem run_make_limbs {P:Program} (t U:TypeId) (i:TypeInfo) (ht:P.underlying t=some (.slice U)) (hi:P.info? U=some i) (hz:i.zero=some (.int .u64 0)) (hs:i.size=1) (hb:i.bytes=8)
 (n:Nat) (hn:n<=1073741824) (w:World):
 (Instr.makeSlice t (.int .i64 (n:Int)) (.int .i64 (n:Int))).run P w=.ok (.slice (some ⟨w.heap.size,0,none⟩) n n) (w.alloc (.cells ((List.replicate n 0).map u64).toArray U)):=by
 have hr:=run_make (P:=P) w t U i (.int .u64 0) ht hi hz .i64 .i64 n n (by omega) (by omega) (by rw[hb];omega) (by omega)
 simp only[Int.toNat_natCast,hs,Nat.mul_one]at hr
 rw[hr]
 have e:madeCells (Value.int .u64 0).cells n=((List.replicate n 0).map u64).toArray:=by
  apply Array.ext'
  apply List.ext_getElem
  · simp[madeCells]
  · intro j h1 h2
    simp[madeCells,Value.cells,Nat.mod_one]
 rw[e]
theorem only_setCell {a w:World} {g:Nat} (h:a.grownBy w (some g)) {p:Addr} (hp:p.block=g) (u:Value):a.grownBy (w.setCell p u) (some g):=
 ⟨h.os,h.tape,h.output,by simpa[World.setCell] using h.size,fun i hi hne=>(Below.heap_setCell w p u i (by rintro rfl;exact hne (by rw[hp]))).trans (h.block i hi hne)⟩
theorem NatV.grown {U:TypeId} {w w':World} {A:Option Addr} {n c:Nat} {l:List Nat} {row:Option Nat} (h:NatV U w A n c l) (hg:w.grownBy w' row) (hne:∀b off,0<n->A=some ⟨b,off,none⟩->some b≠row):NatV U w' A n c l:=
 ⟨h.len,h.le,h.max,h.lim,fun hn=>let ⟨b,off,e,hr⟩:=h.row hn;⟨b,off,e,by
   have hlt:=hr.lt
   obtain⟨cs,f,t',hh,hc⟩:=hr
   exact⟨cs,f,t',(hg.block b hlt (hne b off hn e)).trans hh,hc⟩⟩⟩
end Gn
namespace Go.Proofs.YtbhnjkegkadodaaGreatDoor
open Go Go.RowKit Go.Proofs Gn
theorem info22:(Tryz.prog.info? 22).map (fun i=>(i.zero,i.size,i.bytes))=some (some (.int .u64 0),1,8):=by kernel_rfl
theorem oneCell_u64 (l:List Nat):∀u ∈ l.map u64,u.oneCell'=true:=fun u hu=>by
 obtain⟨x,_,rfl⟩:=List.mem_map.1 hu;rfl
theorem Norm_c {A:Option Addr} {n c:Nat} {l:List Nat} {w:World} (h:NatV 22 w A n c l) (hb:n<=1073741824):
 Calls Tryz.prog 147 #[.slice A n c] w fun e w'=>∃A' c',e=.returned (.slice A' (Gn.trimLen l) c')/\w'.ownsRow w.heap.size 22 1 (.slice A' (Gn.trimLen l) c') (Gn.trimLen l) ((Gn.trim l).map u64)/\Below w.heap.size w w':=by
 obtain⟨i0,hi0,hz0,hz1,hz2⟩:=info_parts info22
 have ht:=h.trim
 have hb':trimLen l<=1073741824:=by have:=trimLen_le l;have:=h.len;omega
 go_enter Tryz.func147,Tryz.ntmps147
 go_wp2_with (first
  | (go_at_call 81;refine(trim_c h).mono ?_;rintro e w' ⟨rfl,rfl⟩)
  | (at_builtin
     refine wpList_append_src _ rfl _ _ _ rfl w.heap.size 22 i0 _ 1 8 Tryz.underlying24 hi0 hz0 hz1 hz2 rfl (by omega) (.slice none 0 0) 0 [] rfl (World.ownsRow_nil _ _ _ _) _ _ _ ((Gn.trim l).map u64) rfl (by simp[trim_length]) (Src.of_natV ht) (oneCell_u64 _) (by simp only[maxLen];omega) (by omega) (Nat.le_refl _) ?_
     intro A' c' w1 hown1 hg1 hat1))
 simp only[Nat.zero_add,List.nil_append]at hown1
 go_ret
 exact⟨_,_,rfl,hown1,(Below.refl _ _).grown hg1 (Nat.le_refl _) (by simp[Value.ownBlock])⟩
def ofL (x:Nat):List Nat:=if x=0 then[] else[x]
theorem Of_c (x:Int) (h0:0<=x) (h1:x<=18446744073709551615) (w:World):
 Calls Tryz.prog 30 #[.int .u64 x] w fun e w'=>∃A n c,e=.returned (.slice A n c)/\NatV 22 w' A n c (ofL x.toNat)/\Below w.heap.size w w'/\NewA w A:=by
 by_cases hx:x=0
 · subst hx
   go_enter Tryz.func30,Tryz.ntmps30
   go_wp2
   go_ret
   exact⟨none,0,0,rfl,NatV.nil _ _,Below.refl _ _,NewA.nil _⟩
 · have hb:(x == 0)=false:=by rw[beq_eq_false_iff_ne];exact hx
   obtain⟨m,rfl⟩:=Int.eq_ofNat_of_zero_le h0
   go_enter Tryz.func30,Tryz.ntmps30
   go_wp2
   go_ret
   have e:ofL (m:Int).toNat=[m]:=by simp[ofL];omega
   rw[e]
   refine⟨_,_,_,rfl,?_,(Below.refl _ _).alloc (Nat.le_refl _) _,NewA.mk (Nat.le_refl _)⟩
   exact(LB.new w [m]).natV (fun y hy=>by simp at hy;subst hy;unfold B;omega) rfl (Nat.le_refl _) (by simp[maxLen])
def cmpI (x y:Int):Int:=if x<y then -1 else if y<x then 1 else 0
theorem cmpI_lt {x y:Int} (h:x<y):cmpI x y = -1:=by unfold cmpI;rw[if_pos h]
theorem cmpI_gt {x y:Int} (h:y<x):cmpI x y=1:=by unfold cmpI;rw[if_neg (by omega),if_pos h]
theorem cmpI_eq {x y:Int} (h:y<=x) (h':x<=y):cmpI x y=0:=by unfold cmpI;rw[if_neg (by omega),if_neg (by omega)]
theorem Compare_int (x y:Int) (w:World):Calls Tryz.prog 84 #[.int .i64 x,.int .i64 y] w fun e w'=>e=.returned (.int .i64 (cmpI x y))/\w=w':=by
 go_enter Tryz.func84,Tryz.ntmps84
 go_wp2
 all_goals go_ret
 · rw[cmpI_lt (by assumption)];exact⟨rfl,rfl⟩
 · rw[cmpI_gt (by assumption)];exact⟨rfl,rfl⟩
 · rw[cmpI_eq (by assumption) (by assumption)];exact⟨rfl,rfl⟩
theorem Compare_u64 (x y:Int) (w:World):Calls Tryz.prog 85 #[.int .u64 x,.int .u64 y] w fun e w'=>e=.returned (.int .i64 (cmpI x y))/\w=w':=by
 go_enter Tryz.func85,Tryz.ntmps85
 go_wp2
 all_goals go_ret
 · rw[cmpI_lt (by assumption)];exact⟨rfl,rfl⟩
 · rw[cmpI_gt (by assumption)];exact⟨rfl,rfl⟩
 · rw[cmpI_eq (by assumption) (by assumption)];exact⟨rfl,rfl⟩
theorem quiet_l {P:Program} {f:FuncId} {args:Array Value} {w:World} {n:Nat} {v:Value} (h:Calls P f args (w.drewN n) fun e w'=>e=.returned v/\w.drewN n=w'):
 Calls P f args (w.drewN n) fun e w''=>e=.returned v/\∃m,w''=w.drewN m:=h.mono fun _ _ hh=>⟨hh.1,n,hh.2.symm⟩
theorem Cmp_c {A A':Option Addr} {n c n' c':Nat} {a b:List Nat} {w:World} (ha:NatV 22 w A n c a) (hb:NatV 22 w A' n' c' b):
 Calls Tryz.prog 31 #[.slice A n c,.slice A' n' c'] w fun e w'=>e=.returned (.int .i64 (cmpI (val a) (val b)))/\∃q,w'=w.drewN q:=by
 have hta:=ha.trim
 have htb:=hb.trim
 have Hla:=Lib.hid (lim_trim ha.lim)
 have Hlb:=Lib.hid (lim_trim hb.lim)
 have ea:=Lib.hid (val_trim a)
 have eb:=Lib.hid (val_trim b)
 have Na:=Lib.hid (norm_trim a)
 have Nb:=Lib.hid (norm_trim b)
 have la:=Lib.hid (trim_length a)
 have lb:=Lib.hid (trim_length b)
 have hma:=hta.max
 have hmb:=htb.max
 unfold maxLen at hma hmb
 rcases Nat.lt_trichotomy (trimLen a) (trimLen b) with hlt|heq|hgt
 · go_enter Tryz.func31,Tryz.ntmps31
   go_wp2_with (first
    | (go_at_call_of 81 (Value.slice A n c);refine(trim_c ha).mono ?_;rintro e w' ⟨rfl,rfl⟩)
    | (go_at_call_of 81 (Value.slice A' n' c');refine(trim_c hb).mono ?_;rintro e w' ⟨rfl,rfl⟩)
    | (go_at_call 84;refine(Compare_int _ _ _).mono ?_;rintro e w' ⟨rfl,rfl⟩;rw[cmpI_lt (by omega)]))
   go_ret
   rw[cmpI_lt (by rw[<-ea.out,<-eb.out];have:=val_lt_len Hla.out Nb.out (by rw[la.out,lb.out];exact hlt);omega)]
   exact⟨rfl,0,rfl⟩
 · obtain⟨m,hm⟩:∃m,m=trimLen b:=⟨_,rfl⟩
   have H:=Lib.hid ha;have H':=Lib.hid hb
   have T:=Lib.hid hta;have T':=Lib.hid htb
   rw[heq,<-hm]at T
   rw[<-hm]at T'
   rw[heq,<-hm]at hma
   have E:=Lib.hid heq;have E':=Lib.hid hm
   clear ha hb hta htb heq hm hmb
   go_enter Tryz.func31,Tryz.ntmps31
   go_wp2_with (first
    | (go_at_call_of 81 (Value.slice A n c);refine(trim_c H.out).mono ?_;rintro e w' ⟨rfl,rfl⟩;rw[E.out,<-E'.out])
    | (go_at_call_of 81 (Value.slice A' n' c');refine(trim_c H'.out).mono ?_;rintro e w' ⟨rfl,rfl⟩;rw[<-E'.out])
    | (go_at_call 84;refine(Compare_int _ _ _).mono ?_;rintro e w' ⟨rfl,rfl⟩;rw[cmpI_eq (by omega) (by omega)]))
   have La:=Lib.hid (show(trim a).length=m by rw[la.out,E.out,<-E'.out])
   have Lb:=Lib.hid (show(trim b).length=m by rw[lb.out,<-E'.out])
   go_loopw [6] (fun i wr=>∃k:Nat,k<=m/\i=.int .i64 ((k:Int)-1)/\Hid ((trim a).drop k=(trim b).drop k)/\Hid (∃q,wr=w.drewN q)) (fun i _=>(intOf i+1).toNat)
   case atStart=>exact⟨m,Nat.le_refl _,rfl,Lib.hid (by rw[List.drop_eq_nil_of_le (by rw[La.out];omega),List.drop_eq_nil_of_le (by rw[Lb.out];omega)]),Lib.hid ⟨0,rfl⟩⟩
   case round=>
    obtain⟨k,hk,rfl,hd,hq⟩:=hrel
    by_cases h0:0<k
    · obtain⟨b1,o1,rfl,_⟩:=T.out.row (by omega)
      obtain⟨b2,o2,rfl,_⟩:=T'.out.row (by omega)
      have hca:wr.cell? _=_:=(by obtain⟨q,rfl⟩:=hq.out;exact T.out.drewN q:NatV 22 wr _ _ _ _).cell rfl (k-1) (by rw[La.out];omega)
      have hcb:wr.cell? _=_:=(by obtain⟨q,rfl⟩:=hq.out;exact T'.out.drewN q:NatV 22 wr _ _ _ _).cell rfl (k-1) (by rw[Lb.out];omega)
      obtain⟨x,hx⟩:∃x,x=(trim a)[k-1]'(by rw[La.out];omega):=⟨_,rfl⟩
      obtain⟨y,hy⟩:∃y,y=(trim b)[k-1]'(by rw[Lb.out];omega):=⟨_,rfl⟩
      simp only[u64]at hca hcb
      rw[<-hx]at hca
      rw[<-hy]at hcb
      have hi:((k:Int)-1).toNat=k-1:=by omega
      have X:=Lib.hid hx;have Y:=Lib.hid hy;clear hx hy
      have hk1:(k:Int)-1<(m:Int):=by omega
      have hk2:(0:Int)<=(k:Int)-1:=by omega
      have step:∀z:Int,z=cmpI x y → (z != 0)=true->cmpI (val a) (val b)=z:=by
       intro z hz hne
       have hxl:=X.out
       have hyl:=Y.out
       have hdr:(trim a).drop (k-1+1)=(trim b).drop (k-1+1):=by rw[show k-1+1=k from by omega];exact hd.out
       have ka:k-1<(trim a).length:=by rw[La.out];omega
       have kb:k-1<(trim b).length:=by rw[Lb.out];omega
       rcases Nat.lt_trichotomy x y with hlt|he|hgt
       · rw[cmpI_lt (by omega)]at hz
         have:=val_lt_at Hla.out (k-1) ka kb hdr (by rw[<-hxl,<-hyl];exact hlt)
         rw[hz,cmpI_lt (by rw[<-ea.out,<-eb.out];omega)]
       · rw[cmpI_eq (by omega) (by omega)]at hz
         subst hz;simp at hne
       · rw[cmpI_gt (by omega)]at hz
         have:=val_lt_at Hlb.out (k-1) kb ka hdr.symm (by rw[<-hxl,<-hyl];exact hgt)
         rw[hz,cmpI_gt (by rw[<-ea.out,<-eb.out];omega)]
      have S:=Lib.hid step;clear step
      obtain⟨z,hz⟩:∃z,z=cmpI (x:Int) y:=⟨_,rfl⟩
      have C:∀W,Calls Tryz.prog 85 #[.int .u64 x,.int .u64 y] W fun e w'=>e=.returned (.int .i64 z)/\W=w':=by rw[hz];exact fun W=>Compare_u64 _ _ W
      have Z:=Lib.hid hz;clear hz
      have CC:=Lib.hid C;clear C
      by_cases hz0:z=0
      · have hzb:(z != 0)=false:=by rw[hz0];rfl
        have Z0:=Lib.hid hz0;clear hz0
        go_wp2_with fail
        go_quiet ((go_at_call 85;exact quiet_l (CC.out _)))
        go_wp2
        go_roundw
        case rel=>
         refine⟨k-1,by omega,by congr 1;omega,Lib.hid ?_,Lib.hid (by obtain⟨q,rfl⟩:=hq.out;exact⟨_,World.drewN_drewN _ _ _⟩)⟩
         have ka:k-1<(trim a).length:=by rw[La.out];omega
         have kb:k-1<(trim b).length:=by rw[Lb.out];omega
         rw[List.drop_eq_getElem_cons ka,List.drop_eq_getElem_cons kb,show k-1+1=k from by omega,hd.out,<-X.out,<-Y.out]
         have hxy:x=y:=by
          have h1:=Z.out;rw[Z0.out]at h1
          rcases Nat.lt_trichotomy x y with hlt|he|hgt
          · rw[cmpI_lt (by omega)]at h1;omega
          · exact he
          · rw[cmpI_gt (by omega)]at h1;omega
         rw[hxy]
        case measure=>simp[intOf];omega
      · have hzb:(z != 0)=true:=by rw[bne_iff_ne];exact hz0
        clear hz0
        go_wp2_with fail
        go_quiet ((go_at_call 85;exact quiet_l (CC.out _)))
        go_wp2
        go_ret
        rw[S.out z Z.out hzb]
        exact⟨rfl,by obtain⟨q,rfl⟩:=hq.out;exact⟨_,World.drewN_drewN _ _ _⟩⟩
    · obtain rfl:k=0:=by omega
      go_wp2
      go_ret
      have e:trim a=trim b:=by simpa using hd.out
      rw[cmpI_eq (by rw[<-ea.out,<-eb.out,e];omega) (by rw[<-ea.out,<-eb.out,e];omega)]
      exact⟨rfl,hq.out⟩
 · go_enter Tryz.func31,Tryz.ntmps31
   go_wp2_with (first
    | (go_at_call_of 81 (Value.slice A n c);refine(trim_c ha).mono ?_;rintro e w' ⟨rfl,rfl⟩)
    | (go_at_call_of 81 (Value.slice A' n' c');refine(trim_c hb).mono ?_;rintro e w' ⟨rfl,rfl⟩)
    | (go_at_call 84;refine(Compare_int _ _ _).mono ?_;rintro e w' ⟨rfl,rfl⟩;rw[cmpI_gt (by omega)]))
   go_ret
   rw[cmpI_gt (by rw[<-ea.out,<-eb.out];have:=val_lt_len Hlb.out Na.out (by rw[la.out,lb.out];exact hgt);omega)]
   exact⟨rfl,0,rfl⟩
end Go.Proofs.YtbhnjkegkadodaaGreatDoor
namespace Go.Proofs
open Go.Shelf
def Tryz.lays134_ren:Go.Shelf.Ren:=⟨fun|134=>245|129=>131|n=>n,fun|53=>22|3=>3|4=>4|46=>168|5=>5|9=>9|n=>n,fun|n=>n⟩
theorem Tryz.lays134:Go.Proofs.Lays.n134 Tryz.prog Tryz.lays134_ren:={
 mixed:=by kernel_rfl
 f129:=Tryz.func131.trans (congrArg some (by kernel_rfl))
 f134:=Tryz.func245.trans (congrArg some (by kernel_rfl))
 t3:=Tryz.underlying3
 a3:=Tryz.isAgg3
 z3:=Tryz.sizeOf3
 v3:=Tryz.zeroValue3
 t4:=Tryz.underlying4
 a4:=Tryz.isAgg4
 z4:=Tryz.sizeOf4
 v4:=Tryz.zeroValue4
 t5:=Tryz.underlying5
 a5:=Tryz.isAgg5
 z5:=Tryz.sizeOf5
 v5:=Tryz.zeroValue5
 t9:=Tryz.underlying9
 a9:=Tryz.isAgg9
 z9:=Tryz.sizeOf9
 v9:=Tryz.zeroValue9
 t46:=Tryz.underlying168
 a46:=Tryz.isAgg168
 z46:=Tryz.sizeOf168
 v46:=Tryz.zeroValue168
 t53:=Tryz.underlying22
 a53:=Tryz.isAgg22
 z53:=Tryz.sizeOf22
 v53:=Tryz.zeroValue22 }
theorem Tryz.bits_LeadingZeros64 (x:Int) (w:World) (h0:0<=x) (h1:x<=18446744073709551615):
 Calls Tryz.prog 245 #[.int .u64 x] w fun e w'=>e=.returned (.int .i64 (64-(Lib.bitLen x.toNat:Int)))/\w'=w:=Any.bits_LeadingZeros64 Tryz.lays134 x w h0 h1
def Tryz.lays129_ren:Go.Shelf.Ren:=⟨fun|129=>131|n=>n,fun|53=>22|3=>3|4=>4|46=>168|5=>5|9=>9|n=>n,fun|n=>n⟩
theorem Tryz.lays129:Go.Proofs.Lays.n129 Tryz.prog Tryz.lays129_ren:={
 mixed:=by kernel_rfl
 f129:=Tryz.func131.trans (congrArg some (by kernel_rfl))
 t3:=Tryz.underlying3
 a3:=Tryz.isAgg3
 z3:=Tryz.sizeOf3
 v3:=Tryz.zeroValue3
 t4:=Tryz.underlying4
 a4:=Tryz.isAgg4
 z4:=Tryz.sizeOf4
 v4:=Tryz.zeroValue4
 t5:=Tryz.underlying5
 a5:=Tryz.isAgg5
 z5:=Tryz.sizeOf5
 v5:=Tryz.zeroValue5
 t9:=Tryz.underlying9
 a9:=Tryz.isAgg9
 z9:=Tryz.sizeOf9
 v9:=Tryz.zeroValue9
 t46:=Tryz.underlying168
 a46:=Tryz.isAgg168
 z46:=Tryz.sizeOf168
 v46:=Tryz.zeroValue168
 t53:=Tryz.underlying22
 a53:=Tryz.isAgg22
 z53:=Tryz.sizeOf22
 v53:=Tryz.zeroValue22 }
theorem Tryz.bits_Len64 (x:Int) (w:World) (h0:0<=x) (h1:x<=18446744073709551615):
 Calls Tryz.prog 131 #[.int .u64 x] w fun e w'=>e=.returned (.int .i64 (Lib.bitLen x.toNat))/\w'=w:=Any.bits_Len64 Tryz.lays129 x w h0 h1
def Tryz.lays264_ren:Go.Shelf.Ren:=⟨fun|264=>83|n=>n,fun|53=>22|46=>168|n=>n,fun|n=>n⟩
theorem Tryz.lays264:Go.Proofs.Lays.n264 Tryz.prog Tryz.lays264_ren:={
 mixed:=by kernel_rfl
 f264:=Tryz.func83.trans (congrArg some (by kernel_rfl))
 t46:=Tryz.underlying168
 a46:=Tryz.isAgg168
 z46:=Tryz.sizeOf168
 v46:=Tryz.zeroValue168
 t53:=Tryz.underlying22
 a53:=Tryz.isAgg22
 z53:=Tryz.sizeOf22
 v53:=Tryz.zeroValue22 }
open Go.RowKit Go.Lib in
theorem Tryz.bits_Mul64 (x y:Nat) (hx:x<18446744073709551616) (hy:y<18446744073709551616) (w:World):
 Calls Tryz.prog 83 #[.int .u64 x,.int .u64 y] w fun e w'=>e=.returned (.tuple #[.int .u64 ((x*y / 18446744073709551616:Nat):Int),.int .u64 ((x*y % 18446744073709551616:Nat):Int)])/\w'=w:=Any.bits_Mul64 Tryz.lays264 x y hx hy w
end Go.Proofs
namespace Go.Proofs.YtbhnjkegkadodaaGreatDoor
open Go Go.RowKit Go.Proofs Gn
theorem add64_ex (x y c:Nat) (hx:x<B) (hy:y<B) (hc:c<=1):∃s d:Nat,
 (∀W,(callFunc 82 #[.int .u64 (x:Int),.int .u64 (y:Int),.int .u64 (c:Int)]).run Tryz.prog W=.ok (.value (.tuple #[.int .u64 (s:Int),.int .u64 (d:Int)])) W)/\s+B*d=x+y+c/\s<B/\d<=1:=by
 unfold B at *
 refine⟨(x+y+c) % 18446744073709551616,(x+y+c) / 18446744073709551616,fun W=>?_,by omega,by omega,by omega⟩
 rw[run_callFunc_extern Tryz.func82 (by kernel_rfl) (by kernel_rfl) (by kernel_rfl) (e:=add64Entry) (by kernel_rfl),run_add64 x y c (by omega) (by omega) (by omega) (by omega)]
 simp only[Result.andThen]
 congr 5<;>omega
theorem sub64_ex (x y c:Nat) (hx:x<B) (hy:y<B) (hc:c<=1):∃s d:Nat,
 (∀W,(callFunc 250 #[.int .u64 (x:Int),.int .u64 (y:Int),.int .u64 (c:Int)]).run Tryz.prog W=.ok (.value (.tuple #[.int .u64 (s:Int),.int .u64 (d:Int)])) W)/\s+y+c=x+B*d/\s<B/\d<=1:=by
 unfold B at *
 refine⟨(x+18446744073709551616-y-c) % 18446744073709551616,if x<y+c then 1 else 0,fun W=>?_,by split<;>omega,by omega,by split<;>omega⟩
 rw[run_callFunc_extern Tryz.func250 (by kernel_rfl) (by kernel_rfl) (by kernel_rfl) (e:=sub64Entry) (by kernel_rfl),run_sub64 x y c hc]
 rfl
theorem below_drewN {B:Nat} {a w:World} (h:Below B a w) (n:Nat):Below B a (w.drewN n):=⟨h.os,h.tape,h.output,h.size,h.block⟩
theorem Add_c {A A':Option Addr} {n c n' c':Nat} {a b:List Nat} {w:World} (ha:NatV 22 w A n c a) (hb:NatV 22 w A' n' c' b) (hn:n<=536870912) (hn':n'<=536870912):
 Calls Tryz.prog 28 #[.slice A n c,.slice A' n' c'] w fun e w'=>∃R m d l,e=.returned (.slice R m d)/\NatV 22 w' R m d l/\Gn.Norm l/\val l=val a+val b/\Below w.heap.size w w'/\NewA w R:=by
 obtain⟨i0,hi0,hz0,hz1,hz2⟩:=info_parts info22
 rcases Nat.lt_or_ge (trimLen a) (trimLen b) with hlt|hge
 · have hA:=hb;have hB:=ha
   obtain⟨N,hN⟩:∃N,N=trimLen b:=⟨_,rfl⟩
   obtain⟨M,hM⟩:∃M,M=trimLen a:=⟨_,rfl⟩
   have t1:=hA.trim;have t2:=hB.trim
   rw[<-hN]at t1;rw[<-hM]at t2
   have hNM:M<=N:=by omega
   have hNb:N<=536870912:=by have:=trimLen_le b;have:=hA.len;omega
   have hcmp:decide (M<N)=true:=by simp;omega
   have hmk:∀W:World,(Instr.makeSlice 24 (.int .i64 ((N:Int)+1)) (.int .i64 ((N:Int)+1))).run Tryz.prog W=.ok (.slice (some ⟨W.heap.size,0,none⟩) (N+1) (N+1)) (W.alloc (.cells ((List.replicate (N+1) 0).map u64).toArray 22)):=fun W=>run_make_limbs (P:=Tryz.prog) 24 22 i0 Tryz.underlying24 hi0 hz0 hz1 hz2 (N+1) (by omega) W
   obtain⟨x,hx⟩:∃x,x=trim b:=⟨_,rfl⟩
   obtain⟨y,hy⟩:∃y,y=trim a:=⟨_,rfl⟩
   have ex:val x=val b:=hx▸val_trim _
   have ey:val y=val a:=hy▸val_trim _
   rw[<-hx]at t1;rw[<-hy]at t2
   have Hx:=Lib.hid ex;have Hy:=Lib.hid ey;have HN:=Lib.hid hN;have HM:=Lib.hid hM;have T1:=Lib.hid t1;have T2:=Lib.hid t2
   have H1:=Lib.hid ha;have H2:=Lib.hid hb
   have lx:=t1.lim;have ly:=t2.lim
   have lenx:=Lib.hid t1.len;have leny:=Lib.hid t2.len
   have Lx:=Lib.hid lx;have Ly:=Lib.hid ly
   clear ex ey hN hM t1 t2 ha hb hx hy lx ly hlt
   go_enter Tryz.func28,Tryz.ntmps28
   go_wp2_with (first
    | (go_at_call_of 81 (Value.slice A n c);refine(trim_c H1.out).mono ?_;rintro e w' ⟨rfl,rfl⟩;rw[<-HM.out])
    | (go_at_call_of 81 (Value.slice A' n' c');refine(trim_c H2.out).mono ?_;rintro e w' ⟨rfl,rfl⟩;rw[<-HN.out]))
   go_loopw [6,26] (fun cy i wr=>∃(k d:Nat) (o:List Nat),k<=N/\d<=1/\i=.int .i64 (k:Int)/\cy=.int .u64 (d:Int)/\LB 22 wr w.heap.size o/\Hid (o.length=N+1/\Lim o)/\Hid (val (o.take k)+B ^ k*d=val (x.take k)+val (y.take k))/\Below w.heap.size w wr) (fun _ i _=>N-(intOf i).toNat)
   case atStart=>exact⟨0,0,List.replicate (N+1) 0,Nat.zero_le _,by omega,rfl,rfl,LB.zeros _ _ _,Lib.hid ⟨by simp,Lim.zeros _⟩,Lib.hid (by simp),(Below.refl _ _).alloc (Nat.le_refl _) _⟩
   case round=>
    obtain⟨k,d,o,hk,hd,rfl,rfl,hlb,ho,hv,hbw⟩:=hrel
    have hko:k<o.length:=by rw[ho.out.1];omega
    have hck:=hlb.cell k hko
    have hfr:=hlb.frozen k
    have hszw:w.heap.size<wr.heap.size:=hlb.lt
    clear hmk
    by_cases h0:k<N
    · obtain⟨b1,o1,rfl,_⟩:=T1.out.row (by omega)
      have hkx:k<x.length:=by rw[lenx.out];exact h0
      have hcx:=(T1.out.below hbw).cell rfl k hkx
      obtain⟨p,hp⟩:∃p,p=x[k]:=⟨_,rfl⟩
      simp only[u64]at hcx hck
      rw[<-hp]at hcx
      have hpB:p<B:=hp▸Lx.out.get k hkx
      have HP:=Lib.hid hp;clear hp
      by_cases h1:k<M
      · obtain⟨b2,o2,rfl,_⟩:=T2.out.row (by omega)
        have hky:k<y.length:=by rw[leny.out];exact h1
        have hcy:=(T2.out.below hbw).cell rfl k hky
        obtain⟨q,hq⟩:∃q,q=y[k]:=⟨_,rfl⟩
        simp only[u64]at hcy
        rw[<-hq]at hcy
        have hqB:q<B:=hq▸Ly.out.get k hky
        have HQ:=Lib.hid hq;clear hq
        obtain⟨s,d',h82,hs,hsB,hd'⟩:=add64_ex p q d hpB hqB hd
        have HS:=Lib.hid hs;clear hs hpB hqB
        go_wp2
        go_roundw
        case rel=>
         refine⟨k+1,d',o.set k s,by omega,hd',by go_num,rfl,hlb.set k s,Lib.hid ⟨by simp[ho.out.1],ho.out.2.set k s hsB⟩,Lib.hid ?_,hbw.setCell (p:=⟨w.heap.size,k,none⟩) (Nat.le_refl _) _⟩
         rw[val_take_set o k s hko,val_take_succ x k hkx,val_take_succ y k hky,<-HP.out,<-HQ.out,Nat.pow_succ]
         have h3:=hv.out
         have h4:=congrArg (B ^ k * ·) HS.out
         simp only[Nat.mul_add]at h4
         rw[<-Nat.mul_assoc]at h4
         omega
        case measure=>simp[intOf];omega
      · have hky:y.length<=k:=by rw[leny.out];omega
        obtain⟨s,d',h82,hs,hsB,hd'⟩:=add64_ex p 0 d hpB B_pos hd
        rw[show((0:Nat):Int)=0 from rfl]at h82
        have HS:=Lib.hid hs;clear hs hpB
        go_wp2
        go_roundw
        case rel=>
         refine⟨k+1,d',o.set k s,by omega,hd',by go_num,rfl,hlb.set k s,Lib.hid ⟨by simp[ho.out.1],ho.out.2.set k s hsB⟩,Lib.hid ?_,hbw.setCell (p:=⟨w.heap.size,k,none⟩) (Nat.le_refl _) _⟩
         rw[val_take_set o k s hko,val_take_succ x k hkx,val_take_all (by omega:y.length<=k+1),<-HP.out,Nat.pow_succ]
         have h3:=hv.out
         rw[val_take_all hky]at h3
         have h4:=congrArg (B ^ k * ·) HS.out
         simp only[Nat.mul_add,Nat.add_zero]at h4
         rw[<-Nat.mul_assoc]at h4
         omega
        case measure=>simp[intOf];omega
    · obtain rfl:k=N:=by omega
      simp only[u64]at hck
      have hlb2:=hlb.set k d
      have hd2:d<B:=by unfold B;omega
      have nv:NatV 22 (wr.setCell ⟨w.heap.size,k,none⟩ (u64 d)) (some ⟨w.heap.size,0,none⟩) (k+1) (k+1) (o.set k d):=
       hlb2.natV (ho.out.2.set k d hd2) (by simp[ho.out.1]) (Nat.le_refl _) (by simp[maxLen];omega)
      have NV:=Lib.hid nv;clear nv hd2 hlb2
      go_wp2_with (go_at_call 81;refine(trim_c NV.out).mono ?_;rintro e w' ⟨rfl,rfl⟩)
      go_ret
      refine⟨_,_,_,_,rfl,NV.out.trim,norm_trim _,?_,hbw.setCell (p:=⟨w.heap.size,k,none⟩) (Nat.le_refl _) _,NewA.mk (Nat.le_refl _)⟩
      rw[val_trim,<-val_take_all (show(o.set k d).length<=k+1 by simp[ho.out.1]),val_take_set o k d hko,hv.out,val_take_all (by rw[lenx.out];omega),val_take_all (by rw[leny.out];omega),Hx.out,Hy.out,Nat.add_comm]
 · have hA:=ha;have hB:=hb
   obtain⟨N,hN⟩:∃N,N=trimLen a:=⟨_,rfl⟩
   obtain⟨M,hM⟩:∃M,M=trimLen b:=⟨_,rfl⟩
   have t1:=hA.trim;have t2:=hB.trim
   rw[<-hN]at t1;rw[<-hM]at t2
   have hNM:M<=N:=by omega
   have hNb:N<=536870912:=by have:=trimLen_le a;have:=hA.len;omega
   have hcmp:decide (N<M)=false:=by simp;omega
   have hmk:∀W:World,(Instr.makeSlice 24 (.int .i64 ((N:Int)+1)) (.int .i64 ((N:Int)+1))).run Tryz.prog W=.ok (.slice (some ⟨W.heap.size,0,none⟩) (N+1) (N+1)) (W.alloc (.cells ((List.replicate (N+1) 0).map u64).toArray 22)):=fun W=>run_make_limbs (P:=Tryz.prog) 24 22 i0 Tryz.underlying24 hi0 hz0 hz1 hz2 (N+1) (by omega) W
   obtain⟨x,hx⟩:∃x,x=trim a:=⟨_,rfl⟩
   obtain⟨y,hy⟩:∃y,y=trim b:=⟨_,rfl⟩
   have ex:val x=val a:=hx▸val_trim _
   have ey:val y=val b:=hy▸val_trim _
   rw[<-hx]at t1;rw[<-hy]at t2
   have Hx:=Lib.hid ex;have Hy:=Lib.hid ey;have HN:=Lib.hid hN;have HM:=Lib.hid hM;have T1:=Lib.hid t1;have T2:=Lib.hid t2
   have H1:=Lib.hid ha;have H2:=Lib.hid hb
   have lx:=t1.lim;have ly:=t2.lim
   have lenx:=Lib.hid t1.len;have leny:=Lib.hid t2.len
   have Lx:=Lib.hid lx;have Ly:=Lib.hid ly
   clear ex ey hN hM t1 t2 ha hb hx hy lx ly hge
   go_enter Tryz.func28,Tryz.ntmps28
   go_wp2_with (first
    | (go_at_call_of 81 (Value.slice A n c);refine(trim_c H1.out).mono ?_;rintro e w' ⟨rfl,rfl⟩;rw[<-HN.out])
    | (go_at_call_of 81 (Value.slice A' n' c');refine(trim_c H2.out).mono ?_;rintro e w' ⟨rfl,rfl⟩;rw[<-HM.out]))
   go_loopw [6,26] (fun cy i wr=>∃(k d:Nat) (o:List Nat),k<=N/\d<=1/\i=.int .i64 (k:Int)/\cy=.int .u64 (d:Int)/\LB 22 wr w.heap.size o/\Hid (o.length=N+1/\Lim o)/\Hid (val (o.take k)+B ^ k*d=val (x.take k)+val (y.take k))/\Below w.heap.size w wr) (fun _ i _=>N-(intOf i).toNat)
   case atStart=>exact⟨0,0,List.replicate (N+1) 0,Nat.zero_le _,by omega,rfl,rfl,LB.zeros _ _ _,Lib.hid ⟨by simp,Lim.zeros _⟩,Lib.hid (by simp),(Below.refl _ _).alloc (Nat.le_refl _) _⟩
   case round=>
    obtain⟨k,d,o,hk,hd,rfl,rfl,hlb,ho,hv,hbw⟩:=hrel
    have hko:k<o.length:=by rw[ho.out.1];omega
    have hck:=hlb.cell k hko
    have hfr:=hlb.frozen k
    have hszw:w.heap.size<wr.heap.size:=hlb.lt
    clear hmk
    by_cases h0:k<N
    · obtain⟨b1,o1,rfl,_⟩:=T1.out.row (by omega)
      have hkx:k<x.length:=by rw[lenx.out];exact h0
      have hcx:=(T1.out.below hbw).cell rfl k hkx
      obtain⟨p,hp⟩:∃p,p=x[k]:=⟨_,rfl⟩
      simp only[u64]at hcx hck
      rw[<-hp]at hcx
      have hpB:p<B:=hp▸Lx.out.get k hkx
      have HP:=Lib.hid hp;clear hp
      by_cases h1:k<M
      · obtain⟨b2,o2,rfl,_⟩:=T2.out.row (by omega)
        have hky:k<y.length:=by rw[leny.out];exact h1
        have hcy:=(T2.out.below hbw).cell rfl k hky
        obtain⟨q,hq⟩:∃q,q=y[k]:=⟨_,rfl⟩
        simp only[u64]at hcy
        rw[<-hq]at hcy
        have hqB:q<B:=hq▸Ly.out.get k hky
        have HQ:=Lib.hid hq;clear hq
        obtain⟨s,d',h82,hs,hsB,hd'⟩:=add64_ex p q d hpB hqB hd
        have HS:=Lib.hid hs;clear hs hpB hqB
        go_wp2
        go_roundw
        case rel=>
         refine⟨k+1,d',o.set k s,by omega,hd',by go_num,rfl,hlb.set k s,Lib.hid ⟨by simp[ho.out.1],ho.out.2.set k s hsB⟩,Lib.hid ?_,hbw.setCell (p:=⟨w.heap.size,k,none⟩) (Nat.le_refl _) _⟩
         rw[val_take_set o k s hko,val_take_succ x k hkx,val_take_succ y k hky,<-HP.out,<-HQ.out,Nat.pow_succ]
         have h3:=hv.out
         have h4:=congrArg (B ^ k * ·) HS.out
         simp only[Nat.mul_add]at h4
         rw[<-Nat.mul_assoc]at h4
         omega
        case measure=>simp[intOf];omega
      · have hky:y.length<=k:=by rw[leny.out];omega
        obtain⟨s,d',h82,hs,hsB,hd'⟩:=add64_ex p 0 d hpB B_pos hd
        rw[show((0:Nat):Int)=0 from rfl]at h82
        have HS:=Lib.hid hs;clear hs hpB
        go_wp2
        go_roundw
        case rel=>
         refine⟨k+1,d',o.set k s,by omega,hd',by go_num,rfl,hlb.set k s,Lib.hid ⟨by simp[ho.out.1],ho.out.2.set k s hsB⟩,Lib.hid ?_,hbw.setCell (p:=⟨w.heap.size,k,none⟩) (Nat.le_refl _) _⟩
         rw[val_take_set o k s hko,val_take_succ x k hkx,val_take_all (by omega:y.length<=k+1),<-HP.out,Nat.pow_succ]
         have h3:=hv.out
         rw[val_take_all hky]at h3
         have h4:=congrArg (B ^ k * ·) HS.out
         simp only[Nat.mul_add,Nat.add_zero]at h4
         rw[<-Nat.mul_assoc]at h4
         omega
        case measure=>simp[intOf];omega
    · obtain rfl:k=N:=by omega
      simp only[u64]at hck
      have hlb2:=hlb.set k d
      have hd2:d<B:=by unfold B;omega
      have nv:NatV 22 (wr.setCell ⟨w.heap.size,k,none⟩ (u64 d)) (some ⟨w.heap.size,0,none⟩) (k+1) (k+1) (o.set k d):=
       hlb2.natV (ho.out.2.set k d hd2) (by simp[ho.out.1]) (Nat.le_refl _) (by simp[maxLen];omega)
      have NV:=Lib.hid nv;clear nv hd2 hlb2
      go_wp2_with (go_at_call 81;refine(trim_c NV.out).mono ?_;rintro e w' ⟨rfl,rfl⟩)
      go_ret
      refine⟨_,_,_,_,rfl,NV.out.trim,norm_trim _,?_,hbw.setCell (p:=⟨w.heap.size,k,none⟩) (Nat.le_refl _) _,NewA.mk (Nat.le_refl _)⟩
      rw[val_trim,<-val_take_all (show(o.set k d).length<=k+1 by simp[ho.out.1]),val_take_set o k d hko,hv.out,val_take_all (by rw[lenx.out];omega),val_take_all (by rw[leny.out];omega),Hx.out,Hy.out]
end Go.Proofs.YtbhnjkegkadodaaGreatDoor

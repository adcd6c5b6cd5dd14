/- A part of the proof of the statement of this seat: no condition. -/
import Derived.Test.YtbhnjkegkadodaaGreatDoorKP01
import Derived.Test.YtbhnjkegkadodaaGreatDoorXG03
import Derived.Lib.Bytealg
set_option linter.unusedVariables false
set_option linter.unusedSimpArgs false
set_option maxRecDepth 100000
set_option maxHeartbeats 8000000
namespace F1
open Gl
theorem pow28 (k:Nat):2 ^ (8*k)=256 ^ k:=by rw[Nat.pow_mul]
theorem be_mod:∀(n m p:Nat),n<=m->be n (p % 256 ^ m)=be n p
 | 0,_,_,_=>rfl
 | n+1,m,p,h=>by
   simp only[be]
   rw[be_mod n m p (by omega),pow28]
   congr 1
   obtain⟨d,rfl⟩:∃d,m=n+(d+1):=⟨m-n-1,by omega⟩
   rw[Nat.pow_add,Nat.mod_mul_right_div_self,Nat.mod_mod_of_dvd]
   exact⟨256 ^ d,by rw[Nat.pow_succ,Nat.mul_comm]⟩
theorem blt_self_cons (x:Nat) (a b:Bs):blt (x :: a) (x :: b)=blt a b:=by simp[blt]
theorem blt_pre:∀(p a b:Bs),blt (p ++ a) (p ++ b)=blt a b
 | [],_,_=>rfl
 | x :: p,a,b=>by rw[List.cons_append,List.cons_append,blt_self_cons,blt_pre p]
theorem blt_be:∀(n p q:Nat),p<256 ^ n->q<256 ^ n->blt (be n p) (be n q)=decide (p<q)
 | 0,p,q,hp,hq=>by
   simp at hp hq;subst hp hq;rfl
 | n+1,p,q,hp,hq=>by
   have h0:0<256 ^ n:=Nat.pow_pos (by decide)
   have ep:p / 256 ^ n<256:=Nat.div_lt_of_lt_mul (by rw[Nat.pow_succ]at hp;exact hp)
   have eq:q / 256 ^ n<256:=Nat.div_lt_of_lt_mul (by rw[Nat.pow_succ]at hq;exact hq)
   have hp1:=Nat.div_add_mod p (256 ^ n)
   have hq1:=Nat.div_add_mod q (256 ^ n)
   have hp2:=Nat.mod_lt p h0
   have hq2:=Nat.mod_lt q h0
   simp only[be,pow28,Nat.mod_eq_of_lt ep,Nat.mod_eq_of_lt eq]
   unfold blt
   rw[<-be_mod n n p (Nat.le_refl _),<-be_mod n n q (Nat.le_refl _),blt_be n _ _ hp2 hq2]
   by_cases h1:p / 256 ^ n<q / 256 ^ n
   · rw[if_pos h1]
     have:p<q:=by
      have h3:256 ^ n*(p / 256 ^ n+1)<=256 ^ n*(q / 256 ^ n):=Nat.mul_le_mul_left _ h1
      rw[Nat.mul_add]at h3;omega
     simp[this]
   · rw[if_neg h1]
     by_cases h2:q / 256 ^ n<p / 256 ^ n
     · rw[if_pos h2]
       have:¬p<q:=by
        have h3:256 ^ n*(q / 256 ^ n+1)<=256 ^ n*(p / 256 ^ n):=Nat.mul_le_mul_left _ h2
        rw[Nat.mul_add]at h3;omega
       simp[this]
     · rw[if_neg h2]
       have e:p / 256 ^ n=q / 256 ^ n:=by omega
       rw[e]at hp1
       have:(p % 256 ^ n<q % 256 ^ n)↔p<q:=by omega
       simp[this]
theorem blt_be8 {p q:Nat} (hp:p<18446744073709551616) (hq:q<18446744073709551616):blt (be 8 p) (be 8 q)=decide (p<q):=blt_be 8 p q (by simpa using hp) (by simpa using hq)
def hk (p:Nat):Bs:=118 :: (be 8 16 ++ 104 :: be 8 p)
def ck (p:Nat):Bs:=118 :: (be 8 16 ++ 115 :: be 8 p)
abbrev Small64 (p:Nat):Prop:=p<18446744073709551616
theorem blt_hh {p q:Nat} (hp:Small64 p) (hq:Small64 q):blt (hk p) (hk q)=decide (p<q):=by
 unfold hk;rw[blt_self_cons,blt_pre,blt_self_cons,blt_be8 hp hq]
theorem blt_hc (p q:Nat):blt (hk p) (ck q)=true:=by
 unfold hk ck;rw[blt_self_cons,blt_pre];simp[blt]
theorem blt_ch (p q:Nat):blt (ck p) (hk q)=false:=by
 unfold hk ck;rw[blt_self_cons,blt_pre];simp[blt]
theorem hk_beq {p q:Nat} (hp:Small64 p) (hq:Small64 q):(hk p == hk q)=(p == q):=by
 rw[Bool.eq_iff_iff,beq_iff_eq,beq_iff_eq]
 refine⟨fun h=>?_,fun h=>by rw[h]⟩
 have h1:=blt_hh hp hq
 have h2:=blt_hh hq hp
 rw[h,blt_irrefl]at h1
 rw[<-h,blt_irrefl]at h2
 have h1:=of_decide_eq_false h1.symm
 have h2:=of_decide_eq_false h2.symm
 omega
theorem ck_ne_hk (p q:Nat):(ck p == hk q)=false:=by
 have h:=blt_ne (blt_hc q p)
 simp[Ne.symm h]
def nb (x:Nat):Nat:=if x=0 then 0 else x.log2 / 8+1
def encH (r c:Nat):Bs:=nb r :: (be (nb r) r ++ be 8 c)
def encC (b a:Nat):Bs:=be 8 b ++ be 8 a
theorem nb_lt (x:Nat):x<256 ^ nb x:=by
 unfold nb
 by_cases h:x=0
 · rw[if_pos h,h];decide
 · rw[if_neg h]
   have h1:=Nat.lt_log2_self (n:=x)
   refine Nat.lt_of_lt_of_le h1 ?_
   rw[<-pow28]
   exact Nat.pow_le_pow_right (by decide) (by omega)
theorem nb_le {x k:Nat} (h:x<256 ^ k):nb x<=k:=by
 unfold nb
 by_cases h0:x=0
 · rw[if_pos h0];omega
 · rw[if_neg h0]
   have h1:2 ^ x.log2<=x:=Nat.log2_self_le h0
   have h2:2 ^ x.log2<2 ^ (8*k):=by rw[pow28];exact Nat.lt_of_le_of_lt h1 h
   have h3:=(Nat.pow_lt_pow_iff_right (by decide:1<2)).1 h2
   omega
theorem num_be (n x:Nat) (h:x<256 ^ n):num (be n x)=x:=by
 have key:∀(n acc x:Nat),(be n x).foldl (fun a b=>a*256+b) acc=acc*256 ^ n+x % 256 ^ n:=by
  intro n
  induction n with
  | zero=>intro acc x;simp[be,Nat.mod_one]
  | succ n ih=>
    intro acc x
    simp only[be,List.foldl_cons]
    rw[ih,pow28]
    have h1:x % 256 ^ (n+1)=256 ^ n*(x / 256 ^ n % 256)+x % 256 ^ n:=by
     rw[Nat.pow_succ,Nat.mod_mul];omega
    rw[h1,Nat.pow_succ,Nat.add_mul]
    have:acc*256*256 ^ n=acc*(256 ^ n*256):=by rw[Nat.mul_assoc,Nat.mul_comm 256]
    rw[this,Nat.mul_comm (256 ^ n) (x / 256 ^ n % 256)];omega
 show(be n x).foldl _ 0=x
 rw[key,Nat.zero_mul,Nat.zero_add,Nat.mod_eq_of_lt h]
abbrev Rec:=Nat × Nat × Nat
structure Sta where
 h:List Rec
 c:List Rec
def entH (x:Rec):Ent:=(hk x.1,encH x.2.1 x.2.2)
def entC (x:Rec):Ent:=(ck x.1,encC x.2.1 x.2.2)
def ents (S:Sta):List Ent:=S.h.map entH ++ S.c.map entC
def putR (l:List Rec) (x:Rec):List Rec:=l.filter (fun y=>decide (y.1<x.1)) ++ x :: l.filter (fun y=>decide (x.1<y.1))
def delR (l:List Rec) (p:Nat):List Rec:=l.filter fun y=>!(y.1 == p)
def findR (l:List Rec) (p:Nat):Option Rec:=l.find? fun y=>y.1 == p
structure Fine (S:Sta):Prop where
 h:∀x ∈ S.h,Small64 x.1
 c:∀x ∈ S.c,Small64 x.1
theorem put_h {S:Sta} (hS:Fine S) {p:Nat} (hp:Small64 p) (r c:Nat):put (ents S) (hk p) (encH r c)=ents { S with h:=putR S.h (p,r,c) }:=by
 have h1:(S.h.map entH).filter (fun e=>blt e.1 (hk p))=(S.h.filter (fun y=>decide (y.1<p))).map entH:=by
  rw[List.filter_map];congr 1
  exact List.filter_congr fun x hx=>blt_hh (hS.h x hx) hp
 have h2:(S.h.map entH).filter (fun e=>blt (hk p) e.1)=(S.h.filter (fun y=>decide (p<y.1))).map entH:=by
  rw[List.filter_map];congr 1
  exact List.filter_congr fun x hx=>blt_hh hp (hS.h x hx)
 have h3:(S.c.map entC).filter (fun e=>blt e.1 (hk p))=[]:=List.filter_eq_nil_iff.2 fun e he=>by
  obtain⟨x,_,rfl⟩:=List.mem_map.1 he
  simp[entC,blt_ch]
 have h4:(S.c.map entC).filter (fun e=>blt (hk p) e.1)=S.c.map entC:=List.filter_eq_self.2 fun e he=>by
  obtain⟨x,_,rfl⟩:=List.mem_map.1 he
  exact blt_hc _ _
 unfold put ents
 rw[List.filter_append,List.filter_append,h1,h2,h3,h4]
 simp[putR,entH]
theorem del_h {S:Sta} (hS:Fine S) {p:Nat} (hp:Small64 p):del (ents S) (hk p)=ents { S with h:=delR S.h p }:=by
 have h1:(S.h.map entH).filter (fun e=>e.1 != hk p)=(S.h.filter fun y=>!(y.1 == p)).map entH:=by
  rw[List.filter_map];congr 1
  exact List.filter_congr fun x hx=>by show(!(hk x.1 == hk p))=_;rw[hk_beq (hS.h x hx) hp]
 have h2:(S.c.map entC).filter (fun e=>e.1 != hk p)=S.c.map entC:=List.filter_eq_self.2 fun e he=>by
  obtain⟨x,_,rfl⟩:=List.mem_map.1 he
  show(!(ck x.1 == hk p))=true
  rw[ck_ne_hk];rfl
 unfold del ents
 rw[List.filter_append,h1,h2];rfl
theorem get_h {S:Sta} (hS:Fine S) {p:Nat} (hp:Small64 p):get (ents S) (hk p)=(findR S.h p).map fun x=>encH x.2.1 x.2.2:=by
 have h1:(S.h.map entH).find? (fun e=>e.1 == hk p)=(findR S.h p).map entH:=by
  rw[List.find?_map];congr 1
  have:∀l:List Rec,(∀x ∈ l,Small64 x.1)->l.find? ((fun e:Ent=>e.1 == hk p) ∘ entH)=l.find? (fun y=>y.1 == p):=by
   intro l
   induction l with
   | nil=>intro _;rfl
   | cons x l ih=>
     intro h
     have e:((fun e:Ent=>e.1 == hk p) ∘ entH) x=(x.1 == p):=hk_beq (h x List.mem_cons_self) hp
     rw[List.find?_cons,List.find?_cons,e,ih fun y hy=>h y (List.mem_cons_of_mem _ hy)]
  exact this S.h hS.h
 have h2:(S.c.map entC).find? (fun e=>e.1 == hk p)=none:=List.find?_eq_none.2 fun e he=>by
  obtain⟨x,_,rfl⟩:=List.mem_map.1 he
  simp[entC,ck_ne_hk]
 unfold Gl.get ents
 rw[List.find?_append,h1,h2]
 cases findR S.h p<;>rfl
def hist (S:Sta) (p:Nat):Nat × Nat:=((findR S.h p).map (·.2)).getD (0,0)
def refer (S:Sta) (p:Nat):Sta:={ S with h:=putR S.h (p,(hist S p).1,(hist S p).2+1) }
def free (S:Sta) (p:Nat):Sta:=
 if(hist S p).2=0 then S else if(hist S p).2=1 then { S with h:=delR S.h p } else { S with h:=putR S.h (p,(hist S p).1,(hist S p).2-1) }
def close (S:Sta) (per tok cur:Nat):Sta:=
 free { S with h:=putR S.h (per,(hist S (per-1)).1+(if tok=0 then 0 else cur / tok),1) } (per-1)
end F1
namespace Gl
open Go Go.RowKit Go.Lib
def cmpN (a b:Bs):Int:=if blt a b then -1 else if blt b a then 1 else 0
theorem cmpN_lt {a b:Bs}:cmpN a b = -1↔blt a b=true:=by
 unfold cmpN;split
 · simp[*]
 · split<;>simp[*]
theorem cmpN_gt {a b:Bs}:cmpN a b=1↔blt b a=true:=by
 unfold cmpN;split
 · rename_i h;simp[blt_asymm h]
 · split<;>simp[*]
theorem cmpN_eq {a b:Bs}:cmpN a b=0↔a=b:=by
 unfold cmpN;split
 · rename_i h;simp[blt_ne h]
 · rename_i h;split
   · rename_i h2;simp[Ne.symm (blt_ne h2)]
   · rename_i h2;simpa using blt_tri (by simpa using h) (by simpa using h2)
theorem cmpN_three (a b:Bs):cmpN a b = -1\/cmpN a b=0\/cmpN a b=1:=by
 unfold cmpN;split
 · exact .inl rfl
 · split<;>simp
theorem compareBytes_cmpN:∀ {a b:Bs},Small a->Small b->compareBytes (a.map fun n=>UInt8.ofNat n) (b.map fun n=>UInt8.ofNat n)=cmpN a b
 | [],[],_,_=>rfl
 | [],_ :: _,_,_=>rfl
 | _ :: _,[],_,_=>rfl
 | x :: a,y :: b,ha,hb=>by
   have hx:=ha x List.mem_cons_self
   have hy:=hb y List.mem_cons_self
   have ih:=compareBytes_cmpN (a:=a) (b:=b) (fun z hz=>ha z (List.mem_cons_of_mem _ hz)) (fun z hz=>hb z (List.mem_cons_of_mem _ hz))
   have h1:(UInt8.ofNat x<UInt8.ofNat y)↔x<y:=by rw[UInt8.lt_iff_toNat_lt];simp[UInt8.toNat_ofNat'];omega
   have h2:(UInt8.ofNat y<UInt8.ofNat x)↔y<x:=by rw[UInt8.lt_iff_toNat_lt];simp[UInt8.toNat_ofNat'];omega
   simp only[List.map_cons,compareBytes,h1,h2,ih]
   rw[show cmpN (x :: a) (y :: b)=if blt (x :: a) (y :: b) then -1 else if blt (y :: b) (x :: a) then 1 else 0 from rfl]
   simp only[blt]
   by_cases hxy:x<y
   · simp[hxy]
   · by_cases hyx:y<x
     · simp[hxy,hyx]
     · simp[hxy,hyx,cmpN]
theorem bytesOf_by {P:Program} {w:World} {A:Option Addr} {n c:Nat} {bs:Bs} (h:By w A n c bs):∃r:ByteArray,(Extern.Bytes.bytesOf (.slice A n c)).run P w=.ok r w/\r.data.toList=bs.map fun n=>UInt8.ofNat n:=by
 have hlen:=h.len
 cases A with
 | none=>
   have hc:=h.sl.nil rfl
   have hn:n=0:=by have:=h.sl.le;omega
   subst hn
   have:bs=[]:=List.length_eq_zero_iff.1 hlen
   subst this
   exact⟨.empty,rfl,rfl⟩
 | some a=>
   rcases Nat.eq_zero_or_pos n with h0|h0
   · subst h0
     have:bs=[]:=List.length_eq_zero_iff.1 hlen
     subst this
     exact⟨.empty,rfl,rfl⟩
   · obtain⟨b,off,e,hr⟩:=h.sl.row h0
     cases e
     obtain⟨r,h1,h2⟩:=Ex.loadBytes_run (P:=P) w b (bs.map fun n:Nat=>(n:Int)) off .empty (fun j v hv=>hr.2 j v (by rw[List.map_map]at hv;exact hv))
     rw[List.length_map,hlen]at h1
     refine⟨r,h1,?_⟩
     rw[h2,show ByteArray.empty.data.toList=[] from rfl,List.nil_append,List.map_map]
     rfl
theorem cmp_by {P:Program} {w:World} {A A':Option Addr} {n c n' c':Nat} {xs ys:Bs} (ha:By w A n c xs) (hb:By w A' n' c' ys):
 (Extern.BytealgCompare.compare #[.slice A n c,.slice A' n' c']).run P w=.ok (.int .i64 (cmpN xs ys)) w:=by
 obtain⟨r,h1,h2⟩:=bytesOf_by (P:=P) ha
 obtain⟨s,h3,h4⟩:=bytesOf_by (P:=P) hb
 show(do pure (goInt (Extern.BytealgCompare.cmp (<-Extern.Bytes.bytesOf (.slice A n c)) (<-Extern.Bytes.bytesOf (.slice A' n' c')))):Sem Value).run P w=_
 simp only[Sem.run_bind,h1,h3,Result.andThen,Sem.run_pure]
 rw[cmp_eq,h2,h4,compareBytes_cmpN ha.small hb.small]
 rfl
end Gl
namespace Gl
theorem heads_rise {ps:List (List Ent)} (h:Pages ps) {i j:Nat} (hij:i<j) (hj:j<ps.length):blt (head1 (ps[i]'(by omega))) (head1 ps[j])=true:=by
 obtain⟨hne,hs⟩:=h
 have e:ps=ps.take (i+1) ++ ps.drop (i+1):=(List.take_append_drop _ _).symm
 have hfl:ps.flatten=(ps.take (i+1)).flatten ++ (ps.drop (i+1)).flatten:=by conv=>lhs;rw[e];rw[List.flatten_append]
 rw[hfl]at hs
 have h3:=hs.append.2.2
 have hi:i<ps.length:=by omega
 obtain⟨x,xs,hx⟩:=List.exists_cons_of_ne_nil (hne ps[i] (List.getElem_mem hi))
 obtain⟨y,ys,hy⟩:=List.exists_cons_of_ne_nil (hne ps[j] (List.getElem_mem hj))
 have m1:x ∈ (ps.take (i+1)).flatten:=List.mem_flatten.2 ⟨ps[i],List.mem_take_iff_getElem.2 ⟨i,by omega,rfl⟩,by rw[hx];simp⟩
 have m2:y ∈ (ps.drop (i+1)).flatten:=List.mem_flatten.2 ⟨ps[j],List.mem_drop_iff_getElem.2 ⟨j-(i+1),by omega,by congr 1;omega⟩,by rw[hy];simp⟩
 simp only[head1,hx,hy,List.head?_cons,Option.map_some,Option.getD_some]
 exact h3 x m1 y m2
theorem head1_get {ps:List (List Ent)} (h:Pages ps) {p:Nat} (hp:p<ps.length):head1 ps[p]=(ps[p][0]'(List.length_pos_iff.2 (h.1 _ (List.getElem_mem hp)))).1:=by
 obtain⟨x,xs,hx⟩:=List.exists_cons_of_ne_nil (h.1 ps[p] (List.getElem_mem hp))
 simp[head1,hx]
def key (l:List Ent) (q:Nat):Bs:=(l[q]?.getD ([],[])).1
theorem key_get {l:List Ent} {q:Nat} (hq:q<l.length):key l q=(l[q]).1:=by simp[key,hq]
theorem key_rise {l:List Ent} (hs:Sorted l) {i j:Nat} (hij:i<j) (hj:j<l.length):blt (key l i) (key l j)=true:=by
 rw[key_get hj,key_get (by omega)]
 exact List.pairwise_iff_getElem.1 hs i j (by omega) hj hij
def KeyPlace (l:List Ent) (k:Bs) (i:Nat) (f:Bool):Prop:=(f=true↔i<l.length/\key l i=k)/\i<=l.length/\(∀j,j<i->blt (key l j) k=true)/\(∀j,i<=j->j<l.length->blt (key l j) k=false)
def PageOf (ps:List (List Ent)) (k:Bs) (p:Nat):Prop:=p<ps.length/\(∀q,p<q->∀hq:q<ps.length,blt k (head1 ps[q])=true)/\(p=0\/∃hp:p<ps.length,blt k (head1 ps[p])=false)
theorem pageOf_mk {ps:List (List Ent)} {k:Bs} {a:Nat} (h0:0<ps.length) (ha:a<=ps.length) (h5:∀q,q<a->∃hq:q<ps.length,blt k (head1 ps[q])=false) (h6:∀q,a<=q->∀hq:q<ps.length,blt k (head1 ps[q])=true):PageOf ps k (a-1):=
 ⟨by omega,fun q hq hq2=>h6 q (by omega) hq2,by
   by_cases e:a=0
   · exact .inl (by omega)
   · exact .inr (h5 (a-1) (by omega))⟩
theorem low_heads {ps:List (List Ent)} {k:Bs} {m:Nat} (hg:Pages ps) (hm:m<ps.length) (h:blt k (head1 ps[m])=false):∀q,q<m+1->∃hq:q<ps.length,blt k (head1 ps[q])=false:=fun q hq=>⟨by omega,by
 by_cases e:q=m
 · subst e;exact h
 · cases hb:blt k (head1 (ps[q]'(by omega))) with
   | false=>rfl
   | true=>rw[blt_trans hb (heads_rise hg (by omega) hm)]at h;cases h⟩
theorem high_heads {ps:List (List Ent)} {k:Bs} {m:Nat} (hg:Pages ps) (hm:m<ps.length) (h:blt (head1 ps[m]) k=false):∀q,m+1<=q->∀hq:q<ps.length,blt k (head1 ps[q])=true:=fun q hq hq2=>blt_of_le_of_lt h (heads_rise hg (by omega) hq2)
theorem high_heads' {ps:List (List Ent)} {k:Bs} {m:Nat} (hg:Pages ps) (hm:m<ps.length) (h:blt k (head1 ps[m])=true):∀q,m<=q->∀hq:q<ps.length,blt k (head1 ps[q])=true:=fun q hq hq2=>by
 by_cases e:q=m
 · subst e;exact h
 · exact blt_trans h (heads_rise hg (by omega) hq2)
theorem found_place {ps:List (List Ent)} {k:Bs} {p i:Nat} {f:Bool} (hg:Pages ps) (h:PageOf ps k p) (h':KeyPlace (ps[p]'h.1) k i f):Found ps k p i f:=by
 obtain⟨hp,h1,h2⟩:=h
 obtain⟨g1,g2,g3,g4⟩:=h'
 have:=found_of hg hp h1 (h2.imp id (fun⟨_,h⟩=>h)) g2 (fun j hj=>by rw[<-key_get (by omega)];exact g3 j hj) (fun j hj hj2=>by rw[<-key_get hj2];exact g4 j hj hj2)
 have e:decide (∃hj:i<ps[p].length,(ps[p][i]).1=k)=f:=by
  rw[Bool.eq_iff_iff,decide_eq_true_eq,g1]
  exact⟨fun⟨hj,e⟩=>⟨hj,by rw[key_get hj];exact e⟩,fun⟨hj,e⟩=>⟨hj,by rw[<-key_get hj];exact e⟩⟩
 rw[e]at this
 exact this
theorem flatten_at {ps:List (List Ent)} {p:Nat} (hp:p<ps.length) (l:List Ent):(ps.set p l).flatten=(ps.take p).flatten ++ l ++ (ps.drop (p+1)).flatten:=by
 rw[List.set_eq_take_append_cons_drop,if_pos hp]
 simp
theorem flatten_self {ps:List (List Ent)} {p:Nat} (hp:p<ps.length):ps.flatten=(ps.take p).flatten ++ ps[p] ++ (ps.drop (p+1)).flatten:=by
 have e:ps=ps.take p ++ ps[p] :: ps.drop (p+1):=by rw[<-List.drop_eq_getElem_cons hp,List.take_append_drop]
 calc ps.flatten=(ps.take p ++ ps[p] :: ps.drop (p+1)).flatten:=by rw[<-e]
  _=_:=by simp only[List.flatten_append,List.flatten_cons,List.append_assoc]
theorem set_old {ps:List (List Ent)} {k v:Bs} {p i:Nat} (hg:Pages ps) (h:Found ps k p i true):
 ∃(hp:p<ps.length) (hi:i<ps[p].length),(ps.set p (ps[p].set i (k,v))).flatten=put ps.flatten k v/\Pages (ps.set p (ps[p].set i (k,v)))/\(ps[p][i]).1=k:=by
 obtain⟨A,X,Y,C,rfl,rfl,rfl,hlow,hh⟩:=h
 simp only[if_true]at hh
 obtain⟨u,Y',rfl,hhigh⟩:=hh
 refine⟨by simp,by simp,?_⟩
 have e1:(A ++ (X ++ (k,u) :: Y') :: C)[A.length]=X ++ (k,u) :: Y':=by simp
 simp only[e1]
 have e2:(X ++ (k,u) :: Y').set X.length (k,v)=X ++ (k,v) :: Y':=by simp
 have e3:(A ++ (X ++ (k,u) :: Y') :: C).set A.length (X ++ (k,v) :: Y')=A ++ (X ++ (k,v) :: Y') :: C:=by simp
 have f:∀v,(A ++ (X ++ (k,v) :: Y') :: C).flatten=(A.flatten ++ X) ++ (k,v) :: (Y' ++ C.flatten):=fun v=>by simp
 have hput:put (A ++ (X ++ (k,u) :: Y') :: C).flatten k v=(A.flatten ++ X) ++ (k,v) :: (Y' ++ C.flatten):=by rw[f];exact put_old hlow hhigh
 have hs:Sorted ((A.flatten ++ X) ++ (k,v) :: (Y' ++ C.flatten)):=by
  have h2:=hg.2
  rw[f]at h2
  exact sorted_ins (sorted_rem h2) hlow hhigh
 rw[e2,e3,hput]
 refine⟨f v,⟨fun l hl=>?_,by rw[f];exact hs⟩,by simp⟩
 rcases List.mem_append.1 hl with hl|hl
 · exact hg.1 l (List.mem_append_left _ hl)
 · rcases List.mem_cons.1 hl with rfl|hl
   · simp
   · exact hg.1 l (List.mem_append_right _ (List.mem_cons_of_mem _ hl))
theorem set_new {ps:List (List Ent)} {k v:Bs} {p i:Nat} (hg:Pages ps) (h:Found ps k p i false):
 ∃(hp:p<ps.length),i<=ps[p].length/\(ps.set p (ps[p].take i ++ [(k,v)] ++ ps[p].drop i)).flatten=put ps.flatten k v/\Pages (ps.set p (ps[p].take i ++ [(k,v)] ++ ps[p].drop i))/\(put ps.flatten k v).length=ps.flatten.length+1:=by
 obtain⟨A,X,Y,C,rfl,rfl,rfl,hlow,hh⟩:=h
 simp only[Bool.false_eq_true,if_false]at hh
 refine⟨by simp,by simp,?_⟩
 have e1:(A ++ (X ++ Y) :: C)[A.length]=X ++ Y:=by simp
 simp only[e1,List.take_left,List.drop_left]
 have e3:(A ++ (X ++ Y) :: C).set A.length (X ++ [(k,v)] ++ Y)=A ++ (X ++ (k,v) :: Y) :: C:=by simp
 have f:(A ++ (X ++ (k,v) :: Y) :: C).flatten=(A.flatten ++ X) ++ (k,v) :: (Y ++ C.flatten):=by simp
 have f0:(A ++ (X ++ Y) :: C).flatten=(A.flatten ++ X) ++ (Y ++ C.flatten):=by simp
 have hput:put (A ++ (X ++ Y) :: C).flatten k v=(A.flatten ++ X) ++ (k,v) :: (Y ++ C.flatten):=by rw[f0];exact put_new hlow hh
 have hs:Sorted ((A.flatten ++ X) ++ (k,v) :: (Y ++ C.flatten)):=by
  have h2:=hg.2
  rw[f0]at h2
  exact sorted_ins h2 hlow hh
 rw[e3,hput]
 refine⟨f,⟨fun l hl=>?_,by rw[f];exact hs⟩,by rw[f0];simp;omega⟩
 rcases List.mem_append.1 hl with hl|hl
 · exact hg.1 l (List.mem_append_left _ hl)
 · rcases List.mem_cons.1 hl with rfl|hl
   · simp
   · exact hg.1 l (List.mem_append_right _ (List.mem_cons_of_mem _ hl))
theorem split_page {ps:List (List Ent)} {p h:Nat} (hp:p<ps.length) (hg:Pages ps) (h0:0<h) (h1:h<ps[p].length):
 Pages (ps.take p ++ [ps[p].take h,ps[p].drop h] ++ ps.drop (p+1))/\(ps.take p ++ [ps[p].take h,ps[p].drop h] ++ ps.drop (p+1)).flatten=ps.flatten:=by
 have e:(ps.take p ++ [ps[p].take h,ps[p].drop h] ++ ps.drop (p+1)).flatten=ps.flatten:=by
  rw[flatten_self hp];simp only[List.flatten_append,List.flatten_cons,List.flatten_nil,List.append_nil,List.append_assoc]
  rw[<-List.append_assoc (List.take h _),List.take_append_drop]
 refine⟨⟨fun l hl=>?_,by rw[e];exact hg.2⟩,e⟩
 rcases List.mem_append.1 hl with hl|hl
 · rcases List.mem_append.1 hl with hl|hl
   · exact hg.1 l (List.mem_of_mem_take hl)
   · simp only[List.mem_cons,List.not_mem_nil,or_false]at hl
     rcases hl with rfl|rfl
     · intro e;have:=congrArg List.length e;rw[List.length_take,List.length_nil]at this;omega
     · intro e;have:=congrArg List.length e;rw[List.length_drop,List.length_nil]at this;omega
 · exact hg.1 l (List.mem_of_mem_drop hl)
theorem len_set {ps:List (List Ent)} {p:Nat} (hp:p<ps.length) (l:List Ent):(ps.set p l).flatten.length+ps[p].length=ps.flatten.length+l.length:=by
 rw[flatten_at hp,flatten_self hp]
 simp only[List.length_append];omega
theorem pages_le {ps:List (List Ent)} (h:∀l ∈ ps,l≠[]):ps.length<=ps.flatten.length:=by
 induction ps with
 | nil=>simp
 | cons l ps ih=>
   have:=ih (fun x hx=>h x (List.mem_cons_of_mem _ hx))
   have h1:0<l.length:=List.length_pos_iff.2 (h l List.mem_cons_self)
   simp only[List.flatten_cons,List.length_append,List.length_cons];omega
theorem split_shape (ps:List (List Ent)) {p:Nat} (hp:p<ps.length) (a b:List Ent):((ps.set p a).take (p+1)) ++ [b] ++ ((ps.set p a).drop (p+1))=ps.take p ++ [a,b] ++ ps.drop (p+1):=by
 have e:(ps.set p a).take (p+1)=ps.take p ++ [a]:=by
  rw[List.take_add_one,List.take_set_of_le (Nat.le_refl _)]
  simp[hp]
 rw[e,List.drop_set_of_lt (by omega)]
 simp
end Gl

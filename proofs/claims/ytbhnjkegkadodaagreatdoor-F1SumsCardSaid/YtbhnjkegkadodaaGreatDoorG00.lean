/- Part of the proof. -/
set_option linter.all false
set_option maxRecDepth 100000
set_option maxHeartbeats 8000000
theorem zqL {a b c:Nat}:a<b->b<=c->a<c:=Nat.lt_of_lt_of_le
theorem zqA.{u} {A:Type u} {xs:Array A} {i:Nat} {b:A}:xs[i]?=some b↔∃h:i<xs.size,xs[i]=b:=Array.getElem?_eq_some_iff
theorem zE.{u} {A:Sort u} (a:A):∃b,b=a:=⟨a,rfl⟩
theorem zN {a b:Prop} (x:a) (y:b):a∧b:=⟨x,y⟩
theorem zR (n:Nat):n<=n:=Nat.le_refl n
theorem zT {a b c:Nat}:a<=b->b<=c->a<=c:=Nat.le_trans
theorem zG.{u} {A:Type u} {l:List A} {i:Nat} (h:i<l.length):l[i]?=some l[i]:=List.getElem?_eq_getElem h
namespace Gn
def B:Nat:=18446744073709551616
theorem B_pos:0<B:=by decide
theorem B_pow_pos (n:Nat):0<B ^ n:=Nat.pow_pos B_pos
def val:List Nat->Nat
 | []=>0
 | x :: l=>x+B*val l
@[simp] theorem val_nil:val []=0:=rfl
@[simp] theorem val_cons (x:Nat) (l:List Nat):val (x :: l)=x+B*val l:=rfl
def Lim (l:List Nat):Prop:=∀x ∈ l,x<B
theorem Lim.nil:Lim []:=by intro x h;cases h
theorem Lim.take {l:List Nat} (h:Lim l) (n:Nat):Lim (l.take n):=fun x hx=>h x (List.mem_of_mem_take hx)
theorem Lim.drop {l:List Nat} (h:Lim l) (n:Nat):Lim (l.drop n):=fun x hx=>h x (List.mem_of_mem_drop hx)
theorem Lim.get {l:List Nat} (h:Lim l) (i:Nat) (hi:i<l.length):l[i]<B:=h _ (List.getElem_mem hi)
theorem Lim.append {a b:List Nat} (ha:Lim a) (hb:Lim b):Lim (a ++ b):=fun x hx=>by
 rcases List.mem_append.1 hx with h|h
 · exact ha x h
 · exact hb x h
theorem Lim.set {l:List Nat} (h:Lim l) (i x:Nat) (hx:x<B):Lim (l.set i x):=fun y hy=>by
 rcases List.mem_or_eq_of_mem_set hy with h1|h1
 · exact h y h1
 · exact h1▸hx
theorem Lim.zeros (n:Nat):Lim (List.replicate n 0):=fun x hx=>by
 rw[List.mem_replicate]at hx;rw[hx.2];exact B_pos
theorem Lim.cons {x:Nat} {l:List Nat} (hx:x<B) (h:Lim l):Lim (x :: l):=fun y hy=>by
 rcases List.mem_cons.1 hy with h1|h1
 · exact h1▸hx
 · exact h y h1
theorem val_append (a b:List Nat):val (a ++ b)=val a+B ^ a.length*val b:=by
 induction a with
 | nil=>simp
 | cons x a ih=>simp only[List.cons_append,val_cons,ih,List.length_cons,Nat.pow_succ];rw[Nat.mul_add,Nat.add_assoc,<-Nat.mul_assoc,Nat.mul_comm B (B ^ a.length)]
theorem val_lt {l:List Nat} (h:Lim l):val l<B ^ l.length:=by
 induction l with
 | nil=>simp
 | cons x l ih=>
   have h1:=ih (fun y hy=>h y (List.mem_cons_of_mem _ hy));have h2:x<B:=h x List.mem_cons_self;simp only[val_cons,List.length_cons,Nat.pow_succ];have h3:B*(val l+1)<=B*B ^ l.length:=Nat.mul_le_mul_left B h1;rw[Nat.mul_comm (B ^ l.length) B];rw[Nat.mul_add]at h3;omega
theorem val_zeros (n:Nat):val (List.replicate n 0)=0:=by
 induction n with
 | zero=>rfl
 | succ n ih=>rw[List.replicate_succ,val_cons,ih];simp
theorem zag (l:List Nat) (i:Nat) (h:i<l.length):val (l.take (i+1))=val (l.take i)+B ^ i*l[i]:=by
 rw[List.take_succ_eq_append_getElem h,val_append,List.length_take_of_le (Nat.le_of_lt h)];simp
theorem zaf {l:List Nat} {n:Nat} (h:l.length<=n):val (l.take n)=val l:=by rw[List.take_of_length_le h]
theorem val_split (l:List Nat) (i:Nat) (h:i<=l.length):val l=val (l.take i)+B ^ i*val (l.drop i):=by
 conv=>lhs;rw[<-List.take_append_drop i l]
 rw[val_append,List.length_take_of_le h]
theorem val_set (l:List Nat) (i x:Nat) (h:i<l.length):val (l.set i x)+B ^ i*l[i]=val l+B ^ i*x:=by
 rw[val_split l i (Nat.le_of_lt h),val_split (l.set i x) i (by simpa using Nat.le_of_lt h),List.take_set_of_le (zR _)];rw[List.drop_eq_getElem_cons h,List.drop_eq_getElem_cons (by simpa using h)];simp only[List.getElem_set_self,val_cons,Nat.mul_add];rw[List.drop_set_of_lt (by omega)];omega
theorem take_set_succ (l:List Nat) (i x:Nat) (h:i<l.length):(l.set i x).take (i+1)=l.take i ++ [x]:=by
 rw[List.take_succ_eq_append_getElem (by simpa using h),List.take_set_of_le (zR _)];simp
theorem zai (l:List Nat) (i x:Nat) (h:i<l.length):val ((l.set i x).take (i+1))=val (l.take i)+B ^ i*x:=by
 rw[take_set_succ l i x h,val_append,List.length_take_of_le (Nat.le_of_lt h)];simp
theorem val_eq_zero {l:List Nat}:val l=0↔∀x ∈ l,x=0:=by
 induction l with
 | nil=>simp
 | cons x l ih=>
   simp only[val_cons,List.mem_cons,forall_eq_or_imp,<-ih]
   constructor
   · intro h;refine⟨by omega,?_⟩;rcases Nat.eq_zero_or_pos (val l) with h0|h0
     · exact h0
     · have:=Nat.mul_pos B_pos h0;omega
   · rintro⟨h1,h2⟩;rw[h1,h2];simp
def Norm (l:List Nat):Prop:=∀h:l≠[],l.getLast h≠0
theorem Norm.nil:Norm []:=fun h=>absurd rfl h
theorem Norm.tail {x:Nat} {l:List Nat} (h:Norm (x :: l)):Norm l:=fun hl=>by
 have:=h (by simp);rwa [List.getLast_cons hl]at this
theorem Norm.val_pos {l:List Nat} (h:Norm l) (hl:l≠[]):0<val l:=by
 rcases Nat.eq_zero_or_pos (val l) with h0|h0
 · exact absurd (val_eq_zero.1 h0 _ (List.getLast_mem hl)) (h hl)
 · exact h0
theorem Norm.eq:∀ {a b:List Nat},Norm a->Norm b->Lim a->Lim b->val a=val b->a=b
 | [],[],_,_,_,_,_=>rfl
 | [],y :: b,_,hb,_,_,h=>by have:=hb.val_pos (by simp);simp at h this;omega
 | x :: a,[],ha,_,_,_,h=>by have:=ha.val_pos (by simp);simp at h this;omega
 | x :: a,y :: b,ha,hb,la,lb,h=>by
   have hx:=la x List.mem_cons_self;have hy:=lb y List.mem_cons_self;simp only[val_cons]at h;have e1:x=y:=by
     have h1:=congrArg (· % B) h;simp only[Nat.add_mul_mod_self_left]at h1
     rwa [Nat.mod_eq_of_lt hx,Nat.mod_eq_of_lt hy]at h1
   subst e1;have e2:val a=val b:=Nat.eq_of_mul_eq_mul_left B_pos (by omega);rw[Norm.eq ha.tail hb.tail (fun z hz=>la z (List.mem_cons_of_mem _ hz)) (fun z hz=>lb z (List.mem_cons_of_mem _ hz)) e2]
theorem Norm.le_val {l:List Nat} (h:Norm l) (hl:l≠[]):B ^ (l.length-1)<=val l:=by
 induction l with
 | nil=>exact absurd rfl hl
 | cons x l ih=>
   rcases Decidable.em (l=[]) with e|e
   · subst e;have:=h.val_pos (by simp);simp at this ⊢;omega
   · have h1:=ih h.tail e;have h2:l.length≠0:=fun h0=>e (List.eq_nil_of_length_eq_zero h0);simp only[List.length_cons,Nat.add_sub_cancel,val_cons];obtain⟨k,hk⟩:∃k,l.length=k+1:=⟨l.length-1,by omega⟩
     rw[hk]at h1 ⊢;rw[Nat.pow_succ,Nat.mul_comm];have:=Nat.mul_le_mul_left B h1;simp at this ⊢;omega
theorem Norm.len_le {l:List Nat} {k:Nat} (h:Norm l) (hk:val l<B ^ k):l.length<=k:=by
 rcases Decidable.em (l=[]) with e|e
 · subst e;simp
 · have h1:=h.le_val e;have h2:B ^ (l.length-1)<B ^ k:=Nat.lt_of_le_of_lt h1 hk;have h3:=(Nat.pow_lt_pow_iff_right (a:=B) (by decide)).1 h2;omega
def trimLen:List Nat->Nat
 | []=>0
 | x :: l=>if trimLen l=0/\x=0 then 0 else trimLen l+1
def trim (l:List Nat):List Nat:=l.take (trimLen l)
theorem trimLen_le (l:List Nat):trimLen l<=l.length:=by
 induction l with
 | nil=>simp[trimLen]
 | cons x l ih=>simp only[trimLen,List.length_cons];split<;>omega
theorem trim_cons (x:Nat) (l:List Nat):trim (x :: l)=if trim l=[]/\x=0 then[] else x :: trim l:=by
 unfold trim;simp only[trimLen];have h0:trimLen l=0↔l.take (trimLen l)=[]:=by
  constructor
  · intro h;rw[h];simp
  · intro h;have h1:=congrArg List.length h;rw[List.length_take_of_le (trimLen_le l)]at h1
    simpa using h1
 by_cases h:trimLen l=0/\x=0
 · rw[if_pos h,if_pos ⟨h0.1 h.1,h.2⟩];simp
 · rw[if_neg h,if_neg (fun hh=>h ⟨h0.2 hh.1,hh.2⟩)];simp
theorem val_trim (l:List Nat):val (trim l)=val l:=by
 induction l with
 | nil=>rfl
 | cons x l ih=>
   rw[trim_cons]
   split
   · rename_i h;rw[h.1]at ih;simp at ih;simp[h.2,<-ih]
   · simp[ih]
theorem norm_trim (l:List Nat):Norm (trim l):=by
 induction l with
 | nil=>exact Norm.nil
 | cons x l ih=>
   rw[trim_cons]
   split
   · exact Norm.nil
   · rename_i h
     intro hne;by_cases e:trim l=[]
     · have hx:x≠0:=fun hx=>h ⟨e,hx⟩
       simpa[e] using hx
     · rw[List.getLast_cons e];exact ih e
theorem lim_trim {l:List Nat} (h:Lim l):Lim (trim l):=h.take _
theorem zau (l:List Nat):(trim l).length=trimLen l:=List.length_take_of_le (trimLen_le l)
theorem trimLen_of {l:List Nat} {n:Nat} (hn:n<=l.length) (hz:∀j,n<=j->∀h:j<l.length,l[j]=0) (ht:∀h:0<n,l[n-1]'(by omega)≠0):trimLen l=n:=by
 induction l generalizing n with
 | nil=>
   have h0:n=0:=by simpa using hn
   rw[h0];rfl
 | cons x l ih=>
   cases n with
   | zero=>
     have h0:trimLen l=0:=ih (Nat.zero_le _) (fun j _ h=>by have:=hz (j+1) (by omega) (by simp;omega);simpa using this) (fun h=>absurd h (by omega));have hx:x=0:=(by have:=hz 0 (zR _) (by simp);simpa using this);simp[trimLen,h0,hx]
   | succ n=>
     have a2:n<=l.length:=(by simpa using hn);have h0:trimLen l=n:=by
      refine ih a2 (fun j hj h=>by have:=hz (j+1) (by omega) (by simp;omega);simpa using this) (fun h=>?_);have:=ht (by omega);simp only[Nat.add_sub_cancel]at this;obtain⟨m,rfl⟩:∃m,n=m+1:=⟨n-1,by omega⟩
      simpa using this
     simp only[trimLen,h0]
     split
     · rename_i h
       obtain⟨h1,h2⟩:=h;subst h1;have:=ht (by omega);simp at this;exact absurd h2 this
     · rfl
theorem val_lt_len {a b:List Nat} (ha:Lim a) (hb:Norm b) (h:a.length<b.length):val a<val b:=by
 have h1:=val_lt ha;have h2:=hb.le_val (fun e=>by rw[e]at h;simp at h);have h3:B ^ a.length<=B ^ (b.length-1):=Nat.pow_le_pow_right B_pos (by omega);omega
theorem val_lt_at {a b:List Nat} (ha:Lim a) (k:Nat) (hka:k<a.length) (hkb:k<b.length) (hd:a.drop (k+1)=b.drop (k+1)) (hlt:a[k]<b[k]):val a<val b:=by
 rw[val_split a k (by omega),val_split b k (by omega),List.drop_eq_getElem_cons hka,List.drop_eq_getElem_cons hkb,hd];have h1:=val_lt (ha.take k);rw[List.length_take_of_le (by omega)]at h1;simp only[val_cons];have h2:B ^ k*(a[k]+1)<=B ^ k*b[k]:=Nat.mul_le_mul_left _ hlt;rw[Nat.mul_add]at h2 ⊢;rw[Nat.mul_add];omega
theorem mul_lt_of {a b m:Nat} (_hm:0<m) (h:a*m<b*m):a<b:=Nat.lt_of_mul_lt_mul_right h
theorem guess_bounds {m M T b2 bl rl:Nat} (hM:0<M) (hbl:bl<M) (hrl:rl<M) (hb2:m<=b2) (_hm:0<m)
 (hR:T*M+rl<(b2*M+bl)*m):
 (T*M+rl) / (b2*M+bl)<=min (m-1) (T / b2)/\min (m-1) (T / b2)<=(T*M+rl) / (b2*M+bl)+1:=by
 have a1:0<b2:=by omega
 have a2:0<b2*M+bl:=by have:=Nat.mul_pos a1 hM;omega
 obtain⟨q,hq⟩:=zE ((T*M+rl) / (b2*M+bl));have a8:q*(b2*M+bl)<=T*M+rl:=hq▸Nat.div_mul_le_self _ _;have a9:T*M+rl<(q+1)*(b2*M+bl):=by
  have h0:=Nat.lt_mul_div_succ (T*M+rl) a2;rw[<-hq,Nat.mul_comm (b2*M+bl)]at h0;exact h0
 rw[<-hq]
 constructor
 · refine Nat.le_min.2 ⟨?_,?_⟩
   · have h1:q*(b2*M+bl)<m*(b2*M+bl):=(by rw[Nat.mul_comm m];omega);have:=mul_lt_of a2 h1;omega
   · rw[Nat.le_div_iff_mul_le a1];have h1:q*b2*M<=q*(b2*M+bl):=(by rw[Nat.mul_assoc];exact Nat.mul_le_mul_left q (Nat.le_add_right _ _));have h2:q*b2*M<(T+1)*M:=(by rw[Nat.add_mul];omega);have:=mul_lt_of hM h2;omega
 · rcases Nat.lt_or_ge (q+1) (min (m-1) (T / b2)) with h|h
   · exfalso
     obtain⟨d,hd⟩:=zE (min (m-1) (T / b2));rw[<-hd]at h;have b5:d<=m-1:=hd▸Nat.min_le_left _ _;have a3:d*b2<=T:=by
      have:d<=T / b2:=hd▸Nat.min_le_right _ _
      rwa [Nat.le_div_iff_mul_le a1]at this
     obtain⟨c,hc⟩:∃c,d=c+1:=⟨d-1,by omega⟩
     have a4:q+1<=c:=(by omega);have e1:(q+1)*(b2*M+bl)<=c*(b2*M+bl):=Nat.mul_le_mul_right _ a4;have e2:c*(b2*M+bl)<=c*((b2+1)*M):=Nat.mul_le_mul_left _ (by rw[Nat.add_mul];omega);have e3:d*b2*M<=T*M:=Nat.mul_le_mul_right _ a3;have e4:d*b2*M<c*(b2+1)*M:=(by rw[Nat.mul_assoc c];omega);have e5:=mul_lt_of hM e4;rw[hc,Nat.add_mul,Nat.mul_add]at e5;omega
   · exact h
theorem half_fit {q r y1 y0 u H n:Nat} (he:q*y1+r=u) (h:q*y0<=H*r+n):q*(y1*H+y0)<=u*H+n:=by
 have e:q*(y1*H+y0)=q*y1*H+q*y0:=by rw[Nat.mul_add,Nat.mul_assoc]
 rw[e,<-he,Nat.add_mul,Nat.mul_comm r H];omega
theorem half_over {q r y1 y0 u H n:Nat} (he:q*y1+r=u) (h:H*r+n<q*y0):u*H+n<q*(y1*H+y0):=by
 have e:q*(y1*H+y0)=q*y1*H+q*y0:=by rw[Nat.mul_add,Nat.mul_assoc]
 rw[e,<-he,Nat.add_mul,Nat.mul_comm r H];omega
theorem two_halves {u n1 n0 y H:Nat} (hy:0<y) (h0:n0<H) (h1:n1<H) (hu:u<y):
 ((u*H+n1) / y)*H+(((u*H+n1) % y)*H+n0) / y=((u*H+n1)*H+n0) / y/\(((u*H+n1) % y)*H+n0) % y=((u*H+n1)*H+n0) % y:=by
 have _:=h0;have _:=h1;have _:=hu;have e:(u*H+n1)*H+n0=((u*H+n1) % y)*H+n0+y*(((u*H+n1) / y)*H):=by
  conv=>lhs;rw[<-Nat.mod_add_div (u*H+n1) y]
  rw[Nat.add_mul,Nat.mul_assoc];omega
 constructor
 · rw[e,Nat.add_mul_div_left _ _ hy,Nat.add_comm]
 · rw[e,Nat.add_mul_mod_self_left]
theorem div_shift {u y s:Nat} (hs:0<s):u*s / (y*s)=u / y:=Nat.mul_div_mul_right u y hs
theorem mod_shift {u y s:Nat}:u*s % (y*s)=u % y*s:=Nat.mul_mod_mul_right s u y
end Gn
namespace Gl
abbrev Bs:=List Nat
def blt:Bs->Bs->Bool
 | [],[]=>false
 | [],_ :: _=>true
 | _ :: _,[]=>false
 | x :: a,y :: b=>if x<y then true else if y<x then false else blt a b
theorem zax (a:Bs):blt a a=false:=by
 induction a with
 | nil=>rfl
 | cons x a ih=>simp[blt,ih,Nat.lt_irrefl]
theorem nn_eq {x y:Nat} (h1:¬x<y) (h2:¬y<x):x=y:=by
 omega
theorem blt_tri {a b:Bs} (h1:blt a b=false) (h2:blt b a=false):a=b:=by
 induction a generalizing b with
 | nil=>cases b with
   | nil=>rfl
   | cons y b=>simp[blt]at h1
 | cons x a ih=>cases b with
   | nil=>simp[blt]at h2
   | cons y b=>
     simp only[blt]at h1 h2;by_cases hx:x<y
     · simp[hx]at h1
     · by_cases hy:y<x
       · simp[hy]at h2
       · have e:=nn_eq hx hy;subst e;simp only[hx,if_false]at h1 h2;rw[ih h1 h2]
theorem zbi {a b c:Bs} (h1:blt a b=true) (h2:blt b c=true):blt a c=true:=by
 induction a generalizing b c with
 | nil=>cases b with
   | nil=>simp[blt]at h1
   | cons y b=>cases c with
     | nil=>simp[blt]at h2
     | cons z c=>rfl
 | cons x a ih=>cases b with
   | nil=>simp[blt]at h1
   | cons y b=>cases c with
     | nil=>simp[blt]at h2
     | cons z c=>
       simp only[blt]at h1 h2 ⊢;by_cases hxy:x<y
       · by_cases hyz:y<z
         · rw[if_pos (by omega)]
         · rw[if_neg hyz]at h2;by_cases hzy:z<y
           · simp[hzy]at h2
           · rw[if_pos (by omega)]
       · rw[if_neg hxy]at h1;by_cases hyx:y<x
         · simp[hyx]at h1
         · rw[if_neg hyx]at h1;by_cases hyz:y<z
           · rw[if_pos (by omega)]
           · rw[if_neg hyz]at h2;by_cases hzy:z<y
             · simp[hzy]at h2
             · rw[if_neg hzy]at h2;rw[if_neg (by omega),if_neg (by omega)];exact ih h1 h2
theorem zbn {a b:Bs} (h:blt a b=true):blt b a=false:=by
 cases hb:blt b a with
 | false=>rfl
 | true=>have:=zbi h hb;rw[zax]at this;cases this
theorem blt_ne {a b:Bs} (h:blt a b=true):a≠b:=fun e=>by rw[e,zax]at h;cases h
theorem blt_of_not {a b:Bs} (h:blt a b=false) (hne:a≠b):blt b a=true:=by
 cases hb:blt b a with
 | true=>rfl
 | false=>exact absurd (blt_tri h hb) hne
theorem blt_of_lt_of_le {a b c:Bs} (h1:blt a b=true) (h2:blt c b=false):blt a c=true:=by
 by_cases e:c=b
 · rw[e];exact h1
 · exact zbi h1 (blt_of_not h2 e)
theorem blt_of_le_of_lt {a b c:Bs} (h1:blt b a=false) (h2:blt b c=true):blt a c=true:=by
 by_cases e:b=a
 · rw[<-e];exact h2
 · exact zbi (blt_of_not h1 e) h2
abbrev Ent:=Bs × Bs
def Sorted (L:List Ent):Prop:=L.Pairwise fun x y=>blt x.1 y.1=true
def get (L:List Ent) (k:Bs):Option Bs:=(L.find? fun e=>e.1 == k).map (·.2)
def put (L:List Ent) (k v:Bs):List Ent:=L.filter (fun e=>blt e.1 k) ++ (k,v) :: L.filter (fun e=>blt k e.1)
def del (L:List Ent) (k:Bs):List Ent:=L.filter fun e=>e.1 != k
def has (L:List Ent) (k:Bs):Bool:=L.any fun e=>e.1 == k
def Low (L:List Ent) (k:Bs):Prop:=∀e ∈ L,blt e.1 k=true
def High (L:List Ent) (k:Bs):Prop:=∀e ∈ L,blt k e.1=true
theorem Low.append {A C:List Ent} {k:Bs} (h:Low A k) (h':Low C k):Low (A ++ C) k:=fun e he=>(List.mem_append.1 he).elim (h e) (h' e)
theorem High.append {A C:List Ent} {k:Bs} (h:High A k) (h':High C k):High (A ++ C) k:=fun e he=>(List.mem_append.1 he).elim (h e) (h' e)
theorem filter_low {A:List Ent} {k:Bs} (h:Low A k):A.filter (fun e=>blt e.1 k)=A:=List.filter_eq_self.2 h
theorem filter_high {A:List Ent} {k:Bs} (h:High A k):A.filter (fun e=>blt k e.1)=A:=List.filter_eq_self.2 h
theorem zbq {A:List Ent} {k:Bs} (h:High A k):A.filter (fun e=>blt e.1 k)=[]:=List.filter_eq_nil_iff.2 fun e he=>by simp[zbn (h e he)]
theorem zbr {A:List Ent} {k:Bs} (h:Low A k):A.filter (fun e=>blt k e.1)=[]:=List.filter_eq_nil_iff.2 fun e he=>by simp[zbn (h e he)]
theorem filter_ne_low {A:List Ent} {k:Bs} (h:Low A k):A.filter (fun e=>e.1 != k)=A:=List.filter_eq_self.2 fun e he=>by simp[blt_ne (h e he)]
theorem filter_ne_high {A:List Ent} {k:Bs} (h:High A k):A.filter (fun e=>e.1 != k)=A:=List.filter_eq_self.2 fun e he=>by simp[Ne.symm (blt_ne (h e he))]
theorem put_new {A C:List Ent} {k v:Bs} (ha:Low A k) (hc:High C k):put (A ++ C) k v=A ++ (k,v) :: C:=by
 simp[put,List.filter_append,filter_low ha,filter_high hc,zbq hc,zbr ha]
theorem put_old {A C:List Ent} {k v u:Bs} (ha:Low A k) (hc:High C k):put (A ++ (k,u) :: C) k v=A ++ (k,v) :: C:=by
 simp[put,List.filter_append,zax,filter_low ha,filter_high hc,zbq hc,zbr ha]
theorem del_old {A C:List Ent} {k u:Bs} (ha:Low A k) (hc:High C k):del (A ++ (k,u) :: C) k=A ++ C:=by
 simp[del,List.filter_append,filter_ne_low ha,filter_ne_high hc]
theorem del_none {A C:List Ent} {k:Bs} (ha:Low A k) (hc:High C k):del (A ++ C) k=A ++ C:=by
 simp[del,List.filter_append,filter_ne_low ha,filter_ne_high hc]
theorem get_old {A C:List Ent} {k u:Bs} (ha:Low A k):get (A ++ (k,u) :: C) k=some u:=by
 have h:A.find? (fun e=>e.1 == k)=none:=List.find?_eq_none.2 fun e he=>by simp[blt_ne (ha e he)]
 simp[get,List.find?_append,h]
theorem get_none {A C:List Ent} {k:Bs} (ha:Low A k) (hc:High C k):get (A ++ C) k=none:=by
 have h:A.find? (fun e=>e.1 == k)=none:=List.find?_eq_none.2 fun e he=>by simp[blt_ne (ha e he)]
 have h':C.find? (fun e=>e.1 == k)=none:=List.find?_eq_none.2 fun e he=>by simp[Ne.symm (blt_ne (hc e he))]
 simp[get,List.find?_append,h,h']
theorem Sorted.append {A C:List Ent} (h:Sorted (A ++ C)):Sorted A/\Sorted C/\∀a ∈ A,∀c ∈ C,blt a.1 c.1=true:=List.pairwise_append.1 h
theorem Sorted.mk {A C:List Ent} (ha:Sorted A) (hc:Sorted C) (h:∀a ∈ A,∀c ∈ C,blt a.1 c.1=true):Sorted (A ++ C):=List.pairwise_append.2 ⟨ha,hc,h⟩
theorem sorted_ins {A C:List Ent} {k v:Bs} (h:Sorted (A ++ C)) (ha:Low A k) (hc:High C k):Sorted (A ++ (k,v) :: C):=by
 obtain⟨h1,h2,h3⟩:=h.append;refine Sorted.mk h1 (List.pairwise_cons.2 ⟨fun e he=>hc e he,h2⟩) fun a haa c hcc=>?_
 rcases List.mem_cons.1 hcc with rfl|hcc
 · exact ha a haa
 · exact h3 a haa c hcc
theorem sorted_rem {A C:List Ent} {x:Ent} (h:Sorted (A ++ x :: C)):Sorted (A ++ C):=by
 obtain⟨h1,h2,h3⟩:=h.append;exact Sorted.mk h1 (List.pairwise_cons.1 h2).2 fun a ha c hc=>h3 a ha c (List.mem_cons_of_mem _ hc)
def Pages (ps:List (List Ent)):Prop:=(∀l ∈ ps,l≠[])/\Sorted ps.flatten
def Found (ps:List (List Ent)) (k:Bs) (p i:Nat) (there:Bool):Prop:=
 ∃(A:List (List Ent)) (X Y:List Ent) (C:List (List Ent)),ps=A ++ (X ++ Y) :: C/\p=A.length/\i=X.length/\Low (A.flatten ++ X) k /\
  (if there then ∃u Y',Y=(k,u) :: Y'/\High (Y' ++ C.flatten) k else High (Y ++ C.flatten) k)
def head1 (l:List Ent):Bs:=(l.head?.map (·.1)).getD []
theorem found_of {ps:List (List Ent)} {k:Bs} {p i:Nat} (h:Pages ps) (hp:p<ps.length)
 (h1:∀q,p<q->∀hq:q<ps.length,blt k (head1 ps[q])=true) (h2:p=0\/blt k (head1 ps[p])=false)
 (hi:i<=ps[p].length) (h3:∀j,∀hj:j<i,blt (ps[p][j]'(by omega)).1 k=true) (h4:∀j,i<=j->∀hj:j<ps[p].length,blt (ps[p][j]).1 k=false):
 Found ps k p i (decide (∃hj:i<ps[p].length,(ps[p][i]).1=k)):=by
 obtain⟨b6,hs⟩:=h;have e:ps=ps.take p ++ ps[p] :: ps.drop (p+1):=by
  rw[<-List.drop_eq_getElem_cons hp,List.take_append_drop]
 obtain⟨l,hl⟩:=zE (ps[p]);have a4:l ∈ ps:=hl▸List.getElem_mem hp;simp only[<-hl]at hi h3 h4 h2 e ⊢;have a5:=b6 l a4;obtain⟨A,hA⟩:=zE (ps.take p);obtain⟨C,hC⟩:=zE (ps.drop (p+1));have b9:p=A.length:=by rw[hA,List.length_take_of_le (by omega)]
 rw[<-hA,<-hC]at e;have c5:ps.flatten=A.flatten ++ (l ++ C.flatten):=by
  conv=>lhs;rw[e]
  simp
 rw[c5]at hs;obtain⟨e7,e0,e1⟩:=hs.append;obtain⟨b7,e2,e8⟩:=e0.append;have a6:High C.flatten k:=by
  intro x hx;obtain⟨c,hc,a2⟩:=List.mem_flatten.1 hx;obtain⟨m,hm,e3⟩:=List.getElem_of_mem hc;have a7:p+1+m<ps.length:=by rw[hC,List.length_drop]at hm;omega
  have a8:ps[p+1+m]=c:=by rw[<-e3];simp[hC]
  have hk:=h1 (p+1+m) (by omega) a7;rw[a8]at hk;have a9:=b6 c (a8▸List.getElem_mem a7);obtain⟨y,c',rfl⟩:=List.exists_cons_of_ne_nil a9;simp only[head1,List.head?_cons,Option.map_some,Option.getD_some]at hk;have c6:Sorted (y :: c'):=e2.sublist (List.sublist_flatten_of_mem hc);rcases List.mem_cons.1 a2 with rfl|a2
  · exact hk
  · exact zbi hk ((List.pairwise_cons.1 c6).1 x a2)
 have d0:Low A.flatten k:=by
  rcases h2 with h0|h2
  · have d5:A=[]:=(by rw[hA,h0];rfl);rw[d5];intro x hx;cases hx
  · intro x hx;obtain⟨y,l',b8⟩:=List.exists_cons_of_ne_nil a5;rw[b8]at h2;simp only[head1,List.head?_cons,Option.map_some,Option.getD_some]at h2;have d6:=e1 x hx y (by rw[b8];simp);exact blt_of_lt_of_le d6 h2
 refine⟨A,l.take i,l.drop i,C,by rw[List.take_append_drop];exact e,b9,by rw[List.length_take_of_le hi],d0.append ?_,?_⟩
 · intro x hx;obtain⟨j,hj,a3⟩:=List.getElem_of_mem hx;rw[List.length_take_of_le hi]at hj;have:=h3 j hj;rw[<-a3,List.getElem_take];exact this
 · have b0:∀x ∈ l.drop i,blt x.1 k=false:=by
    intro x hx;obtain⟨j,hj,a3⟩:=List.getElem_of_mem hx;rw[List.length_drop]at hj;have:=h4 (i+j) (by omega) (by omega);rw[<-a3,List.getElem_drop];exact this
   by_cases ht:∃hj:i<l.length,l[i].1=k
   · obtain⟨hj,hk⟩:=ht;rw[if_pos (by simpa using⟨hj,hk⟩)];refine⟨l[i].2,l.drop (i+1),by rw[List.drop_eq_getElem_cons hj,<-hk],High.append ?_ a6⟩;intro x hx;have a1:Sorted (l.drop i):=b7.sublist (List.drop_sublist _ _);rw[List.drop_eq_getElem_cons hj]at a1;have:=(List.pairwise_cons.1 a1).1 x hx
     rwa [hk]at this
   · rw[if_neg (by simpa using ht)];refine High.append ?_ a6;intro x hx;rcases Nat.lt_or_ge i l.length with hj|hj
     · rw[List.drop_eq_getElem_cons hj]at hx b0;have h0:=b0 l[i] List.mem_cons_self;have b5:blt k l[i].1=true:=blt_of_not h0 (fun hk=>ht ⟨hj,hk⟩);rcases List.mem_cons.1 hx with rfl|hx
       · exact b5
       · have a1:Sorted (l.drop i):=b7.sublist (List.drop_sublist _ _);rw[List.drop_eq_getElem_cons hj]at a1;exact zbi b5 ((List.pairwise_cons.1 a1).1 x hx)
     · rw[List.drop_eq_nil_of_le hj]at hx;cases hx
theorem heads_rise {ps:List (List Ent)} (h:Pages ps) {i j:Nat} (hij:i<j) (hj:j<ps.length):blt (head1 (ps[i]'(by omega))) (head1 ps[j])=true:=by
 obtain⟨a1,hs⟩:=h;have e:ps=ps.take (i+1) ++ ps.drop (i+1):=(List.take_append_drop _ _).symm;have a2:ps.flatten=(ps.take (i+1)).flatten ++ (ps.drop (i+1)).flatten:=by conv=>lhs;rw[e];rw[List.flatten_append]
 rw[a2]at hs;have h3:=hs.append.2.2;have hi:i<ps.length:=by omega
 obtain⟨x,xs,hx⟩:=List.exists_cons_of_ne_nil (a1 ps[i] (List.getElem_mem hi));obtain⟨y,ys,hy⟩:=List.exists_cons_of_ne_nil (a1 ps[j] (List.getElem_mem hj));have m1:x ∈ (ps.take (i+1)).flatten:=List.mem_flatten.2 ⟨ps[i],List.mem_take_iff_getElem.2 ⟨i,by omega,rfl⟩,by rw[hx];simp⟩;have m2:y ∈ (ps.drop (i+1)).flatten:=List.mem_flatten.2 ⟨ps[j],List.mem_drop_iff_getElem.2 ⟨j-(i+1),by omega,by congr 1;omega⟩,by rw[hy];simp⟩;simp only[head1,hx,hy,List.head?_cons,Option.map_some,Option.getD_some];exact h3 x m1 y m2
theorem head1_get {ps:List (List Ent)} (h:Pages ps) {p:Nat} (hp:p<ps.length):head1 ps[p]=(ps[p][0]'(List.length_pos_iff.2 (h.1 _ (List.getElem_mem hp)))).1:=by
 obtain⟨x,xs,hx⟩:=List.exists_cons_of_ne_nil (h.1 ps[p] (List.getElem_mem hp));simp[head1,hx]
def key (l:List Ent) (q:Nat):Bs:=(l[q]?.getD ([],[])).1
theorem key_get {l:List Ent} {q:Nat} (hq:q<l.length):key l q=(l[q]).1:=by simp[key,hq]
theorem key_rise {l:List Ent} (hs:Sorted l) {i j:Nat} (hij:i<j) (hj:j<l.length):blt (key l i) (key l j)=true:=by
 rw[key_get hj,key_get (by omega)];exact List.pairwise_iff_getElem.1 hs i j (by omega) hj hij
def KeyPlace (l:List Ent) (k:Bs) (i:Nat) (f:Bool):Prop:=(f=true↔i<l.length/\key l i=k)/\i<=l.length/\(∀j,j<i->blt (key l j) k=true)/\(∀j,i<=j->j<l.length->blt (key l j) k=false)
def PageOf (ps:List (List Ent)) (k:Bs) (p:Nat):Prop:=p<ps.length/\(∀q,p<q->∀hq:q<ps.length,blt k (head1 ps[q])=true)/\(p=0\/∃hp:p<ps.length,blt k (head1 ps[p])=false)
theorem pageOf_mk {ps:List (List Ent)} {k:Bs} {a:Nat} (h0:0<ps.length) (ha:a<=ps.length) (h5:∀q,q<a->∃hq:q<ps.length,blt k (head1 ps[q])=false) (h6:∀q,a<=q->∀hq:q<ps.length,blt k (head1 ps[q])=true):PageOf ps k (a-1):=
 ⟨by omega,fun q hq hq2=>h6 q (by omega) hq2,by
   by_cases e:a=0
   · exact .inl (by omega)
   · exact .inr (h5 (a-1) (by omega))⟩
theorem low_heads {ps:List (List Ent)} {k:Bs} {m:Nat} (hg:Pages ps) (hm:m<ps.length) (h:blt k (head1 ps[m])=false):∀q,q<m+1->∃hq:q<ps.length,blt k (head1 ps[q])=false:=fun q hq=>⟨by omega,by
 by_cases e:q=m
 · subst e;exact h
 · cases hb:blt k (head1 (ps[q]'(by omega))) with
   | false=>rfl
   | true=>rw[zbi hb (heads_rise hg (by omega) hm)]at h;cases h⟩
theorem high_heads {ps:List (List Ent)} {k:Bs} {m:Nat} (hg:Pages ps) (hm:m<ps.length) (h:blt (head1 ps[m]) k=false):∀q,m+1<=q->∀hq:q<ps.length,blt k (head1 ps[q])=true:=fun q hq hq2=>blt_of_le_of_lt h (heads_rise hg (by omega) hq2)
theorem high_heads' {ps:List (List Ent)} {k:Bs} {m:Nat} (hg:Pages ps) (hm:m<ps.length) (h:blt k (head1 ps[m])=true):∀q,m<=q->∀hq:q<ps.length,blt k (head1 ps[q])=true:=fun q hq hq2=>by
 by_cases e:q=m
 · subst e;exact h
 · exact zbi h (heads_rise hg (by omega) hq2)
theorem found_place {ps:List (List Ent)} {k:Bs} {p i:Nat} {f:Bool} (hg:Pages ps) (h:PageOf ps k p) (h':KeyPlace (ps[p]'h.1) k i f):Found ps k p i f:=by
 obtain⟨hp,h1,h2⟩:=h;obtain⟨g1,g2,g3,g4⟩:=h';have:=found_of hg hp h1 (h2.imp id (fun⟨_,h⟩=>h)) g2 (fun j hj=>by rw[<-key_get (by omega)];exact g3 j hj) (fun j hj hj2=>by rw[<-key_get hj2];exact g4 j hj hj2);have e:decide (∃hj:i<ps[p].length,(ps[p][i]).1=k)=f:=by
  rw[Bool.eq_iff_iff,decide_eq_true_eq,g1];exact⟨fun⟨hj,e⟩=>⟨hj,by rw[key_get hj];exact e⟩,fun⟨hj,e⟩=>⟨hj,by rw[<-key_get hj];exact e⟩⟩
 rw[e]at this;exact this
theorem blt_nil (a:Bs):blt a []=false:=by cases a<;>rfl
theorem flatten_at {ps:List (List Ent)} {p:Nat} (hp:p<ps.length) (l:List Ent):(ps.set p l).flatten=(ps.take p).flatten ++ l ++ (ps.drop (p+1)).flatten:=by
 rw[List.set_eq_take_append_cons_drop,if_pos hp];simp
theorem flatten_self {ps:List (List Ent)} {p:Nat} (hp:p<ps.length):ps.flatten=(ps.take p).flatten ++ ps[p] ++ (ps.drop (p+1)).flatten:=by
 have e:ps=ps.take p ++ ps[p] :: ps.drop (p+1):=by rw[<-List.drop_eq_getElem_cons hp,List.take_append_drop]
 calc ps.flatten=(ps.take p ++ ps[p] :: ps.drop (p+1)).flatten:=by rw[<-e]
  _=_:=by simp only[List.flatten_append,List.flatten_cons,List.append_assoc]
theorem set_old {ps:List (List Ent)} {k v:Bs} {p i:Nat} (hg:Pages ps) (h:Found ps k p i true):
 ∃(hp:p<ps.length) (hi:i<ps[p].length),(ps.set p (ps[p].set i (k,v))).flatten=put ps.flatten k v/\Pages (ps.set p (ps[p].set i (k,v)))/\(ps[p][i]).1=k:=by
 obtain⟨A,X,Y,C,rfl,rfl,rfl,a3,hh⟩:=h;simp only[if_true]at hh;obtain⟨u,Y',rfl,a2⟩:=hh;refine⟨by simp,by simp,?_⟩;have e1:(A ++ (X ++ (k,u) :: Y') :: C)[A.length]=X ++ (k,u) :: Y':=by simp
 simp only[e1];have e2:(X ++ (k,u) :: Y').set X.length (k,v)=X ++ (k,v) :: Y':=by simp
 have e3:(A ++ (X ++ (k,u) :: Y') :: C).set A.length (X ++ (k,v) :: Y')=A ++ (X ++ (k,v) :: Y') :: C:=by simp
 have f:∀v,(A ++ (X ++ (k,v) :: Y') :: C).flatten=(A.flatten ++ X) ++ (k,v) :: (Y' ++ C.flatten):=fun v=>by simp
 have a4:put (A ++ (X ++ (k,u) :: Y') :: C).flatten k v=(A.flatten ++ X) ++ (k,v) :: (Y' ++ C.flatten):=by rw[f];exact put_old a3 a2
 have hs:Sorted ((A.flatten ++ X) ++ (k,v) :: (Y' ++ C.flatten)):=by
  have h2:=hg.2;rw[f]at h2;exact sorted_ins (sorted_rem h2) a3 a2
 rw[e2,e3,a4];refine⟨f v,⟨fun l hl=>?_,by rw[f];exact hs⟩,by simp⟩;rcases List.mem_append.1 hl with hl|hl
 · exact hg.1 l (List.mem_append_left _ hl)
 · rcases List.mem_cons.1 hl with rfl|hl
   · simp
   · exact hg.1 l (List.mem_append_right _ (List.mem_cons_of_mem _ hl))
theorem set_new {ps:List (List Ent)} {k v:Bs} {p i:Nat} (hg:Pages ps) (h:Found ps k p i false):
 ∃(hp:p<ps.length),i<=ps[p].length/\(ps.set p (ps[p].take i ++ [(k,v)] ++ ps[p].drop i)).flatten=put ps.flatten k v/\Pages (ps.set p (ps[p].take i ++ [(k,v)] ++ ps[p].drop i))/\(put ps.flatten k v).length=ps.flatten.length+1:=by
 obtain⟨A,X,Y,C,rfl,rfl,rfl,a1,hh⟩:=h;simp only[Bool.false_eq_true,if_false]at hh;refine⟨by simp,by simp,?_⟩;have e1:(A ++ (X ++ Y) :: C)[A.length]=X ++ Y:=by simp
 simp only[e1,List.take_left,List.drop_left];have e3:(A ++ (X ++ Y) :: C).set A.length (X ++ [(k,v)] ++ Y)=A ++ (X ++ (k,v) :: Y) :: C:=by simp
 have f:(A ++ (X ++ (k,v) :: Y) :: C).flatten=(A.flatten ++ X) ++ (k,v) :: (Y ++ C.flatten):=by simp
 have f0:(A ++ (X ++ Y) :: C).flatten=(A.flatten ++ X) ++ (Y ++ C.flatten):=by simp
 have a2:put (A ++ (X ++ Y) :: C).flatten k v=(A.flatten ++ X) ++ (k,v) :: (Y ++ C.flatten):=by rw[f0];exact put_new a1 hh
 have hs:Sorted ((A.flatten ++ X) ++ (k,v) :: (Y ++ C.flatten)):=by
  have h2:=hg.2;rw[f0]at h2;exact sorted_ins h2 a1 hh
 rw[e3,a2];refine⟨f,⟨fun l hl=>?_,by rw[f];exact hs⟩,by rw[f0];simp;omega⟩;rcases List.mem_append.1 hl with hl|hl
 · exact hg.1 l (List.mem_append_left _ hl)
 · rcases List.mem_cons.1 hl with rfl|hl
   · simp
   · exact hg.1 l (List.mem_append_right _ (List.mem_cons_of_mem _ hl))
theorem split_page {ps:List (List Ent)} {p h:Nat} (hp:p<ps.length) (hg:Pages ps) (h0:0<h) (h1:h<ps[p].length):
 Pages (ps.take p ++ [ps[p].take h,ps[p].drop h] ++ ps.drop (p+1))/\(ps.take p ++ [ps[p].take h,ps[p].drop h] ++ ps.drop (p+1)).flatten=ps.flatten:=by
 have e:(ps.take p ++ [ps[p].take h,ps[p].drop h] ++ ps.drop (p+1)).flatten=ps.flatten:=by
  rw[flatten_self hp];simp only[List.flatten_append,List.flatten_cons,List.flatten_nil,List.append_nil,List.append_assoc];rw[<-List.append_assoc (List.take h _),List.take_append_drop]
 refine⟨⟨fun l hl=>?_,by rw[e];exact hg.2⟩,e⟩;rcases List.mem_append.1 hl with hl|hl
 · rcases List.mem_append.1 hl with hl|hl
   · exact hg.1 l (List.mem_of_mem_take hl)
   · simp only[List.mem_cons,List.not_mem_nil,or_false]at hl;rcases hl with rfl|rfl
     · intro e;have:=congrArg List.length e;rw[List.length_take,List.length_nil]at this;omega
     · intro e;have:=congrArg List.length e;rw[List.length_drop,List.length_nil]at this;omega
 · exact hg.1 l (List.mem_of_mem_drop hl)
theorem len_set {ps:List (List Ent)} {p:Nat} (hp:p<ps.length) (l:List Ent):(ps.set p l).flatten.length+ps[p].length=ps.flatten.length+l.length:=by
 rw[flatten_at hp,flatten_self hp];simp only[List.length_append];omega
theorem pages_le {ps:List (List Ent)} (h:∀l ∈ ps,l≠[]):ps.length<=ps.flatten.length:=by
 induction ps with
 | nil=>simp
 | cons l ps ih=>
   have:=ih (fun x hx=>h x (List.mem_cons_of_mem _ hx));have h1:0<l.length:=List.length_pos_iff.2 (h l List.mem_cons_self);simp only[List.flatten_cons,List.length_append,List.length_cons];omega
theorem split_shape (ps:List (List Ent)) {p:Nat} (hp:p<ps.length) (a b:List Ent):((ps.set p a).take (p+1)) ++ [b] ++ ((ps.set p a).drop (p+1))=ps.take p ++ [a,b] ++ ps.drop (p+1):=by
 have e:(ps.set p a).take (p+1)=ps.take p ++ [a]:=by
  rw[List.take_add_one,List.take_set_of_le (zR _)];simp[hp]
 rw[e,List.drop_set_of_lt (by omega)];simp
theorem sorted_del {L:List Ent} {k:Bs} (h:Sorted L):Sorted (del L k):=List.Pairwise.sublist List.filter_sublist h
def cut1 (l:List Ent) (i:Nat):List Ent:=l.take i ++ l.drop (i+1)
theorem cut1_len {l:List Ent} {i:Nat} (h:i<l.length):(cut1 l i).length=l.length-1:=by
 unfold cut1;rw[List.length_append,List.length_take,List.length_drop];omega
theorem found_del {ps:List (List Ent)} {k:Bs} {p i:Nat} (hg:Pages ps) (h:Found ps k p i true):
 ∃(hp:p<ps.length),i<ps[p].length/\(ps.set p (cut1 ps[p] i)).flatten=del ps.flatten k/\has ps.flatten k=true:=by
 obtain⟨A,X,Y,C,rfl,rfl,rfl,a1,a2⟩:=h;rw[if_pos rfl]at a2;obtain⟨u,Y',rfl,hh⟩:=a2;have e:(A ++ (X ++ (k,u) :: Y') :: C).flatten=(A.flatten ++ X) ++ (k,u) :: (Y' ++ C.flatten):=by simp
 refine⟨by simp,by simp,?_,?_⟩
 · rw[e,del_old a1 hh];simp[cut1]
 · rw[e];simp[has]
theorem found_del_none {ps:List (List Ent)} {k:Bs} {p i:Nat} (h:Found ps k p i false):del ps.flatten k=ps.flatten/\has ps.flatten k=false:=by
 obtain⟨A,X,Y,C,rfl,rfl,rfl,a1,a2⟩:=h;simp only[Bool.false_eq_true,ite_false]at a2;have e:(A ++ (X ++ Y) :: C).flatten=(A.flatten ++ X) ++ (Y ++ C.flatten):=by simp
 rw[e];refine⟨del_none a1 a2,?_⟩;unfold has;rw[List.any_eq_false];intro x hx;rcases List.mem_append.1 hx with hx|hx
 · simpa using blt_ne (a1 x hx)
 · simpa using(blt_ne (a2 x hx)).symm
def joined (ps:List (List Ent)) (p:Nat):List (List Ent):=(ps.set p ((ps[p]?.getD []) ++ (ps[p+1]?.getD []))).take (p+1) ++ (ps.set p ((ps[p]?.getD []) ++ (ps[p+1]?.getD []))).drop (p+2)
theorem split2 {ps:List (List Ent)} {p:Nat} (hp:p+1<ps.length):ps=ps.take p ++ ps[p] :: ps[p+1] :: ps.drop (p+2):=by
 rw[<-List.drop_eq_getElem_cons,<-List.drop_eq_getElem_cons,List.take_append_drop]
theorem joined_eq {ps:List (List Ent)} {p:Nat} (hp:p+1<ps.length):joined ps p=ps.take p ++ (ps[p] ++ ps[p+1]) :: ps.drop (p+2):=by
 have h1:ps[p]?=some ps[p]:=zG (by omega);have h2:ps[p+1]?=some ps[p+1]:=zG hp;unfold joined;rw[h1,h2,Option.getD_some,Option.getD_some,List.drop_set_of_lt (by omega),List.set_eq_take_append_cons_drop,if_pos (by omega),List.take_append,List.take_take];simp[List.length_take,Nat.min_eq_left (show p<=ps.length by omega)]
theorem joined_flat {ps:List (List Ent)} {p:Nat} (hp:p+1<ps.length):(joined ps p).flatten=ps.flatten:=by
 have h:=congrArg List.flatten (split2 hp);rw[joined_eq hp];refine Eq.trans ?_ h.symm;simp only[List.flatten_append,List.flatten_cons,List.append_assoc]
theorem joined_pages {ps:List (List Ent)} {p:Nat} (hp:p+1<ps.length) (h:Pages ps):Pages (joined ps p):=by
 refine⟨?_,by rw[joined_flat hp];exact h.2⟩;rw[joined_eq hp];intro l hl;rcases List.mem_append.1 hl with hl|hl
 · exact h.1 l (List.mem_of_mem_take hl)
 · rcases List.mem_cons.1 hl with rfl|hl
   · have:=h.1 _ (List.getElem_mem (show p<ps.length by omega));simp[this]
   · exact h.1 l (List.mem_of_mem_drop hl)
theorem joined_few {ps:List (List Ent)} {p:Nat} (hp:p+1<ps.length) (h:∀l ∈ ps,l.length<=32) (hs:ps[p].length+ps[p+1].length<=16):∀l ∈ joined ps p,l.length<=32:=by
 rw[joined_eq hp];intro l hl;rcases List.mem_append.1 hl with hl|hl
 · exact h l (List.mem_of_mem_take hl)
 · rcases List.mem_cons.1 hl with rfl|hl
   · rw[List.length_append];omega
   · exact h l (List.mem_of_mem_drop hl)
theorem gone_flat {ps:List (List Ent)} {p:Nat} (hp:p<ps.length):((ps.set p []).take p ++ (ps.set p []).drop (p+1)).flatten=(ps.set p []).flatten:=by
 rw[List.set_eq_take_append_cons_drop,if_pos hp];have e:(ps.take p).length=p:=by rw[List.length_take];omega
 rw[List.take_append_of_le_length (by omega),List.take_of_length_le (by omega),List.drop_append,List.drop_eq_nil_of_le (by omega),e,show p+1-p=1 by omega];simp
end Gl

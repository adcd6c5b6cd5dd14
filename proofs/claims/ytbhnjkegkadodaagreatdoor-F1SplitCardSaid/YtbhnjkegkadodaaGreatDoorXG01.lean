/- A verified executor for closed Go calls, part of it: its lemmas carry no condition. -/
import Derived.Test.YtbhnjkegkadodaaGreatDoorExA
import Derived.WalkKit
set_option linter.unusedVariables false
set_option linter.unusedSimpArgs false
set_option maxRecDepth 100000
set_option maxHeartbeats 8000000
namespace Ex
open Go
namespace Tr
variable {α:Type}
theorem get_succ (d v:α) (l r:Tr α) (m:Nat):get d (.node v l r) (m+1)=match Nat.beq (m % 2) 0 with|true=>get d l (m / 2)|false=>get d r (m / 2):=by
 show @Bool.rec (fun _=>α) (get d r (Nat.div m 2)) (get d l (Nat.div m 2)) (Nat.beq (Nat.mod m 2) 0)=_
 show _=(match Nat.beq (Nat.mod m 2) 0 with|true=>get d l (Nat.div m 2)|false=>get d r (Nat.div m 2))
 cases Nat.beq (Nat.mod m 2) 0<;>rfl
theorem set_zero (v x:α) (l r:Tr α):set (.node v l r) 0 x=.node x l r:=rfl
theorem set_succ (v x:α) (l r:Tr α) (m:Nat):set (.node v l r) (m+1) x=match Nat.beq (m % 2) 0 with|true=>Tr.node v (set l (m / 2) x) r|false=>Tr.node v l (set r (m / 2) x):=by
 show @Bool.rec (fun _=>Tr α) (.node v l (set r (Nat.div m 2) x)) (.node v (set l (Nat.div m 2) x) r) (Nat.beq (Nat.mod m 2) 0)=_
 show _=(match Nat.beq (Nat.mod m 2) 0 with|true=>Tr.node v (set l (Nat.div m 2) x) r|false=>Tr.node v l (set r (Nat.div m 2) x))
 cases Nat.beq (Nat.mod m 2) 0<;>rfl
theorem full_succ (d:α) (n:Nat):full d (n+1)=.node d (full d n) (full d n):=rfl
def has:Tr α->Nat->Bool
 | .nil,_=>false
 | .node _ l r,n=>match n with
   | 0=>true
   | m+1=>match Nat.beq (m % 2) 0 with
     | true=>l.has (m / 2)
     | false=>r.has (m / 2)
theorem half_ne {m n:Nat} (h:m≠n) (hp:Nat.beq (m % 2) 0=Nat.beq (n % 2) 0):m / 2≠n / 2:=by
 intro e
 apply h
 have h1:m % 2=n % 2:=by
  rcases Nat.mod_two_eq_zero_or_one m with a|a<;>rcases Nat.mod_two_eq_zero_or_one n with b|b<;>simp[a,b]at hp ⊢
 omega
theorem get_set_other (d:α):∀(t:Tr α) (n m:Nat) (x:α),m≠n->get d (set t n x) m=get d t m
 | .nil,_,_,_,_=>rfl
 | .node v l r,0,0,x,h=>absurd rfl h
 | .node v l r,0,m+1,x,h=>by rw[set_zero,get_succ,get_succ]
 | .node v l r,n+1,0,x,h=>by
   rw[set_succ]
   cases Nat.beq (n % 2) 0<;>rfl
 | .node v l r,n+1,m+1,x,h=>by
   rw[set_succ]
   cases hn:Nat.beq (n % 2) 0<;>cases hm:Nat.beq (m % 2) 0<;>simp only[get_succ,hm]
   · exact get_set_other d r _ _ x (half_ne (by omega) (by rw[hm,hn]))
   · exact get_set_other d l _ _ x (half_ne (by omega) (by rw[hm,hn]))
theorem get_set_same (d:α):∀(t:Tr α) (n:Nat) (x:α),has t n=true->get d (set t n x) n=x
 | .nil,_,_,h=>by simp[has]at h
 | .node v l r,0,x,_=>rfl
 | .node v l r,n+1,x,h=>by
   simp only[has]at h
   rw[set_succ]
   cases hn:Nat.beq (n % 2) 0<;>simp only[hn]at h<;>simp only[get_succ,hn]
   · exact get_set_same d r _ x h
   · exact get_set_same d l _ x h
theorem has_set:∀(t:Tr α) (n m:Nat) (x:α),has (set t n x) m=has t m
 | .nil,_,_,_=>rfl
 | .node v l r,0,0,x=>rfl
 | .node v l r,0,m+1,x=>rfl
 | .node v l r,n+1,0,x=>by
   rw[set_succ]
   cases Nat.beq (n % 2) 0<;>rfl
 | .node v l r,n+1,m+1,x=>by
   rw[set_succ]
   cases hn:Nat.beq (n % 2) 0<;>cases hm:Nat.beq (m % 2) 0<;>simp only[has,hm]
   · exact has_set r _ _ x
   · exact has_set l _ _ x
theorem has_full (v:α):∀(d n:Nat),n+1<2 ^ d->has (full v d) n=true
 | 0,n,h=>by simp at h
 | d+1,0,_=>rfl
 | d+1,n+1,h=>by
   rw[Nat.pow_succ]at h
   have hx:n / 2+1<2 ^ d:=by omega
   simp only[full_succ,has]
   cases Nat.beq (n % 2) 0<;>simp only[has_full v d _ hx]
theorem get_full (v:α):∀(d n:Nat),get v (full v d) n=v
 | 0,_=>rfl
 | d+1,0=>rfl
 | d+1,n+1=>by
   rw[full_succ,get_succ]
   cases Nat.beq (n % 2) 0<;>simp only[get_full v d _]
theorem evens_odds:∀(l:List α) (i:Nat),(evens l)[i]?=l[2*i]?/\(odds l)[i]?=l[2*i+1]?
 | [],i=>by simp[evens,odds]
 | [x],i=>by
   cases i with
   | zero=>simp[evens,odds]
   | succ i=>simp[evens,odds,show 2*(i+1)=2*i+1+1 by omega]
 | x :: y :: l,i=>by
   cases i with
   | zero=>simp[evens,odds]
   | succ i=>
     have:=evens_odds l i
     simp only[evens,odds,List.getElem?_cons_succ,show 2*(i+1)=2*i+1+1 by omega]
     exact this
theorem get_ofList:∀(n:Nat) (l:List α) (i:Nat) (x:α),get none (ofList n l) i=some x->l[i]?=some x
 | 0,l,i,x,h=>by cases h
 | n+1,[],i,x,h=>by cases h
 | n+1,y :: l,0,x,h=>h
 | n+1,y :: l,i+1,x,h=>by
   have h:get none (.node (some y) (ofList n (evens l)) (ofList n (odds l))) (i+1)=some x:=h
   rw[get_succ]at h
   rw[List.getElem?_cons_succ]
   cases hb:Nat.beq (i % 2) 0<;>rw[hb]at h
   · have:=get_ofList n _ _ _ h
     rw[(evens_odds l _).2]at this
     have hi:i % 2≠0:=fun e=>by rw[e]at hb;cases hb
     rwa [show 2*(i / 2)+1=i by omega]at this
   · have:=get_ofList n _ _ _ h
     rw[(evens_odds l _).1]at this
     have hi:i % 2=0:=Nat.eq_of_beq_eq_true hb
     rwa [show 2*(i / 2)=i by omega]at this
theorem get_set_or (d:α) (t:Tr α) (n m:Nat) (x:α):get d (set t n x) m=get d t m\/(m=n/\get d (set t n x) m=x):=by
 by_cases h:m=n
 · subst h
   cases hh:has t m with
   | true=>exact .inr ⟨rfl,get_set_same d t m x hh⟩
   | false=>
     refine .inl ?_
     induction t generalizing m with
     | nil=>rfl
     | node v l r ihl ihr=>
       cases m with
       | zero=>simp[has]at hh
       | succ m=>
         simp only[has]at hh
         rw[set_succ]
         cases hm:Nat.beq (m % 2) 0<;>simp only[hm]at hh<;>simp only[get_succ,hm]
         · exact ihr _ hh
         · exact ihl _ hh
 · exact .inl (get_set_other d t n m x h)
end Tr
end Ex
namespace Ex
open Go
theorem Heap.get_set_ne (H:Heap) {b m:Nat} (o:AObj) (h:m≠b):(H.set b o).get m=H.get m:=by
 cases H;exact Tr.get_set_other _ _ _ _ _ h
theorem Heap.get_add (H:Heap) (m:Nat) (o:AObj):(H.add o).get m=H.get m\/(m=H.next/\(H.add o).get m=o):=by
 cases H;exact Tr.get_set_or _ _ _ _ _
theorem Heap.next_set (H:Heap) (b:Nat) (o:AObj):(H.set b o).next=H.next:=by cases H;rfl
theorem Heap.next_add (H:Heap) (o:AObj):(H.add o).next=H.next+1:=by cases H;rfl
structure Pl where
 c:Nat
 s:Nat
 z:Nat
 k:Nat
abbrev Rho:=Nat->Option Pl
def Rho.le (ρ ρ':Rho):Prop:=∀b x,ρ b=some x->ρ' b=some x
theorem Rho.le_refl (ρ:Rho):ρ.le ρ:=fun _ _ h=>h
theorem Rho.le_trans {a b c:Rho} (h:a.le b) (h':b.le c):a.le c:=fun _ _ e=>h' _ _ (h _ _ e)
inductive FnR (ρ:Rho):Fn->Fn->Prop
 | func (f:FuncId):FnR ρ (.func f) (.func f)
 | yield {b l:Nat} (h:ρ b=some ⟨l,0,0,0⟩):FnR ρ (.yield l) (.yield b)
inductive VR (ρ:Rho):Value->Value->Prop
 | bool (b):VR ρ (.bool b) (.bool b)
 | int (k n):VR ρ (.int k n) (.int k n)
 | float (k n):VR ρ (.float k n) (.float k n)
 | complex (k m n):VR ρ (.complex k m n) (.complex k m n)
 | string (s):VR ρ (.string s) (.string s)
 | pnil:VR ρ (.pointer none) (.pointer none)
 | mnil:VR ρ (.map none) (.map none)
 | cnil:VR ρ (.chan none) (.chan none)
 | mp {b l:Nat} (h:ρ b=some ⟨l,0,0,0⟩):VR ρ (.map (some l)) (.map (some b))
 | snil:VR ρ (.slice none 0 0) (.slice none 0 0)
 | nilFunc:VR ρ .nilFunc .nilFunc
 | nilIface:VR ρ .nilIface .nilIface
 | ptr {b o:Nat} {p:Pl} (h:ρ b=some p):VR ρ (.pointer (some ⟨p.c,p.s+o,none⟩)) (.pointer (some ⟨b,o,none⟩))
 | slice {b o len cap cap':Nat} {p:Pl} (h:ρ b=some p) (hc:cap'<=cap) (h0:p.k=0->cap=cap') (hk:p.k≠0->o+p.k*cap<=p.z):
    VR ρ (.slice (some ⟨p.c,p.s+o,none⟩) len cap) (.slice (some ⟨b,o,none⟩) len cap')
 | sempty {b o cap:Nat} {p:Pl} (a:Addr) (h:ρ b=some p) (hk:p.k≠0):VR ρ (.slice (some a) 0 cap) (.slice (some ⟨b,o,none⟩) 0 0)
 | func {f f':Fn} (x x' y y':List Value) (hf:FnR ρ f f') (hx:x.length=x'.length) (h:∀(i:Nat) u v,x[i]?=some u->x'[i]?=some v->VR ρ u v)
    (hy:y.length=y'.length) (h':∀(i:Nat) u v,y[i]?=some u->y'[i]?=some v->VR ρ u v):VR ρ (.func f ⟨x⟩ ⟨y⟩) (.func f' ⟨x'⟩ ⟨y'⟩)
 | iface (t) {v v':Value} (h:VR ρ v v'):VR ρ (.iface t v) (.iface t v')
 | agg (x x':List Value) (hx:x.length=x'.length) (h:∀(i:Nat) u v,x[i]?=some u->x'[i]?=some v->VR ρ u v):VR ρ (.agg ⟨x⟩) (.agg ⟨x'⟩)
 | tuple (x x':List Value) (hx:x.length=x'.length) (h:∀(i:Nat) u v,x[i]?=some u->x'[i]?=some v->VR ρ u v):VR ρ (.tuple ⟨x⟩) (.tuple ⟨x'⟩)
def LR (ρ:Rho) (x x':List Value):Prop:=x.length=x'.length/\∀(i:Nat) u v,x[i]?=some u->x'[i]?=some v->VR ρ u v
theorem FnR.mono {ρ ρ':Rho} (hle:ρ.le ρ') {f f':Fn} (h:FnR ρ f f'):FnR ρ' f f':=by
 cases h with
 | func f=>exact .func f
 | yield h=>exact .yield (hle _ _ h)
theorem VR.mono {ρ ρ':Rho} (hle:ρ.le ρ') {v v':Value} (h:VR ρ v v'):VR ρ' v v':=by
 induction h with
 | ptr h=>exact .ptr (hle _ _ h)
 | mp h=>exact .mp (hle _ _ h)
 | slice h hc h0 hk=>exact .slice (hle _ _ h) hc h0 hk
 | sempty a h hk=>exact .sempty a (hle _ _ h) hk
 | func x x' y y' hf hx _ hy _ ih ih'=>exact .func x x' y y' (hf.mono hle) hx ih hy ih'
 | iface t _ ih=>exact .iface t ih
 | agg x x' hx _ ih=>exact .agg x x' hx ih
 | tuple x x' hx _ ih=>exact .tuple x x' hx ih
 | _=>constructor
theorem LR.mono {ρ ρ':Rho} (hle:ρ.le ρ') {x x':List Value} (h:LR ρ x x'):LR ρ' x x':=⟨h.1,fun i u v a b=>(h.2 i u v a b).mono hle⟩
theorem LR.nil (ρ:Rho):LR ρ [] []:=⟨rfl,fun i u v h=>by simp at h⟩
theorem LR.cons {ρ:Rho} {v v':Value} {x x':List Value} (h:VR ρ v v') (t:LR ρ x x'):LR ρ (v :: x) (v' :: x'):=
 ⟨by simp[t.1],fun i u w a b=>by
   cases i with
   | zero=>simp at a b;subst a;subst b;exact h
   | succ i=>simp at a b;exact t.2 i u w a b⟩
theorem LR.cons_inv {ρ:Rho} {x:List Value} {v':Value} {x':List Value} (h:LR ρ x (v' :: x')):∃v t,x=v :: t/\VR ρ v v'/\LR ρ t x':=by
 cases x with
 | nil=>have:=h.1;simp at this
 | cons v t=>exact⟨v,t,rfl,h.2 0 v v' rfl rfl,by have:=h.1;simpa using this,fun i u w a b=>h.2 (i+1) u w (by simpa using a) (by simpa using b)⟩
theorem LR.nil_inv {ρ:Rho} {x:List Value} (h:LR ρ x []):x=[]:=by have:=h.1;simpa using this
theorem LR.get {ρ:Rho} {x x':List Value} (h:LR ρ x x') {i:Nat} {v':Value} (hi:x'[i]?=some v'):∃v,x[i]?=some v/\VR ρ v v':=by
 have hl:i<x.length:=by rw[h.1];exact(List.getElem?_eq_some_iff.1 hi).1
 exact⟨x[i],List.getElem?_eq_getElem hl,h.2 i _ _ (List.getElem?_eq_getElem hl) hi⟩
theorem LR.append {ρ:Rho} {x x' y y':List Value} (h:LR ρ x x') (h':LR ρ y y'):LR ρ (x ++ y) (x' ++ y'):=by
 induction x generalizing x' with
 | nil=>have:x'=[]:=by have:=h.1;simpa using this.symm
        subst this;simpa using h'
 | cons a t ih=>
   cases x' with
   | nil=>have:=h.1;simp at this
   | cons a' t'=>
     obtain⟨v,t2,e,hv,ht⟩:=LR.cons_inv h
     cases e
     exact LR.cons hv (ih ht)
theorem LR.drop {ρ:Rho} {x x':List Value} (h:LR ρ x x') (n:Nat):LR ρ (x.drop n) (x'.drop n):=
 ⟨by simp[h.1],fun i u v a b=>h.2 (n+i) u v (by simpa using a) (by simpa using b)⟩
theorem LR.take {ρ:Rho} {x x':List Value} (h:LR ρ x x') (n:Nat):LR ρ (x.take n) (x'.take n):=
 ⟨by simp[h.1],fun i u v a b=>by
   rw[List.getElem?_take]at a b
   split at a<;>simp_all
   exact h.2 i u v a b⟩
mutual
theorem free_eq {ρ:Rho}:∀ {v v':Value},VR ρ v v'->free v'=true->v=v'
 | _,_,.bool _,_|_,_,.int ..,_|_,_,.float ..,_|_,_,.complex ..,_|_,_,.string _,_|_,_,.pnil,_|_,_,.mnil,_|_,_,.cnil,_|_,_,.snil,_
 | _,_,.nilFunc,_|_,_,.nilIface,_=>rfl
 | _,_,.ptr _,h=>by simp[free]at h
 | _,_,.mp _,h=>by simp[free]at h
 | _,_,.slice ..,h=>by simp[free]at h
 | _,_,.sempty ..,h=>by simp[free]at h
 | _,_,.func ..,h=>by simp[free]at h
 | _,_,.iface t hv,h=>congrArg (Value.iface t) (free_eq hv (by simpa[free] using h))
 | _,_,.agg x x' hx hh,h=>congrArg (fun l=>Value.agg ⟨l⟩) (freeL_eq hh hx (by simpa[free,freeA] using h))
 | _,_,.tuple x x' hx hh,h=>congrArg (fun l=>Value.tuple ⟨l⟩) (freeL_eq hh hx (by simpa[free,freeA] using h))
theorem freeL_eq {ρ:Rho}:∀ {x x':List Value},(∀(i:Nat) u v,x[i]?=some u->x'[i]?=some v->VR ρ u v)->x.length=x'.length->freeL x'=true->x=x'
 | [],[],_,_,_=>rfl
 | v :: x,v' :: x',h,hl,hf=>by
   simp only[freeL,Bool.and_eq_true]at hf
   rw[free_eq (h 0 v v' rfl rfl) hf.1,freeL_eq (x:=x) (x':=x') (fun i u w a b=>h (i+1) u w (by simpa using a) (by simpa using b)) (by simpa using hl) hf.2]
 | [],_ :: _,_,hl,_=>by simp at hl
 | _ :: _,[],_,hl,_=>by simp at hl
end
def withObj (w:World) (c:Nat) (o:Obj):World:={ w with heap:=w.heap.setIfInBounds c o }
theorem withObj_heap (w:World) (c:Nat) (o:Obj) (j:Nat) (hc:c<w.heap.size):(withObj w c o).heap[j]?=if j=c then some o else w.heap[j]?:=by
 simp only[withObj,Array.getElem?_setIfInBounds]
 by_cases h:c=j
 · subst h;simp[hc]
 · simp[h,Ne.symm h]
theorem withObj_size (w:World) (c:Nat) (o:Obj):(withObj w c o).heap.size=w.heap.size:=by simp[withObj]
theorem withObj_twice (w:World) (c:Nat) (o o':Obj):withObj (withObj w c o) c o'=withObj w c o':=by simp[withObj]
theorem withObj_self {w:World} {c:Nat} {o:Obj} (h:w.heap[c]?=some o):withObj w c o=w:=by
 have hc:=(Array.getElem?_eq_some_iff.1 h)
 obtain⟨hlt,he⟩:=hc
 cases w with
 | mk heap tape drawn os output=>
   simp only[withObj]
   congr 1
   apply Array.ext'
   apply List.ext_getElem?
   intro j
   simp only[Array.getElem?_toList,Array.getElem?_setIfInBounds]
   by_cases hj:c=j
   · subst hj;simp only[hlt,ite_true,if_pos,Array.getElem?_eq_getElem hlt];exact congrArg some he.symm
   · simp[hj]
theorem setCell_withObj {w:World} {c o:Nat} {cells:Array Value} {e:TypeId} {fr:Nat × Nat} (h:w.heap[c]?=some (.cells cells e fr)) (v:Value):
 w.setCell ⟨c,o,none⟩ v=withObj w c (.cells (cells.setIfInBounds o v) e fr):=by
 obtain⟨hlt,he⟩:=Array.getElem?_eq_some_iff.1 h
 simp only[World.setCell,withObj]
 congr 1
 apply Array.ext'
 apply List.ext_getElem?
 intro j
 simp only[Array.getElem?_toList,Array.getElem?_setIfInBounds,Array.getElem?_modify]
 by_cases hj:c=j
 · subst hj;simp[hlt,he]
 · simp[hj]
def splice (cells:Array Value) (o:Nat):List Value->Array Value
 | []=>cells
 | v :: l=>splice (cells.setIfInBounds o v) (o+1) l
theorem splice_size:∀(l:List Value) (cells:Array Value) (o:Nat),(splice cells o l).size=cells.size
 | [],_,_=>rfl
 | v :: l,cells,o=>by simp[splice,splice_size l]
theorem splice_get:∀(l:List Value) (cells:Array Value) (o j:Nat),o+l.length<=cells.size ->
 (splice cells o l)[j]?=if o<=j/\j<o+l.length then l[j-o]? else cells[j]?
 | [],cells,o,j,_=>by
   simp only[splice,List.length_nil]
   rw[if_neg (by omega)]
 | v :: l,cells,o,j,h=>by
   simp only[List.length_cons]at h
   simp only[splice]
   rw[splice_get l _ _ _ (by simp;omega)]
   simp only[List.length_cons]
   by_cases h1:o+1<=j/\j<o+1+l.length
   · rw[if_pos h1,if_pos (by omega)]
     have:j-o=(j-(o+1))+1:=by omega
     rw[this,List.getElem?_cons_succ]
   · rw[if_neg h1]
     by_cases h2:j=o
     · subst h2
       rw[if_pos (by omega)]
       have:j<cells.size:=by omega
       simp[this]
     · rw[if_neg (by omega),Array.getElem?_setIfInBounds_ne (Ne.symm h2)]
theorem oneCell_spec {v:Value} (h:oneCell v=true):v.oneCell'=true:=by cases v<;>simp_all [oneCell,Value.oneCell']
theorem run_store_cells {P:Program} {c:Nat} {e:TypeId} {fr:Nat × Nat} (o:Nat):∀(vs:List Value) (i:Nat) (cells:Array Value) (w:World),w.heap[c]?=some (.cells cells e fr) ->
 o+i+vs.length<=cells.size → (∀j,j<cells.size->¬(fr.1<=j/\j<fr.2)) → (∀v ∈ vs,oneCell v=true) ->
 (storeCells ⟨c,o,none⟩ vs i).run P w=.ok () (withObj w c (.cells (splice cells (o+i) vs) e fr))
 | [],i,cells,w,hc,_,_,_=>by
   simp only[storeCells,splice,withObj_self hc];rfl
 | v :: l,i,cells,w,hc,hl,hf,h1=>by
   simp only[List.length_cons]at hl
   have hadd:(⟨c,o,none⟩:Addr).add i=⟨c,o+i,none⟩:=by unfold Addr.add;split<;>simp_all
   have hcell:w.cell? ⟨c,o+i,none⟩=some (cells[o+i]'(by omega)):=by simp[World.cell?,hc]
   have hfz:w.frozen? ⟨c,o+i,none⟩=false:=by
     simp only[World.frozen?,hc]
     have:=hf (o+i) (by omega)
     simpa using this
   have hst:(store ((⟨c,o,none⟩:Addr).add i) v).run P w=.ok () (withObj w c (.cells (cells.setIfInBounds (o+i) v) e fr)):=by
     rw[hadd,run_store P w _ v _ (oneCell_spec (h1 v (by simp)))]
     simp[hcell,hfz,setCell_withObj hc]
   have hlt:=(Array.getElem?_eq_some_iff.1 hc).1
   have ih:=run_store_cells (P:=P) (c:=c) (e:=e) (fr:=fr) o l (i+1) (cells.setIfInBounds (o+i) v) (withObj w c (.cells (cells.setIfInBounds (o+i) v) e fr))
     (by rw[withObj_heap _ _ _ _ hlt,if_pos rfl]) (by simp;omega) (by simpa using hf) (fun x hx=>h1 x (by simp[hx]))
   simp only[storeCells,Sem.run_bind,hst,Result.andThen,ih,withObj_twice,splice]
   rw[show o+(i+1)=o+i+1 by omega]
def CellsAt (ρ:Rho) (w:World) (p:Pl) (cs:List Value):Prop:=
 ∃(cells:Array Value) (elem:TypeId) (fr:Nat × Nat),w.heap[p.c]?=some (.cells cells elem fr)/\cells.size=p.s+p.z/\cs.length<=p.z/\(p.k=0->cs.length=p.z) /\
  (∀o,o<cells.size\/p.k=0->¬(fr.1<=o/\o<fr.2))/\∀(i:Nat) v',cs[i]?=some v'->∃v,cells[p.s+i]?=some v/\VR ρ v v'
structure TR (ρ:Rho) (a:Array Value) (t:Tr Value) (nt:Nat):Prop where
 size:a.size=nt
 rel:∀i,VR ρ (a.getD i undef) (t.get Undef i)
 has:∀i,i<nt->t.has i=true
inductive MR (ρ:Rho):List MapEntry->Nat->List (Value × Value)->Prop
 | nil (i:Nat):MR ρ [] i []
 | cons {e:MapEntry} {k v:Value} {es:List MapEntry} {l:List (Value × Value)} {i:Nat} (hk:VR ρ e.key k) (hv:VR ρ e.val v) (hb:e.born=i) (t:MR ρ es (i+1) l):MR ρ (e :: es) i ((k,v) :: l)
theorem MR.mono {ρ ρ':Rho} (hle:ρ.le ρ') {es:List MapEntry} {i:Nat} {l:List (Value × Value)} (h:MR ρ es i l):MR ρ' es i l:=by
 induction h with
 | nil i=>exact .nil i
 | cons hk hv hb _ ih=>exact .cons (hk.mono hle) (hv.mono hle) hb ih
def ObjAt (ρ:Rho) (w:World) (b:Nat):AObj->Prop
 | .none=>True
 | .cells cs k=>∃p,ρ b=some p/\p.k=k/\CellsAt ρ w p cs
 | .loop st pe fn tmps nt ps as bd df=>∃l a dl,ρ b=some ⟨l,0,0,0⟩/\ρ df=some ⟨dl,0,0,0⟩/\TR ρ a tmps nt /\
    w.heap[l]?=some (.loop { state:=st,pending:=pe,fn,tmps:=a,params:=ps,assign:=as,body:=bd,defers:=dl })
 | .deferred o=>∃d,ρ b=some ⟨d,0,0,0⟩/\w.heap[d]?=some (.deferred (if o then some [] else none))
 | .map es=>∃l mes,ρ b=some ⟨l,0,0,0⟩/\w.heap[l]?=some (.map mes es.length)/\MR ρ mes.toList 0 es
 | .iter m since seen last=>∃l m',ρ b=some ⟨l,0,0,0⟩/\w.heap[l]?=some (.mapIter m' since seen.toArray last)/\(m=none->m'=none)/\∀mb,m=some mb->∃c,m'=some c/\ρ mb=some ⟨c,0,0,0⟩
structure HR (ng:Nat) (ρ:Rho) (H:Heap) (w:World):Prop where
 obj:∀b,ObjAt ρ w b (H.get b)
 inj:∀b b' p p',H.get b≠.none->H.get b'≠.none->ρ b=some p->ρ b'=some p'->p.c=p'.c->b=b'
 fresh:∀b,H.next<=b->ρ b=none
 glob:∀g,g<ng->∃z,ρ g=some ⟨g,0,z,0⟩
def Held (ρ:Rho) (H:Heap) (c:Nat):Prop:=∃b p,H.get b≠.none/\ρ b=some p/\p.c=c
def Shape (w w':World):Prop:=∀(c:Nat) (x:Array Value) (t:TypeId) (fr:Nat × Nat),w.heap[c]?=some (.cells x t fr)->∃y,w'.heap[c]?=some (.cells y t fr)
theorem Shape.refl (w:World):Shape w w:=fun _ x _ _ h=>⟨x,h⟩
theorem Shape.trans {w w' w'':World} (h:Shape w w') (h':Shape w' w''):Shape w w'':=fun c x t fr e=>let ⟨y,hy⟩:=h c x t fr e;h' c y t fr hy
theorem Shape.of_heap {w w':World} (h:w'.heap=w.heap):Shape w w':=fun c x t fr e=>⟨x,by rw[h];exact e⟩
theorem Shape.of_grow {w w':World} (h:∀c,c<w.heap.size->w'.heap[c]?=w.heap[c]?):Shape w w':=fun c x t fr e=>⟨x,(h c (Array.getElem?_eq_some_iff.1 e).1).trans e⟩
theorem Shape.of_other {w w':World} {b:Nat} (h:∀c,c≠b->w'.heap[c]?=w.heap[c]?) (hb:∀(x:Array Value) (t:TypeId) (fr:Nat × Nat),w.heap[b]?=some (.cells x t fr)->∃y,w'.heap[b]?=some (.cells y t fr)):Shape w w':=fun c x t fr e=>by
 by_cases hc:c=b
 · subst hc;exact hb x t fr e
 · exact⟨x,(h c hc).trans e⟩
theorem Shape.of_cells {w w':World} {b:Nat} {x y:Array Value} {t:TypeId} {fr:Nat × Nat} (h:∀c,c≠b->w'.heap[c]?=w.heap[c]?) (hb:w.heap[b]?=some (.cells x t fr)) (hb':w'.heap[b]?=some (.cells y t fr)):Shape w w':=
 Shape.of_other h fun x' t' fr' e=>by rw[hb]at e;cases e;exact⟨y,hb'⟩
structure Ext (ρ:Rho) (H:Heap) (w:World) (ρ':Rho) (H':Heap) (w':World):Prop where
 le:ρ.le ρ'
 size:w.heap.size<=w'.heap.size
 keep:∀c,c<w.heap.size->¬Held ρ H c->w'.heap[c]?=w.heap[c]?
 range:∀c,Held ρ' H' c->w.heap.size<=c\/Held ρ H c
 dom:∀b p,ρ' b=some p->ρ b=some p\/H.next<=b
 next:H.next<=H'.next
 tape:w'.tape=w.tape
 os:w'.os=w.os
 output:w'.output=w.output
 same:Shape w w'
theorem Ext.refl (ρ:Rho) (H:Heap) (w:World):Ext ρ H w ρ H w:=
 ⟨ρ.le_refl,Nat.le_refl _,fun _ _ _=>rfl,fun _ h=>.inr h,fun _ _ h=>.inl h,Nat.le_refl _,rfl,rfl,rfl,Shape.refl w⟩
theorem Ext.trans {ρ ρ' ρ'':Rho} {H H' H'':Heap} {w w' w'':World} (h:Ext ρ H w ρ' H' w') (h':Ext ρ' H' w' ρ'' H'' w''):Ext ρ H w ρ'' H'' w'' where
 le:=Rho.le_trans h.le h'.le
 size:=Nat.le_trans h.size h'.size
 keep c hc hn:=by
  rw[h'.keep c (Nat.lt_of_lt_of_le hc h.size) (fun hh=>(h.range c hh).elim (fun x=>by omega) hn)]
  exact h.keep c hc hn
 range c hc:=(h'.range c hc).elim (fun x=>.inl (Nat.le_trans h.size x)) (h.range c)
 dom b p hp:=(h'.dom b p hp).elim (h.dom b p) (fun x=>.inr (Nat.le_trans h.next x))
 next:=Nat.le_trans h.next h'.next
 tape:=h'.tape.trans h.tape
 os:=h'.os.trans h.os
 output:=h'.output.trans h.output
 same:=h.same.trans h'.same
theorem CellsAt.mono {ρ ρ':Rho} {w w':World} {p:Pl} {cs:List Value} (hle:ρ.le ρ') (hw:w'.heap[p.c]?=w.heap[p.c]?) (h:CellsAt ρ w p cs):CellsAt ρ' w' p cs:=by
 obtain⟨cells,e,fr,h1,h2,h3,h4,h5,h6⟩:=h
 exact⟨cells,e,fr,hw.trans h1,h2,h3,h4,h5,fun i v' hv=>let ⟨v,a,b⟩:=h6 i v' hv;⟨v,a,b.mono hle⟩⟩
theorem TR.mono {ρ ρ':Rho} (hle:ρ.le ρ') {a:Array Value} {t:Tr Value} {nt:Nat} (h:TR ρ a t nt):TR ρ' a t nt:=⟨h.size,fun i=>(h.rel i).mono hle,h.has⟩
theorem ObjAt.mono {ρ ρ':Rho} {w w':World} {b:Nat} {o:AObj} (hle:ρ.le ρ') (hw:∀p,ρ b=some p->w'.heap[p.c]?=w.heap[p.c]?) (h:ObjAt ρ w b o):ObjAt ρ' w' b o:=by
 cases o with
 | none=>trivial
 | cells cs k=>obtain⟨p,hp,hk,hc⟩:=h;exact⟨p,hle _ _ hp,hk,hc.mono hle (hw p hp)⟩
 | loop st pe fn tmps nt ps as bd df=>obtain⟨l,a,dl,h1,h2,h3,h4⟩:=h;exact⟨l,a,dl,hle _ _ h1,hle _ _ h2,h3.mono hle,(hw _ h1).trans h4⟩
 | deferred o=>obtain⟨d,h1,h2⟩:=h;exact⟨d,hle _ _ h1,(hw _ h1).trans h2⟩
 | map es=>obtain⟨l,mes,h1,h2,h3⟩:=h;exact⟨l,mes,hle _ _ h1,(hw _ h1).trans h2,h3.mono hle⟩
 | iter m since seen last=>
   obtain⟨l,m',h1,h2,h0,h3⟩:=h
   exact⟨l,m',hle _ _ h1,(hw _ h1).trans h2,h0,fun mb hm=>let ⟨c,a,b⟩:=h3 mb hm;⟨c,a,hle _ _ b⟩⟩
theorem ObjAt.place {ρ:Rho} {w:World} {b:Nat} {o:AObj} (h:ObjAt ρ w b o) (hn:o≠.none):∃p,ρ b=some p/\p.c<w.heap.size:=by
 cases o with
 | none=>exact absurd rfl hn
 | cells cs k=>obtain⟨q,hq,_,cells,e,fr,h1,_⟩:=h;exact⟨q,hq,(Array.getElem?_eq_some_iff.1 h1).1⟩
 | loop st pe fn tmps nt ps as bd df=>obtain⟨l,a,dl,h1,_,_,h4⟩:=h;exact⟨_,h1,(Array.getElem?_eq_some_iff.1 h4).1⟩
 | deferred o=>obtain⟨d,h1,h2⟩:=h;exact⟨_,h1,(Array.getElem?_eq_some_iff.1 h2).1⟩
 | map es=>obtain⟨l,mes,h1,h2,_⟩:=h;exact⟨_,h1,(Array.getElem?_eq_some_iff.1 h2).1⟩
 | iter m since seen last=>obtain⟨l,m',h1,h2,_⟩:=h;exact⟨_,h1,(Array.getElem?_eq_some_iff.1 h2).1⟩
theorem HR.lt {ng:Nat} {ρ:Rho} {H:Heap} {w:World} (h:HR ng ρ H w) {b:Nat} {p:Pl} (hb:H.get b≠.none) (hp:ρ b=some p):p.c<w.heap.size:=by
 obtain⟨q,hq,hlt⟩:=(h.obj b).place hb
 rw[hp]at hq;cases hq;exact hlt
end Ex
namespace Ex
open Go
variable {ng:Nat} {ρ ρ':Rho} {H:Heap} {w w':World}
theorem nth_eq {α:Type}:∀(l:List α) (n:Nat),nth l n=l[n]?
 | [],n=>by simp[nth]
 | x :: l,0=>rfl
 | x :: l,n+1=>by rw[List.getElem?_cons_succ,<-nth_eq l n];rfl
theorem dropL_eq {α:Type}:∀(n:Nat) (l:List α),dropL n l=l.drop n
 | 0,l=>rfl
 | n+1,[]=>rfl
 | n+1,x :: l=>by rw[List.drop_succ_cons,<-dropL_eq n l];rfl
theorem takeL_eq {α:Type}:∀(n:Nat) (l:List α),takeL n l=if n<=l.length then some (l.take n) else none
 | 0,l=>by show some []=_;simp
 | n+1,[]=>by simp[takeL]
 | n+1,x :: l=>by
   have:takeL (n+1) (x :: l)=(match takeL n l with|some r=>some (x :: r)|none=>none):=by
     show @Option.rec (List α) (fun _=>Option (List α)) none (fun r=>some (x :: r)) (takeL n l)=_
     cases takeL n l<;>rfl
   rw[this,takeL_eq n l]
   by_cases h:n<=l.length<;>simp[h]
theorem takeL_some {α:Type} {n:Nat} {l r:List α} (h:takeL n l=some r):n<=l.length/\r=l.take n:=by
 rw[takeL_eq]at h
 split at h<;>simp_all
theorem putL_eq:∀(vs l:List Value),putL vs l=if vs.length<=l.length then some (vs ++ l.drop vs.length) else none
 | [],l=>by simp[putL]
 | v :: vs,[]=>by simp[putL]
 | v :: vs,x :: l=>by
   have:putL (v :: vs) (x :: l)=(match putL vs l with|some r=>some (v :: r)|none=>none):=by
     show @Option.rec (List Value) (fun _=>Option (List Value)) none (fun r=>some (v :: r)) (putL vs l)=_
     cases putL vs l<;>rfl
   rw[this,putL_eq vs l]
   by_cases h:vs.length<=l.length<;>simp[h]
theorem putAt_eq:∀(n:Nat) (vs l:List Value),putAt n vs l=if n+vs.length<=l.length then some (l.take n ++ vs ++ l.drop (n+vs.length)) else none
 | 0,vs,l=>by
   show putL vs l=_
   rw[putL_eq];simp
 | n+1,vs,[]=>by simp[putAt]
 | n+1,vs,x :: l=>by
   have:putAt (n+1) vs (x :: l)=(match putAt n vs l with|some r=>some (x :: r)|none=>none):=by
     show @Option.rec (List Value) (fun _=>Option (List Value)) none (fun r=>some (x :: r)) (putAt n vs l)=_
     cases putAt n vs l<;>rfl
   rw[this,putAt_eq n vs l]
   by_cases h:n+vs.length<=l.length
   · rw[if_pos h,if_pos (by simp;omega)]
     simp[show n+1+vs.length=n+vs.length+1 by omega]
   · rw[if_neg h,if_neg (by simp;omega)]
theorem putAt_some {n:Nat} {vs l r:List Value} (h:putAt n vs l=some r):n+vs.length<=l.length/\r=l.take n ++ vs ++ l.drop (n+vs.length):=by
 rw[putAt_eq]at h
 split at h
 · exact⟨by assumption,(Option.some.inj h).symm⟩
 · cases h
theorem get_of_alive {t:Tr AObj}:∀ {b:Nat},Tr.get .none t b≠.none->t.has b=true:=by
 induction t with
 | nil=>intro b h;exact absurd rfl h
 | node v l r ihl ihr=>
   intro b h
   cases b with
   | zero=>rfl
   | succ m=>
     rw[Tr.get_succ]at h
     simp only[Tr.has]
     cases hb:Nat.beq (m % 2) 0<;>rw[hb]at h
     · exact ihr h
     · exact ihl h
theorem Heap.get_set_same (H:Heap) {b:Nat} (o:AObj) (h:H.get b≠.none):(H.set b o).get b=o:=by
 cases H;exact Tr.get_set_same _ _ _ _ (get_of_alive h)
theorem HR.world (h:HR ng ρ H w) (hw:w'.heap=w.heap):HR ng ρ H w':=
 ⟨fun b=>(h.obj b).mono ρ.le_refl (fun p _=>by rw[hw]),h.inj,h.fresh,h.glob⟩
theorem HR.setObj (h:HR ng ρ H w) {b:Nat} {p:Pl} {o:AObj} (hb:H.get b≠.none) (hp:ρ b=some p) (hw:∀c,c≠p.c->w'.heap[c]?=w.heap[c]?) (ho:ObjAt ρ w' b o):
 HR ng ρ (H.set b o) w' where
 obj b':=by
  by_cases e:b'=b
  · subst e;rw[Heap.get_set_same H o hb];exact ho
  · rw[Heap.get_set_ne H o e]
    by_cases hn:H.get b'=.none
    · rw[hn];trivial
    · exact(h.obj b').mono ρ.le_refl (fun q hq=>hw _ (fun ec=>e (h.inj b' b q p hn hb hq hp ec)))
 inj b1 b2 p1 p2 h1 h2:=by
  have alive:∀x,(H.set b o).get x≠.none->H.get x≠.none:=fun x hx=>by
   by_cases e:x=b
   · subst e;exact hb
   · rwa [Heap.get_set_ne H o e]at hx
  exact h.inj b1 b2 p1 p2 (alive _ h1) (alive _ h2)
 fresh b' hb':=h.fresh b' (by rwa [Heap.next_set]at hb')
 glob:=h.glob
theorem Held.set {b c:Nat} {o:AObj} (hb:H.get b≠.none) (h:Held ρ (H.set b o) c):Held ρ H c:=by
 obtain⟨b',p,h1,h2,h3⟩:=h
 refine⟨b',p,?_,h2,h3⟩
 by_cases e:b'=b
 · subst e;exact hb
 · rwa [Heap.get_set_ne H o e]at h1
theorem HR.kill (h:HR ng ρ H w) {b:Nat} (hb:H.get b≠.none):HR ng ρ (H.set b .none) w where
 obj b':=by
  by_cases e:b'=b
  · subst e;rw[Heap.get_set_same H _ hb];trivial
  · rw[Heap.get_set_ne H _ e];exact h.obj b'
 inj b1 b2 p1 p2 h1 h2:=by
  have alive:∀x,(H.set b .none).get x≠.none->H.get x≠.none:=fun x hx=>by
   by_cases e:x=b
   · subst e;exact hb
   · rwa [Heap.get_set_ne H _ e]at hx
  exact h.inj b1 b2 p1 p2 (alive _ h1) (alive _ h2)
 fresh b' hb':=h.fresh b' (by rwa [Heap.next_set]at hb')
 glob:=h.glob
def Rho.put (ρ:Rho) (b:Nat) (p:Pl):Rho:=fun x=>if x=b then some p else ρ x
theorem Rho.put_same (ρ:Rho) (b:Nat) (p:Pl):ρ.put b p b=some p:=by simp[Rho.put]
theorem Rho.put_ne (ρ:Rho) {b x:Nat} (p:Pl) (h:x≠b):ρ.put b p x=ρ x:=by simp[Rho.put,h]
theorem Rho.le_put {ρ:Rho} {b:Nat} {p:Pl} (h:ρ b=none):ρ.le (ρ.put b p):=fun x q hq=>by
 rw[Rho.put_ne];exact hq;intro e;subst e;rw[h]at hq;cases hq
theorem HR.addObj (h:HR ng ρ H w) {p:Pl} {o:AObj} (hfree:¬Held ρ H p.c) (hw:∀c,Held ρ H c->w'.heap[c]?=w.heap[c]?) (ho:ObjAt (ρ.put H.next p) w' H.next o):
 HR ng (ρ.put H.next p) (H.add o) w':=by
 have hle:ρ.le (ρ.put H.next p):=Rho.le_put (h.fresh _ (Nat.le_refl _))
 have hlt:∀b,b≠H.next → (ρ.put H.next p) b=ρ b:=fun b hb=>Rho.put_ne ρ p hb
 have old:∀b,b≠H.next → (H.add o).get b=H.get b:=fun b hb=>by
  rcases Heap.get_add H b o with h1|⟨h1,_⟩
  · exact h1
  · exact absurd h1 hb
 have dead:H.get H.next=.none:=by
  have hf:=h.fresh H.next (Nat.le_refl _)
  by_cases hn:H.get H.next=.none
  · exact hn
  · obtain⟨q,hq,_⟩:=(h.obj H.next).place hn
    rw[hf]at hq;cases hq
 refine⟨fun b=>?_,?_,?_,?_⟩
 · by_cases e:b=H.next
   · subst e
     rcases Heap.get_add H H.next o with h1|⟨_,h1⟩
     · rw[h1,dead];trivial
     · rw[h1];exact ho
   · rw[old b e]
     by_cases hn:H.get b=.none
     · rw[hn];trivial
     · exact(h.obj b).mono hle (fun q hq=>hw _ ⟨b,q,hn,hq,rfl⟩)
 · intro b1 b2 p1 p2 h1 h2 e1 e2 ec
   by_cases x1:b1=H.next<;>by_cases x2:b2=H.next
   · rw[x1,x2]
   · subst x1;rw[Rho.put_same]at e1;cases e1;rw[hlt _ x2]at e2;rw[old _ x2]at h2
     exact absurd ⟨b2,p2,h2,e2,ec.symm⟩ hfree
   · subst x2;rw[Rho.put_same]at e2;cases e2;rw[hlt _ x1]at e1;rw[old _ x1]at h1
     exact absurd ⟨b1,p1,h1,e1,ec⟩ hfree
   · rw[old _ x1]at h1;rw[old _ x2]at h2;rw[hlt _ x1]at e1;rw[hlt _ x2]at e2
     exact h.inj b1 b2 p1 p2 h1 h2 e1 e2 ec
 · intro b hb
   rw[Heap.next_add]at hb
   rw[hlt b (by omega)];exact h.fresh b (by omega)
 · intro g hg
   obtain⟨z,hz⟩:=h.glob g hg
   refine⟨z,hle _ _ hz⟩
theorem Held.add {p:Pl} {o:AObj} {c:Nat} (h:Held (ρ.put H.next p) (H.add o) c):c=p.c\/Held ρ H c:=by
 obtain⟨b,q,h1,h2,h3⟩:=h
 by_cases e:b=H.next
 · subst e;rw[Rho.put_same]at h2;cases h2;exact .inl h3.symm
 · rw[Rho.put_ne _ _ e]at h2
   rcases Heap.get_add H b o with hb|⟨hb,_⟩
   · rw[hb]at h1;exact .inr ⟨b,q,h1,h2,h3⟩
   · exact absurd hb e
theorem Held.lt (h:HR ng ρ H w) {c:Nat} (hc:Held ρ H c):c<w.heap.size:=by
 obtain⟨b,p,h1,h2,rfl⟩:=hc
 exact h.lt h1 h2
theorem ext_alloc (h:HR ng ρ H w) (x:Obj) (o:AObj) (p:Pl) (hc:p.c=w.heap.size) (hw:w'.heap=w.heap.push x) (ht:w'.tape=w.tape) (hos:w'.os=w.os) (hout:w'.output=w.output)
 (ho:ObjAt (ρ.put H.next p) w' H.next o):HR ng (ρ.put H.next p) (H.add o) w'/\Ext ρ H w (ρ.put H.next p) (H.add o) w':=by
 have hget:∀c,c<w.heap.size->w'.heap[c]?=w.heap[c]?:=fun c hlt=>by rw[hw,Array.getElem?_push_lt hlt];simp[hlt]
 refine⟨h.addObj (fun hh=>by have:=Held.lt h hh;omega) (fun c hh=>hget c (Held.lt h hh)) ho,?_⟩
 exact { le:=Rho.le_put (h.fresh _ (Nat.le_refl _)),size:=by rw[hw];simp,keep:=fun c hlt _=>hget c hlt,
         range:=fun c hh=>(Held.add hh).elim (fun e=>.inl (by omega)) .inr,
         dom:=fun b q hq=>by
          by_cases e:b=H.next
          · exact .inr (by omega)
          · rw[Rho.put_ne _ _ e]at hq;exact .inl hq
         next:=by rw[Heap.next_add];omega,tape:=ht,os:=hos,output:=hout,same:=Shape.of_grow hget }
theorem Pl.exactCells {ρ:Rho} {w:World} {c:Nat} {arr:List Value} {e:TypeId} {cs:List Value} (hw:w.heap[c]?=some (.cells ⟨arr⟩ e (0,0))) (h:LR ρ arr cs):CellsAt ρ w ⟨c,0,arr.length,0⟩ cs:=
 ⟨⟨arr⟩,e,(0,0),hw,by simp,by simp[h.1],fun _=>h.1.symm,fun o _=>by simp,fun i v' hv=>by
   obtain⟨v,a,b⟩:=h.get hv
   exact⟨v,by simpa using a,b⟩⟩
end Ex
namespace Ex
open Go
structure EnvOk (E:Env):Prop where
 tt:∀i x,E.tt.get none i=some x->E.P.info? i=some x
 ft:∀i x,E.ft.get none i=some x->E.P.funcs[i]?=some x
end Ex
namespace Ex
open Go
variable {E:Env} {ρ ρ':Rho} {H H':Heap} {w w':World}
theorem und_eq (hE:EnvOk E) {t:TypeId} {d:TypeDesc} (h:E.tt.und t=some d):E.P.underlying t=some d:=by
 unfold Ts.und at h
 unfold Program.underlying
 cases hi:Ts.info E.tt t with
 | none=>rw[hi]at h;cases h
 | some i=>
   rw[hi]at h
   rw[hE.tt t i hi]
   obtain⟨desc,_,_,_,_,_,_,_,_,_⟩:=i
   simp only at h ⊢
   unfold undOf at h
   cases desc<;>simp only at h ⊢
   case named n u=>
    cases hu:Ts.info E.tt u with
    | none=>rw[hu]at h;cases h
    | some j=>rw[hu]at h;rw[hE.tt u j hu];exact h
   all_goals exact h
theorem size_eq (hE:EnvOk E) {t:TypeId} {n:Nat} (h:sizeA E.tt t=some n):∃i,E.P.info? t=some i/\i.size=n:=by
 unfold sizeA at h
 cases hi:Ts.info E.tt t with
 | none=>rw[hi]at h;cases h
 | some i=>rw[hi]at h;exact⟨i,hE.tt t i hi,by simpa using h⟩
theorem runTI {P:Program} {t:TypeId} {i:TypeInfo} (h:P.info? t=some i) (w:World):(typeInfo t).run P w=.ok i w:=by
 unfold typeInfo
 simp only[Sem.run_bind]
 show(Result.ok P w).andThen _=_
 simp only[Result.andThen]
 rw[h];rfl
theorem run_sizeOf_eq (hE:EnvOk E) {t:TypeId} {n:Nat} (h:sizeA E.tt t=some n) (w:World):(Go.sizeOf t).run E.P w=.ok n w:=by
 obtain⟨i,hi,hn⟩:=size_eq hE h
 simp only[Go.sizeOf,Sem.run_bind,runTI hi,Result.andThen,hn];rfl
theorem run_isAgg_eq (hE:EnvOk E) {t:TypeId} {b:Bool} (h:isAggA E.tt t=some b) (w:World):(isAgg t).run E.P w=.ok b w:=by
 unfold isAggA at h
 cases hu:E.tt.und t with
 | none=>rw[hu]at h;cases h
 | some d=>
   rw[hu]at h
   have hu':=und_eq hE hu
   simp only[Option.some.injEq]at h
   subst h
   simp only[isAgg,Sem.run_bind,run_underlying hu',Result.andThen]
   cases d<;>rfl
theorem addr_add (c x j:Nat):(⟨c,x,none⟩:Addr).add j=⟨c,x+j,none⟩:=by unfold Addr.add;split<;>simp_all
theorem CellsAt.cell {p:Pl} {cs:List Value} (h:CellsAt ρ w p cs) {o:Nat} {v':Value} (hv:cs[o]?=some v'):∃v,w.cell? ⟨p.c,p.s+o,none⟩=some v/\VR ρ v v':=by
 obtain⟨cells,e,fr,h1,h2,h3,h4,h5,h6⟩:=h
 obtain⟨v,a,b⟩:=h6 o v' hv
 exact⟨v,by simpa[World.cell?,h1] using a,b⟩
theorem HR.cells (h:HR E.ng ρ H w) {b:Nat} {p:Pl} {cs:List Value} {k:Nat} (hp:ρ b=some p) (hb:H.get b=.cells cs k):p.k=k/\CellsAt ρ w p cs:=by
 have:=h.obj b
 rw[hb]at this
 obtain⟨q,hq,hk,hc⟩:=this
 rw[hp]at hq;cases hq
 exact⟨hk,hc⟩
theorem read_cell (h:HR E.ng ρ H w) {b o:Nat} {p:Pl} {v':Value} (hp:ρ b=some p) (hr:readCell H b o=some v'):∃v,w.cell? ⟨p.c,p.s+o,none⟩=some v/\VR ρ v v':=by
 unfold readCell at hr
 cases hb:H.get b<;>rw[hb]at hr<;>simp only at hr
 case cells cs k=>rw[nth_eq]at hr;exact(h.cells hp hb).2.cell hr
 all_goals cases hr
theorem read_cells (h:HR E.ng ρ H w) {b o n:Nat} {p:Pl} {l':List Value} (hp:ρ b=some p) (hr:readCells H b o n=some l'):
 ∃l,LR ρ l l'/\l.length=n/\∀(j:Nat) v,l[j]?=some v->w.cell? ⟨p.c,p.s+o+j,none⟩=some v:=by
 unfold readCells at hr
 cases hb:H.get b<;>rw[hb]at hr<;>simp only at hr
 case cells cs k=>
  rw[dropL_eq]at hr
  obtain⟨hn,rfl⟩:=takeL_some hr
  have hc:=(h.cells hp hb).2
  have key:∀j,j<n->∃v v',cs[o+j]?=some v'/\w.cell? ⟨p.c,p.s+o+j,none⟩=some v/\VR ρ v v':=fun j hj=>by
   have hlt:o+j<cs.length:=by simp at hn;omega
   obtain⟨v,a,b⟩:=hc.cell (List.getElem?_eq_getElem hlt)
   exact⟨v,_,List.getElem?_eq_getElem hlt,by rwa [Nat.add_assoc],b⟩
  refine⟨(List.range n).map fun j=>(w.cell? ⟨p.c,p.s+o+j,none⟩).getD undef,⟨?_,fun i u v a b'=>?_⟩,by simp,fun j v hv=>?_⟩
  · simp at hn ⊢;omega
  · have hi:i<n:=by
     have:=(List.getElem?_eq_some_iff.1 a).1;simpa using this
    obtain⟨x,x',e1,e2,e3⟩:=key i hi
    simp[hi,e2]at a
    simp[hi,e1]at b'
    subst a;subst b';exact e3
  · have hj:j<n:=by have:=(List.getElem?_eq_some_iff.1 hv).1;simpa using this
    obtain⟨x,x',e1,e2,e3⟩:=key j hj
    simp[hj,e2]at hv
    rw[e2,hv]
 all_goals cases hr
theorem VR.agg_of {l l':List Value} (h:LR ρ l l'):VR ρ (.agg ⟨l⟩) (.agg ⟨l'⟩):=.agg l l' h.1 h.2
theorem VR.tuple_of {l l':List Value} (h:LR ρ l l'):VR ρ (.tuple ⟨l⟩) (.tuple ⟨l'⟩):=.tuple l l' h.1 h.2
theorem load_sound (hE:EnvOk E) (h:HR E.ng ρ H w) {t:TypeId} {b o:Nat} {p:Pl} {v':Value} (hp:ρ b=some p) (hl:load1 H b o (shapeA E.tt t)=some v'):
 ∃v,(loadVar t ⟨p.c,p.s+o,none⟩).run E.P w=.ok v w/\VR ρ v v':=by
 unfold shapeA at hl
 cases ha:isAggA E.tt t with
 | none=>rw[ha]at hl;cases hl
 | some g=>
   rw[ha]at hl
   cases g with
   | true=>
     simp only at hl
     cases hs:sizeA E.tt t with
     | none=>rw[hs]at hl;cases hl
     | some n=>
       rw[hs]at hl
       simp only[load1,load2]at hl
       cases hr:readCells H b o n with
       | none=>rw[hr]at hl;cases hl
       | some l'=>
         rw[hr]at hl
         obtain⟨l,h1,h2,h3⟩:=read_cells h hp hr
         have hrun:=run_loadCells_list (P:=E.P) w ⟨p.c,p.s+o,none⟩ l (fun j v hv=>by rw[addr_add];exact h3 j v hv)
         rw[h2]at hrun
         simp only[omap,Option.some.injEq]at hl
         subst hl
         refine⟨.agg ⟨l⟩,?_,VR.agg_of h1⟩
         simp only[loadVar,Sem.run_bind,run_isAgg_eq hE ha,run_sizeOf_eq hE hs,Result.andThen,hrun,if_true]
         rfl
   | false=>
     simp only[load1,load2]at hl
     obtain⟨v,h1,h2⟩:=read_cell h hp hl
     refine⟨v,?_,h2⟩
     simp[loadVar,Sem.run_bind,run_isAgg_eq hE ha,Result.andThen,run_load,h1]
theorem cells_rel {v v':Value} (h:VR ρ v v'):LR ρ v.cells.toList (cellsV v'):=by
 cases h<;>first
  | exact⟨by assumption,by assumption⟩
  | exact LR.cons (by constructor<;>assumption) (LR.nil _)
  | skip
theorem oneCell_rel {v v':Value} (h:VR ρ v v') (ho:oneCell v'=true):oneCell v=true:=by
 cases h<;>simp_all [oneCell]
theorem allOne_rel {l l':List Value} (h:LR ρ l l') (ho:allOne l'=true):∀v ∈ l,oneCell v=true:=by
 induction l' generalizing l with
 | nil=>rw[h.nil_inv];simp
 | cons a t ih=>
   obtain⟨x,y,rfl,hx,hy⟩:=h.cons_inv
   simp only[allOne,Bool.and_eq_true]at ho
   intro v hv
   rcases List.mem_cons.1 hv with rfl|hv
   · exact oneCell_rel hx ho.1
   · exact ih hy ho.2 v hv
theorem write_cells (h:HR E.ng ρ H w) {b o:Nat} {p:Pl} {l l':List Value} (hp:ρ b=some p) (hr:writeCells H b o l'=some H') (hl:LR ρ l l') (h1:∀v ∈ l,oneCell v=true):
 ∃w',(storeCells ⟨p.c,p.s+o,none⟩ l).run E.P w=.ok () w'/\HR E.ng ρ H' w'/\Ext ρ H w ρ H' w':=by
 unfold writeCells at hr
 cases hb:H.get b<;>rw[hb]at hr<;>simp only at hr
 case cells cs k=>
  obtain⟨hk,hc⟩:=h.cells hp hb
  have halive:H.get b≠.none:=by rw[hb];simp
  cases hput:putAt o l' cs with
  | none=>rw[hput]at hr;cases hr
  | some cs'=>
    rw[hput]at hr
    simp only[writeCells1,Option.some.injEq]at hr
    subst hr
    obtain⟨hlen,rfl⟩:=putAt_some hput
    obtain⟨cells,e,fr,c1,c2,c3,c4,c5,c6⟩:=hc
    have hfit:p.s+o+0+l.length<=cells.size:=by rw[c2,hl.1];omega
    have hrun:=run_store_cells (P:=E.P) (p.s+o) l 0 cells w c1 hfit (fun o ho=>c5 o (.inl ho)) h1
    refine⟨_,hrun,?_⟩
    have hlt:=(Array.getElem?_eq_some_iff.1 c1).1
    have hcells:CellsAt ρ (withObj w p.c (.cells (splice cells (p.s+o+0) l) e fr)) p (cs.take o ++ l' ++ cs.drop (o+l'.length)):=by
     refine⟨_,e,fr,by rw[withObj_heap _ _ _ _ hlt,if_pos rfl],by rw[splice_size,c2],?_,?_,by rw[splice_size];exact c5,fun i v' hv=>?_⟩
     · simp;omega
     · intro hk0;have:=c4 hk0;simp;omega
     · rw[splice_get _ _ _ _ hfit]
       by_cases hi:i<o
       · rw[List.append_assoc,List.getElem?_append_left (by simp;omega),List.getElem?_take_of_lt hi]at hv
         rw[if_neg (by omega)]
         exact c6 i v' hv
       · by_cases hi2:i<o+l'.length
         · have e1:(cs.take o).length=o:=by simp;omega
           rw[List.append_assoc,List.getElem?_append_right (by omega),e1,List.getElem?_append_left (by omega)]at hv
           obtain⟨v,a,b'⟩:=hl.get hv
           rw[if_pos (by rw[hl.1];omega)]
           exact⟨v,by rw[show p.s+i-(p.s+o+0)=i-o by omega];exact a,b'⟩
         · have e1:(cs.take o ++ l').length=o+l'.length:=by simp;omega
           rw[List.getElem?_append_right (by omega),e1,List.getElem?_drop]at hv
           rw[if_neg (by rw[hl.1];omega)]
           exact c6 i v' (by rwa [show o+l'.length+(i-(o+l'.length))=i by omega]at hv)
    have hother:∀c,c≠p.c → (withObj w p.c (.cells (splice cells (p.s+o+0) l) e fr)).heap[c]?=w.heap[c]?:=fun c hne=>by
     rw[withObj_heap _ _ _ _ hlt,if_neg hne]
    refine⟨h.setObj halive hp hother ⟨p,hp,hk,hcells⟩,?_⟩
    exact { le:=ρ.le_refl,size:=by rw[withObj_size];exact Nat.le_refl _,keep:=fun c _ hn=>hother c (fun e=>hn ⟨b,p,halive,hp,e.symm⟩),range:=fun c hh=>.inr (Held.set halive hh),
            dom:=fun _ _ hq=>.inl hq,next:=by rw[Heap.next_set];exact Nat.le_refl _,tape:=rfl,os:=rfl,output:=rfl,same:=Shape.of_cells hother c1 (by rw[withObj_heap _ _ _ _ hlt,if_pos rfl]) }
 all_goals cases hr
theorem ptr_inv {v:Value} {b o:Nat} {s:Option Nat} (h:VR ρ v (.pointer (some ⟨b,o,s⟩))):∃p,ρ b=some p/\v=.pointer (some ⟨p.c,p.s+o,none⟩):=by
 cases h with
 | ptr hp=>exact⟨_,hp,rfl⟩
theorem store_sound (hE:EnvOk E) (h:HR E.ng ρ H w) {t:TypeId} {a a' v v':Value} (ha:VR ρ a a') (hv:VR ρ v v') (hs:storeV E.tt H t a' v'=some H'):
 ∃w',(Instr.storeAt t a v).run E.P w=.ok () w'/\HR E.ng ρ H' w'/\Ext ρ H w ρ H' w':=by
 unfold storeV at hs
 split at hs
 · rename_i x
   obtain⟨b,o,s⟩:=x
   obtain⟨p,hp,rfl⟩:=ptr_inv ha
   cases hz:sizeA E.tt t with
   | none=>rw[hz]at hs;cases hs
   | some n=>
     rw[hz]at hs
     simp only[store1,store2]at hs
     have hrel:=cells_rel hv
     cases hc:(Nat.beq (cellsV v').length n && allOne (cellsV v')) with
     | false=>rw[hc]at hs;cases hs
     | true=>
       rw[hc]at hs
       simp only[Bool.and_eq_true]at hc
       have hlen:(cellsV v').length=n:=Nat.eq_of_beq_eq_true hc.1
       have hsz:v.cells.size=n:=by rw[<-hlen,<-hrel.1];simp
       have hpre:∀w',(storeCells ⟨p.c,p.s+o,none⟩ v.cells.toList).run E.P w=.ok () w' → (Instr.storeAt t (.pointer (some ⟨p.c,p.s+o,none⟩)) v).run E.P w=.ok () w':=fun w' hr=>by
        simp only[Instr.storeAt,Instr.sureAddr,storeVar,Sem.run_bind,run_sizeOf_eq hE hz,Result.andThen,hsz,ne_eq,not_true_eq_false,if_false,Sem.run_pure]
        exact hr
       cases hcs:cellsV v' with
       | nil=>
         rw[hcs]at hs hrel
         simp only[Option.some.injEq]at hs
         subst hs
         have:=hrel.nil_inv
         refine⟨w,hpre w (by rw[this];rfl),h,Ext.refl _ _ _⟩
       | cons x xs=>
         rw[hcs]at hs hrel hc
         obtain⟨w',h1,h2,h3⟩:=write_cells h hp hs hrel (allOne_rel hrel hc.2)
         exact⟨w',hpre w' h1,h2,h3⟩
 · cases hs
def Goes (P:Program) (s:Sem Next) (w:World) (v:Value) (w':World):Prop:=s.run P w=.ok (.value v) w'\/(s.run P w=.ok .skip w'/\v=undef)
def OpRes (E:Env) (ρ:Rho) (H:Heap) (w:World) (s:Sem Next) (v':Value) (H':Heap):Prop:=
 ∃ρ' v w',Goes E.P s w v w'/\VR ρ' v v'/\HR E.ng ρ' H' w'/\Ext ρ H w ρ' H' w'
theorem run_v {P:Program} {s:Sem Value} {x:Value} (h:s.run P w=.ok x w'):(do pure (Next.value (<-s)):Sem Next).run P w=.ok (.value x) w':=by
 show(s >>= fun a=>pure (Next.value a)).run P w=_
 simp[Sem.run_bind,h,Result.andThen]
theorem run_u {P:Program} {s:Sem Unit} (h:s.run P w=.ok () w'):(do s;pure Next.skip:Sem Next).run P w=.ok .skip w':=by
 show(s >>= fun _=>pure Next.skip).run P w=_
 simp[Sem.run_bind,h,Result.andThen]
theorem OpRes.val (h:HR E.ng ρ H w) {s:Sem Next} {v v':Value} (hs:s.run E.P w=.ok (.value v) w) (hv:VR ρ v v'):OpRes E ρ H w s v' H:=
 ⟨ρ,v,w,.inl hs,hv,h,Ext.refl _ _ _⟩
theorem oval_inv {o:Option Value} {v':Value} (h:oval H o=.ok v' H'):o=some v'/\H'=H:=by
 cases o<;>simp[oval]at h;exact⟨by simp[h.1],h.2.symm⟩
theorem VR.undef:VR ρ undef Undef:=.tuple [] [] rfl (by simp)
mutual
theorem VR.of_free (ρ:Rho):∀v,free v=true->VR ρ v v
 | .bool b,_=>.bool b
 | .int k n,_=>.int k n
 | .float k n,_=>.float k n
 | .complex k a b,_=>.complex k a b
 | .string s,_=>.string s
 | .pointer none,_=>.pnil
 | .pointer (some a),h=>by simp[free]at h
 | .slice none l c,h=>by
   simp[free]at h
   obtain⟨rfl,rfl⟩:=h
   exact .snil
 | .slice (some a) l c,h=>by simp[free]at h
 | .map none,_=>.mnil
 | .map (some a),h=>by simp[free]at h
 | .chan none,_=>.cnil
 | .chan (some a),h=>by simp[free]at h
 | .func f a b,h=>by simp[free]at h
 | .nilFunc,_=>.nilFunc
 | .iface t v,h=>.iface t (VR.of_free ρ v (by simpa[free] using h))
 | .nilIface,_=>.nilIface
 | .agg ⟨l⟩,h=>.agg l l rfl (LR.of_free ρ l (by simpa[free,freeA] using h))
 | .tuple ⟨l⟩,h=>.tuple l l rfl (LR.of_free ρ l (by simpa[free,freeA] using h))
theorem LR.of_free (ρ:Rho):∀l,freeL l=true->∀(i:Nat) u v,l[i]?=some u->l[i]?=some v->VR ρ u v
 | [],_=>by simp
 | x :: l,h=>by
   simp only[freeL,Bool.and_eq_true]at h
   intro i u v a b
   cases i with
   | zero=>simp at a b;subst a;subst b;exact VR.of_free ρ x h.1
   | succ i=>exact LR.of_free ρ l h.2 i u v (by simpa using a) (by simpa using b)
end
theorem pureRun_run {α:Type} {P:Program}:∀ {s:Sem α} {a:α},pureRun P s=some a->∀w,s.run P w=.ok a w
 | .pure a,_,h,_=>by simp only[pureRun,Option.some.injEq]at h;subst h;rfl
 | .program k,_,h,w=>pureRun_run (s:=k P) h w
 | .mark m k,_,h,w=>pureRun_run (s:=k) h w
 | .load ..,_,h,_ | .store ..,_,h,_ | .new ..,_,h,_ | .shape ..,_,h,_ | .freeze ..,_,h,_ | .frozen ..,_,h,_ | .getObj ..,_,h,_ | .setObj ..,_,h,_
 | .choose ..,_,h,_ | .sys ..,_,h,_ | .halt _,_,h,_=>by simp[pureRun]at h
theorem opValue_inv {n:Option Next} {v:Value} (h:opValue n=some v):n=some (.value v)/\free v=true:=by
 cases n with
 | none=>simp[opValue]at h
 | some x=>
   cases x<;>simp only[opValue]at h
   case value u=>
    unfold freeV at h
    cases hf:free u<;>rw[hf]at h<;>simp at h
    subst h;exact⟨rfl,hf⟩
   all_goals cases h
theorem free_operands {ev:Operand->Value} {t:Tr Value} {x:Operand} (h:VR ρ (ev x) (evA t x)) (hf:free (evA t x)=true):ev x=evA t x:=free_eq h hf
theorem pureOp_sound {ev:Operand->Value} {t:Tr Value} {o:Oper} {v':Value} (h:HR E.ng ρ H w) (hs:∀cs b,o.op≠.select cs b) (hev:∀x ∈ o.op.operands,ev x=evA t x)
 (hp:opValue (pureRun E.P (execOp (evA t) o))=some v'):OpRes E ρ H w (execOp ev o) v' H:=by
 obtain⟨h1,h2⟩:=opValue_inv hp
 refine OpRes.val h ?_ (VR.of_free ρ _ h2)
 rw[execOp_congr o hs hev]
 exact pureRun_run h1 w
theorem wrap_small {k:IntKind} {n:Nat} (h:n<lim k):k.wrap (n:Int)=n:=by
 cases k<;>simp only[lim]at h<;>simp only[IntKind.wrap,IntKind.bits,IntKind.signed]<;>simp<;>omega
theorem fit_eq (k:IntKind) (n:Nat):fit k n=.int k (k.wrap (n:Int)):=by
 unfold fit
 cases hb:Nat.blt n (lim k) with
 | true=>
   have:n<lim k:=by simpa[Nat.blt_eq] using hb
   show Value.int k (Int.ofNat n)=_
   rw[wrap_small this];rfl
 | false=>
   show big k n=_
   cases k<;>simp only[big]<;>first
    | rfl
    | (congr 1;simp only[IntKind.wrap,IntKind.bits,IntKind.signed];simp;rfl)
theorem free_fit (k:IntKind) (n:Nat):free (fit k n)=true:=by rw[fit_eq];rfl
theorem both_inv {k:IntKind} {a b:Nat} {v v':Value} (h:both k a b v=some v'):a<lim k/\b<lim k/\v'=v:=by
 unfold both at h
 cases hb:(Nat.blt a (lim k) && Nat.blt b (lim k)) with
 | false=>rw[hb]at h;cases h
 | true=>
   rw[hb]at h
   simp only[Bool.and_eq_true,Nat.blt_eq]at hb
   exact⟨hb.1,hb.2,(Option.some.inj h).symm⟩
theorem bits_lim (k:IntKind):lim k<=2 ^ k.bits:=by cases k<;>simp[lim,IntKind.bits]
theorem lim_pow (k:IntKind):∃n,lim k=2 ^ n:=by
 cases k
 · exact⟨7,rfl⟩
 · exact⟨15,rfl⟩
 · exact⟨31,rfl⟩
 · exact⟨63,rfl⟩
 · exact⟨8,rfl⟩
 · exact⟨16,rfl⟩
 · exact⟨32,rfl⟩
 · exact⟨64,rfl⟩
theorem cmp_sound {P:Program} {op:BinOp} {k:IntKind} {a b:Nat} {c c':Bool} (t:TypeId) (w:World) (hop:Go.binOp op t (.int k (a:Int)) (.int k (b:Int))=Op.intCmp op a b)
 (hc:Op.intCmp op (a:Int) b=pure (.bool c')) (e:c'=c):(Go.binOp op t (.int k (a:Int)) (.int k (b:Int))).run P w=.ok (.bool c) w/\free (.bool c)=true:=by
 rw[hop,hc,e];exact⟨rfl,rfl⟩
theorem natBin_sound {P:Program} {op:BinOp} {k:IntKind} {a b:Nat} {v':Value} (hsh:isShift op=false) (h:natBin op k a b=some v') (t:TypeId) (w:World):
 (Go.binOp op t (.int k (a:Int)) (.int k (b:Int))).run P w=.ok v' w/\free v'=true:=by
 cases op<;>simp only[natBin]at h<;>simp only[isShift]at hsh<;>try (cases hsh;done)
 case add=>cases h;exact⟨by rw[fit_eq];simp[Go.binOp,Op.intArith],free_fit _ _⟩
 case mul=>cases h;exact⟨by rw[fit_eq];simp[Go.binOp,Op.intArith],free_fit _ _⟩
 case sub=>
  cases hb:Nat.ble b a with
  | false=>rw[hb]at h;cases h
  | true=>
    rw[hb]at h
    have hle:b<=a:=Nat.le_of_ble_eq_true hb
    cases h
    refine⟨?_,free_fit _ _⟩
    rw[fit_eq]
    simp[Go.binOp,Op.intArith]
    congr 2
    show _=((a-b:Nat):Int)
    omega
 case quo=>
  cases hb:Nat.beq b 0 with
  | true=>rw[hb]at h;cases h
  | false=>
    rw[hb]at h
    have hne:b≠0:=fun e=>by rw[e]at hb;cases hb
    cases h
    refine⟨?_,free_fit _ _⟩
    rw[fit_eq]
    simp[Go.binOp,Op.intDiv,hne]
    rfl
 case rem=>
  cases hb:Nat.beq b 0 with
  | true=>rw[hb]at h;cases h
  | false=>
    rw[hb]at h
    have hne:b≠0:=fun e=>by rw[e]at hb;cases hb
    cases h
    refine⟨?_,rfl⟩
    simp[Go.binOp,Op.intDiv,hne]
    rfl
 case and=>
  obtain⟨ha,hb,rfl⟩:=both_inv h
  refine⟨?_,rfl⟩
  have h1:=Nat.mod_eq_of_lt (Nat.lt_of_lt_of_le ha (bits_lim k))
  have h2:=Nat.mod_eq_of_lt (Nat.lt_of_lt_of_le hb (bits_lim k))
  have h3:Nat.land a b<lim k:=Nat.lt_of_le_of_lt Nat.and_le_left ha
  simp[Go.binOp,Op.intBits,h1,h2]
  exact wrap_small h3
 case or=>
  obtain⟨ha,hb,rfl⟩:=both_inv h
  refine⟨?_,rfl⟩
  have h1:=Nat.mod_eq_of_lt (Nat.lt_of_lt_of_le ha (bits_lim k))
  have h2:=Nat.mod_eq_of_lt (Nat.lt_of_lt_of_le hb (bits_lim k))
  have h3:Nat.lor a b<lim k:=by
   obtain⟨n,hn⟩:=lim_pow k
   rw[hn]at ha hb ⊢
   exact Nat.or_lt_two_pow ha hb
  simp[Go.binOp,Op.intBits,h1,h2]
  exact wrap_small h3
 case eql=>
  cases h
  refine cmp_sound (c':=((a:Int) == b)) t w (by simp[Go.binOp]) rfl ?_
  rw[Bool.eq_iff_iff];simp[Nat.beq_eq];omega
 case neq=>
  cases h
  refine cmp_sound (c':=((a:Int) != b)) t w (by simp[Go.binOp]) rfl ?_
  cases hb:Nat.beq a b with
  | true=>have:=Nat.eq_of_beq_eq_true hb;subst this;simp
  | false=>have:a≠b:=fun e=>by subst e;simp at hb
           simp;omega
 case lss=>
  cases h
  refine cmp_sound (c':=decide ((a:Int)<b)) t w (by simp[Go.binOp]) rfl ?_
  rw[Bool.eq_iff_iff];simp[Nat.blt_eq]
 case leq=>
  cases h
  refine cmp_sound (c':=decide ((a:Int)<=b)) t w (by simp[Go.binOp]) rfl ?_
  rw[Bool.eq_iff_iff];simp
 case gtr=>
  cases h
  refine cmp_sound (c':=decide ((a:Int) > b)) t w (by simp[Go.binOp]) rfl ?_
  rw[Bool.eq_iff_iff];simp[Nat.blt_eq]
 case geq=>
  cases h
  refine cmp_sound (c':=decide ((a:Int) ≥ b)) t w (by simp[Go.binOp]) rfl ?_
  rw[Bool.eq_iff_iff];simp
 all_goals cases h
theorem bitsA_eq (k:IntKind):bitsA k=k.bits:=by cases k<;>rfl
theorem natShift_sound {P:Program} {op:BinOp} {k k':IntKind} {a b:Nat} {v':Value} (h:natShift op k a b=some v') (t:TypeId) (w:World):
 (Go.binOp op t (.int k (a:Int)) (.int k' (b:Int))).run P w=.ok v' w/\free v'=true:=by
 cases op<;>simp only[natShift]at h
 case shl=>
  cases h
  refine⟨?_,free_fit _ _⟩
  rw[fit_eq]
  have hneg:¬((b:Int)<0):=by omega
  simp[Go.binOp,Op.shift,hneg,bitsA_eq,Nat.shiftLeft_eq]
 case shr=>
  cases h
  refine⟨?_,rfl⟩
  have hneg:¬((b:Int)<0):=by omega
  simp[Go.binOp,Op.shift,hneg,bitsA_eq,Nat.shiftRight_eq_div_pow]
  rw[Int.fdiv_eq_ediv_of_nonneg _ (Int.le_of_lt (Int.pow_pos (by decide)))]
 all_goals cases h
theorem eqGuard_other {P:Program} {op:BinOp} {t:TypeId} {x y:Operand} {a b:Value} (h:∀(u v:Array Value),¬(a=.agg u/\b=.agg v)) (h':¬(a=.nilIface/\b=.nilIface)) (w:World):
 (eqGuard op t x y a b).run P w=.ok () w:=by
 unfold eqGuard
 cases op<;>first
  | rfl
  | (simp only[Bool.not_true,Bool.false_eq_true,if_false]
     split
     · exact absurd ⟨rfl,rfl⟩ h'
     · exact absurd ⟨rfl,rfl⟩ (h _ _)
     · rfl)
theorem run_bin {P:Program} {op:BinOp} {t:TypeId} {x y:Operand} {a b v:Value} {w:World} (hg:(eqGuard op t x y a b).run P w=.ok () w) (hb:(Go.binOp op t a b).run P w=.ok v w):
 (do eqGuard op t x y a b;Go.binOp op t a b:Sem Value).run P w=.ok v w:=by
 show(eqGuard op t x y a b >>= fun _=>Go.binOp op t a b).run P w=_
 simp only[Sem.run_bind,hg,Result.andThen,hb]
end Ex
namespace Ex
open Go
variable {E:Env} {ρ ρ':Rho} {H H':Heap} {w w':World}
section
variable {P:Program} {t:TypeId} (d:Nat)
theorem eq_p1 {e:TypeId} (hu:P.underlying t=some (.pointer e)) (a:Addr) (w:World):(Op.equalIn (d+1) t (.pointer (some a)) (.pointer none)).run P w=.ok false w:=by simp[Op.equalIn,run_underlying hu]
theorem eq_p2 {e:TypeId} (hu:P.underlying t=some (.pointer e)) (a:Addr) (w:World):(Op.equalIn (d+1) t (.pointer none) (.pointer (some a))).run P w=.ok false w:=by simp[Op.equalIn,run_underlying hu]
theorem eq_s1 {e:TypeId} (hu:P.underlying t=some (.slice e)) (a:Addr) (l c l' c':Nat) (w:World):(Op.equalIn (d+1) t (.slice (some a) l c) (.slice none l' c')).run P w=.ok false w:=by simp[Op.equalIn,run_underlying hu]
theorem eq_s2 {e:TypeId} (hu:P.underlying t=some (.slice e)) (a:Addr) (l c l' c':Nat) (w:World):(Op.equalIn (d+1) t (.slice none l' c') (.slice (some a) l c)).run P w=.ok false w:=by simp[Op.equalIn,run_underlying hu]
theorem eq_f1 {x y:Array TypeId} {z:Bool} (hu:P.underlying t=some (.func x y z)) (f:Fn) (a b:Array Value) (w:World):(Op.equalIn (d+1) t (.func f a b) .nilFunc).run P w=.ok false w:=by simp[Op.equalIn,run_underlying hu]
theorem eq_f2 {x y:Array TypeId} {z:Bool} (hu:P.underlying t=some (.func x y z)) (f:Fn) (a b:Array Value) (w:World):(Op.equalIn (d+1) t .nilFunc (.func f a b)).run P w=.ok false w:=by simp[Op.equalIn,run_underlying hu]
theorem eq_i1 {m:Array (String × TypeId)} (hu:P.underlying t=some (.interface m)) (k:TypeId) (v:Value) (w:World):(Op.equalIn (d+1) t (.iface k v) .nilIface).run P w=.ok false w:=by simp[Op.equalIn,run_underlying hu]
theorem eq_i2 {m:Array (String × TypeId)} (hu:P.underlying t=some (.interface m)) (k:TypeId) (v:Value) (w:World):(Op.equalIn (d+1) t .nilIface (.iface k v)).run P w=.ok false w:=by simp[Op.equalIn,run_underlying hu]
end
end Ex
namespace Ex
open Go
variable {E:Env} {ρ ρ':Rho} {H H':Heap} {w w':World}
theorem VR.int_inv {v:Value} {k:IntKind} {n:Int} (h:VR ρ v (.int k n)):v=.int k n:=by cases h;rfl
theorem VR.bool_inv {v:Value} {b:Bool} (h:VR ρ v (.bool b)):v=.bool b:=by cases h;rfl
theorem VR.string_inv {v:Value} {s:ByteArray} (h:VR ρ v (.string s)):v=.string s:=by cases h;rfl
def Apart (x y:Value):Prop:=(∀(u v:Array Value),¬(x=.agg u/\y=.agg v))/\¬(x=.nilIface/\y=.nilIface)/\(∀k n,x≠.int k n)/\(∀s,x≠.string s)/\(∀k n,x≠.float k n)/\(∀k n m,x≠.complex k n m)
theorem nilEq_sound (hE:EnvOk E) {t:TypeId} {x x' y y':Value} {r:Bool} (hx:VR ρ x x') (hy:VR ρ y y') (h:nilEq (E.tt.und t) x' y'=some r) (w:World):
 (Op.equal t x y).run E.P w=.ok r w/\Apart x y:=by
 unfold nilEq at h
 split at h
 · rename_i e hd
   have hu:=und_eq hE hd
   split at h<;>cases h
   · cases hx;cases hy;exact⟨eq_p1 9999 hu _ w,by simp[Apart]⟩
   · cases hx;cases hy;exact⟨eq_p2 9999 hu _ w,by simp[Apart]⟩
 · rename_i e hd
   have hu:=und_eq hE hd
   split at h<;>cases h
   · cases hx<;>cases hy<;>exact⟨eq_s1 9999 hu _ _ _ _ _ w,by simp[Apart]⟩
   · cases hx<;>cases hy<;>exact⟨eq_s2 9999 hu _ _ _ _ _ w,by simp[Apart]⟩
 · rename_i e hd
   have hu:=und_eq hE hd
   split at h<;>cases h
   · cases hx;cases hy;exact⟨eq_f1 9999 hu _ _ _ w,by simp[Apart]⟩
   · cases hx;cases hy;exact⟨eq_f2 9999 hu _ _ _ w,by simp[Apart]⟩
 · rename_i e hd
   have hu:=und_eq hE hd
   split at h<;>cases h
   · cases hx;cases hy;exact⟨eq_i1 9999 hu _ _ w,by simp[Apart]⟩
   · cases hx;cases hy;exact⟨eq_i2 9999 hu _ _ w,by simp[Apart]⟩
 · cases h
theorem binOp_eql {P:Program} {t:TypeId} {x y:Value} {r:Bool} (hr:(Op.equal t x y).run P w=.ok r w) (ha:Apart x y):(Go.binOp .eql t x y).run P w=.ok (.bool r) w:=by
 obtain⟨h1,h2,h3,h4,h5,h6⟩:=ha
 have:Go.binOp .eql t x y=(do pure (.bool (<-Op.equal t x y))):=by
  cases x<;>first
   | exact absurd rfl (h3 _ _)
   | exact absurd rfl (h4 _)
   | exact absurd rfl (h5 _ _)
   | exact absurd rfl (h6 _ _ _)
   | (cases y<;>simp[Go.binOp])
 rw[this]
 show(Op.equal t x y >>= fun b=>pure (Value.bool b)).run P w=_
 simp[hr,Result.andThen]
theorem binOp_neq {P:Program} {t:TypeId} {x y:Value} {r:Bool} (hr:(Op.equal t x y).run P w=.ok r w) (ha:Apart x y):(Go.binOp .neq t x y).run P w=.ok (.bool !r) w:=by
 obtain⟨h1,h2,h3,h4,h5,h6⟩:=ha
 have:Go.binOp .neq t x y=(do pure (.bool (!(<-Op.equal t x y)))):=by
  cases x<;>first
   | exact absurd rfl (h3 _ _)
   | exact absurd rfl (h4 _)
   | exact absurd rfl (h5 _ _)
   | exact absurd rfl (h6 _ _ _)
   | (cases y<;>simp[Go.binOp])
 rw[this]
 show(Op.equal t x y >>= fun b=>pure (Value.bool !b)).run P w=_
 simp[hr,Result.andThen]
theorem bin_sound (hE:EnvOk E) (h:HR E.ng ρ H w) {ev:Operand->Value} {t:Tr Value} {o:Oper} {op:BinOp} {ty ty':TypeId} {x y:Operand} {v':Value} (ho:o.op=.binOp op ty x y ty')
 (hx:VR ρ (ev x) (evA t x)) (hy:VR ρ (ev y) (evA t y)) (hb:binA E.P t o op (E.tt.und ty) (evA t x) (evA t y)=some v'):OpRes E ρ H w (execOp ev o) v' H:=by
 have hexec:execOp ev o=(do pure (Next.value (<-(do eqGuard op ty x y (ev x) (ev y);Go.binOp op ty (ev x) (ev y):Sem Value)))):=by
  obtain⟨dst,op',type,pos,after,guard⟩:=o
  simp only at ho;subst ho;rfl
 have slow:binSlow E.P t o op (E.tt.und ty) (evA t x) (evA t y)=some v'->OpRes E ρ H w (execOp ev o) v' H:=by
  intro hs
  unfold binSlow at hs
  cases hf:(free (evA t x) && free (evA t y)) with
  | true=>
    rw[hf]at hs
    simp only[Bool.and_eq_true]at hf
    refine pureOp_sound h (by rw[ho];simp) (fun z hz=>?_) hs
    rw[ho]at hz
    simp[Op.operands]at hz
    rcases hz with rfl|rfl
    · exact free_operands hx hf.1
    · exact free_operands hy hf.2
  | false=>
    rw[hf]at hs
    simp only at hs
    cases op<;>simp only[nilBin]at hs<;>try (cases hs;done)
    · cases hn:nilEq (E.tt.und ty) (evA t x) (evA t y) with
      | none=>rw[hn]at hs;cases hs
      | some r=>
        rw[hn]at hs
        simp only[omap,Option.some.injEq]at hs
        subst hs
        obtain⟨h1,h2⟩:=nilEq_sound hE hx hy hn w
        exact OpRes.val h (by rw[hexec];exact run_v (run_bin (eqGuard_other h2.1 h2.2.1 w) (binOp_eql h1 h2))) (.bool _)
    · cases hn:nilEq (E.tt.und ty) (evA t x) (evA t y) with
      | none=>rw[hn]at hs;cases hs
      | some r=>
        rw[hn]at hs
        simp only[omap,Option.some.injEq]at hs
        subst hs
        obtain⟨h1,h2⟩:=nilEq_sound hE hx hy hn w
        exact OpRes.val h (by rw[hexec];exact run_v (run_bin (eqGuard_other h2.1 h2.2.1 w) (binOp_neq h1 h2))) (.bool _)
 unfold binA at hb
 split at hb
 · rename_i k a ex
   split at hb
   · rename_i k' b ey
     rw[ex]at hx;rw[ey]at hy
     have h1:ev x=.int k (a:Int):=hx.int_inv
     have h2:ev y=.int k' (b:Int):=hy.int_inv
     cases hn:binNat op k k' a b with
     | none=>rw[hn]at hb;exact slow hb
     | some u=>
       rw[hn]at hb
       simp only[orElse,Option.some.injEq]at hb
       subst hb
       have hr:(Go.binOp op ty (.int k (a:Int)) (.int k' (b:Int))).run E.P w=.ok u w/\free u=true:=by
        unfold binNat at hn
        cases hsh:isShift op with
        | true=>rw[hsh]at hn;exact natShift_sound hn ty w
        | false=>
          rw[hsh]at hn
          simp only at hn
          split at hn
          · rename_i hk
            have:k=k':=by simpa using hk
            subst this
            exact natBin_sound hsh hn ty w
          · cases hn
       refine OpRes.val h ?_ (VR.of_free ρ _ hr.2)
       rw[hexec,h1,h2]
       exact run_v (run_bin (eqGuard_other (by simp) (by simp) w) hr.1)
   · exact slow hb
 · exact slow hb
end Ex

/- Part of the proof. -/
import Derived.OwnWalkIn
import Derived.RangeFuncCalls
import Derived.Deep.RegionHeld
import Derived.Test.YtbhnjkegkadodaaGreatDoorG00
set_option linter.all false
set_option maxRecDepth 100000
set_option maxHeartbeats 8000000
namespace Gl
open Go
section
variable {F:Fence} {n:Nat} {P:Program} {ops:Array Oper} {Q:Exit->Act->World->Prop} {S:World->Prop}
def noDefer (ops:Array Oper):Bool:=ops.toList.all fun o=>match o.op with | .defer _=>false|_=>true
theorem semAt_of (hd:noDefer ops=true) {i:Nat} {o:Oper} (hi:ops[i]?=some o) (ρ:Operand->Value):o.semAt F.round ρ=execOp ρ o:=
 Oper.semAt_plain F ρ o fun c hc=>by
  have hm:o ∈ ops.toList:=by
   rw[<-Array.getElem?_toList]at hi;exact List.mem_of_getElem? hi
  have:=List.all_eq_true.1 hd o hm;rw[hc]at this;cases this
def anyS (F:Fence) (n:Nat) (P:Program) (ops:Array Oper) (Q:Exit->Act->World->Prop) (S:World->Prop):Nat->Array Bool->Act->World->Prop
 | 0,listed,a,w=>Region.ready .any ops listed=[]/\Q .normal a w
 | fuel+1,listed,a,w=>
   (Region.ready .any ops listed=[]->Q .normal a w) /\
   ∀i ∈ Region.ready .any ops listed,wpOpIn F n P ops Q i (fun a' w'=>S w'/\anyS F n P ops Q S fuel (listed.setIfInBounds i true) a' w') a w
theorem any_of:∀(fuel:Nat) (listed:Array Bool) (a:Act) (w:World),anyS F n P ops Q S fuel listed a w->wpAnyIn F n P .any ops Q fuel listed a w
 | 0,_,_,_,h=>h
 | fuel+1,_,_,_,h=>⟨h.1,fun i hi=>wpOpIn_mono (fun a' w' h'=>any_of fuel _ a' w' h'.2) (h.2 i hi)⟩
theorem op_yields (hF:∀f,F.fn f) (hd:noDefer ops=true) {i:Nat} {o:Oper} {v:Value} {a:Act} (hi:ops[i]?=some o) (hy:YieldsIf P ops S o v a) {K:Act->World->Prop} {w:World} (hS:S w) (h:K (a.put o.dst v) w):wpOpIn F n P ops Q i K a w:=by
 unfold Go.wpOpIn;simp only[hi];rcases hy with⟨hw,hv⟩|⟨hw,rfl⟩
 · simp only[hw,if_true,Oper.wpIn,semAt_of hd hi,hv w hS,Oper.uponIn];exact⟨fun f _=>hF f,h⟩
 · simp only[hw,Bool.false_eq_true,if_false];exact⟨fun f _=>hF f,h⟩
theorem op_put (hF:∀f,F.fn f) (hd:noDefer ops=true) {j:Nat} {oi oj:Oper} {v:Value} (hj:ops[j]?=some oj) (hap:oi.apart ops oj=true)
 (hsi:∀cs b,oi.op≠.select cs b) (hsj:∀cs b,oj.op≠.select cs b)
 (hQ:∀c a w,Q (.panic c) (a.put oi.dst v) w->Q (.panic c) a w) {K:Act->World->Prop} {a:Act} {w:World}
 (hy:YieldsIf P ops S oi v a) (h:wpOpIn F n P ops Q j K (a.put oi.dst v) w):
 wpOpIn F n P ops Q j (fun a' w'=>YieldsIf P ops S oi v a'/\K (a'.put oi.dst v) w') a w:=by
 obtain⟨h1,h2,h3⟩:=Oper.apart_spec hap;have keep:∀(a:Act),YieldsIf P ops S oi v a->∀u,YieldsIf P ops S oi v (a.put oj.dst u):=fun a hy u=>
  hy.of_same (execOp_put oi hsi a oj.dst u h3) (wanted_put oi a oj.dst u h3)
 have a1:∀d,YieldsIf P ops S oi v { a with defers:=d :: a.defers }:=fun d=>hy.of_same rfl rfl;have a3:=semAt_of (F:=F) hd hj;unfold Go.wpOpIn at *
 simp only[hj]at *
 rw[wanted_put oj a oi.dst v h1]at h
 split
 · rename_i hw
   simp only[hw,if_true]at h;unfold Oper.wpIn at *
   refine⟨fun f _=>hF f,?_⟩;have h:=h.2;rw[a3,execOp_put oj hsj a oi.dst v h1]at h;rw[a3]
   generalize (execOp a.eval oj).run P w=r at *
   cases r with
   | ok x w'=>
     cases x<;>simp only[Oper.uponIn]at h ⊢
     case value u=>exact⟨keep a hy u,by rw[<-Act.put_comm a v u h2];exact h⟩
     case skip=>exact⟨keep a hy _,by rw[<-Act.put_comm a v undef h2];exact h⟩
     case defer d=>
      refine⟨keep _ (a1 d) _,?_⟩;rw[<-Act.put_comm _ v undef h2,<-Act.put_defers];exact h
     case enter f args=>
      refine⟨h.1,CallsIn.mono h.2 fun e w'' he=>?_⟩;cases e with
      | returned u=>exact⟨keep a hy u,by rw[<-Act.put_comm a v u h2];exact he⟩
      | panicked c=>exact hQ _ _ _ he
      | outgrown=>exact he
     case row row args=>exact⟨h.1,RowsIn.mono h.2 fun u w'' he=>⟨keep a hy u,by rw[<-Act.put_comm a v u h2];exact he⟩⟩
     case round l f tmps assign body=>
      refine⟨h.1,RoundIn.mono h.2 fun e w'' he=>?_⟩;cases e with
      | returned u=>exact⟨keep a hy u,by rw[<-Act.put_comm a v u h2];exact he⟩
      | panicked c=>exact hQ _ _ _ he
      | outgrown=>exact he
   | halt x w'=>
     cases x<;>simp only[Oper.uponIn]at h ⊢
     case panic u=>exact hQ _ _ _ h
 · rename_i hw
   simp only[hw]at h;exact⟨fun f _=>hF f,keep a hy _,by rw[<-Act.put_comm a v undef h2];exact h.2⟩
theorem first_S (hF:∀f,F.fn f) (hd:noDefer ops=true) {i:Nat} {oi:Oper} {v:Value} (hi:ops[i]?=some oi) (hsel:∀(j:Nat) (o:Oper) cs b,ops[j]?=some o->o.op≠.select cs b)
 (hQ:∀c a w,Q (.panic c) (a.put oi.dst v) w->Q (.panic c) a w):
 ∀(fuel:Nat) (listed:Array Bool) (a:Act) (w:World),
  (∀j oj,ops[j]?=some oj->j≠i->listed.getD j true=false → (∀e ∈ oj.after,Region.binds .any e=true->e.on≠i)->oi.apart ops oj=true) ->
  i ∈ Region.ready .any ops listed->YieldsIf P ops S oi v a->S w ->
  anyS F n P ops Q S fuel (listed.setIfInBounds i true) (a.put oi.dst v) w->anyS F n P ops Q S (fuel+1) listed a w:=by
 intro fuel
 induction fuel with
 | zero=>
   intro listed a w _ hr hy hS H;refine⟨fun h=>(by rw[h]at hr;cases hr),fun j hj=>?_⟩;by_cases hji:j=i
   · subst hji;exact op_yields hF hd hi hy hS ⟨hS,H⟩
   · have:=ready_mono hj hji;rw[H.1]at this;cases this
 | succ fuel ih=>
   intro listed a w hfree hr hy hS H;refine⟨fun h=>(by rw[h]at hr;cases hr),fun j hj=>?_⟩;by_cases hji:j=i
   · subst hji;exact op_yields hF hd hi hy hS ⟨hS,H⟩
   · have h1:=H.2 j (ready_mono hj hji);obtain⟨a2,oj,a4,a6⟩:=mem_ready.1 hj;have a5:∀e ∈ oj.after,Region.binds .any e=true->e.on≠i:=fun e he hb heq=>by
      have h1:=a6 e he hb;have h0:=(mem_ready.1 hr).1;rw[heq]at h1;rcases Nat.lt_or_ge i listed.size with h'|h'
      · simp[h']at h0 h1;rw[h0]at h1;cases h1
      · simp[Array.getElem?_eq_none h']at h1
     have h2:=op_put hF hd a4 (hfree j oj a4 hji a2 a5) (fun cs b=>hsel i oi cs b hi) (fun cs b=>hsel j oj cs b a4) hQ hy h1;have a1:∀k ok,ops[k]?=some ok->k≠i → (listed.setIfInBounds j true).getD k true=false ->
        (∀e ∈ ok.after,Region.binds .any e=true->e.on≠i)->oi.apart ops ok=true:=fun k ok hk hki hun hno=>by
      refine hfree k ok hk hki ?_ hno;by_cases hjk:j=k
      · subst hjk;exact a2
      · rw[getD_set_ne true hjk]at hun;exact hun
     refine wpOpIn_mono (fun a' w' h3=>⟨h3.2.1,ih (listed.setIfInBounds j true) a' w' a1 (ready_mono hr (Ne.symm hji)) h3.1 h3.2.1 ?_⟩) h2;rw[Array.setIfInBounds_comm _ _ hji];exact h3.2.2
theorem takeS (i:Nat) {oi:Oper} {v:Value} {fuel:Nat} {listed:Array Bool} {a:Act} {w:World} (hF:∀f,F.fn f) (hd:noDefer ops=true) (hi:ops[i]?=some oi)
 (hs:Region.noSelect ops=true) (hf:Region.free .any ops listed i=true) (hr:(Region.ready .any ops listed).contains i=true)
 (hQ:∀c a w,Q (.panic c) (a.put oi.dst v) w->Q (.panic c) a w) (hy:YieldsIf P ops S oi v a) (hS:S w)
 (h:anyS F n P ops Q S fuel (listed.setIfInBounds i true) (a.put oi.dst v) w):anyS F n P ops Q S (fuel+1) listed a w:=
 first_S hF hd hi (Region.noSelect_spec hs) hQ fuel listed a w (Region.free_spec hi hf) (by simpa using hr) hy hS h
theorem oneS (i:Nat) {fuel:Nat} {listed:Array Bool} {a:Act} {w:World} (hr:Region.ready .any ops listed=[i])
 (h:wpOpIn F n P ops Q i (fun a' w'=>S w'/\anyS F n P ops Q S fuel (listed.setIfInBounds i true) a' w') a w):anyS F n P ops Q S (fuel+1) listed a w:=
 ⟨fun h0=>(by rw[hr]at h0;cases h0),fun j hj=>by rw[hr]at hj;simp at hj;subst hj;exact h⟩
theorem callS (i:Nat) {o:Oper} {fuel:Nat} {listed:Array Bool} {a:Act} {w:World} (ho:ops[i]?=some o) (hr:Region.ready .any ops listed=[i]) (hw:Region.wanted o (yielded ops a.tmps)=true)
 (h:∀K:Act->World->Prop,(∀a' w',S w'/\anyS F n P ops Q S fuel (listed.setIfInBounds i true) a' w'->K a' w')->o.wpIn F n P a w K Q):anyS F n P ops Q S (fuel+1) listed a w:=
 oneS i hr (by
  unfold Go.wpOpIn;simp only[ho,hw,if_true];exact h _ (fun _ _ hh=>hh))
theorem doneS {listed:Array Bool} {a:Act} {w:World} (hr:Region.ready .any ops listed=[]) (h:Q .normal a w):∀fuel,anyS F n P ops Q S fuel listed a w
 | 0=>⟨hr,h⟩
 | _+1=>⟨fun _=>h,by rw[hr];simp⟩
theorem beginS {id:Nat} {a:Act} {w:World} (hm:P.follows .mixedOrders=true)
 (h:anyS F n P ops Q S ops.size (Array.replicate ops.size false) a w.drew):(Code.region id ops true).wpIn F n P Q a w:=
 wpIn_region_any hm (any_of _ _ _ _ h)
end
end Gl
namespace Gl
open Go
section
variable {P:Program} {ops:Array Oper} {Q:Exit->Act->World->Prop} {S:World->Prop} {k:Nat}
def Closed (ops:Array Oper) (listed:Array Bool):Prop:=∀(c:Nat) (o:Oper),ops[c]?=some o->listed.getD c false=true->∀e ∈ o.after,Region.binds .any e=true->listed.getD e.on false=true
theorem closed_start (ops:Array Oper) (n:Nat):Closed ops (Array.replicate n false):=fun c o _ h=>by
 exfalso
 rcases Nat.lt_or_ge c n with h'|h'
 · simp[h']at h
 · simp[h']at h
theorem Closed.set {listed:Array Bool} (h:Closed ops listed) {j:Nat} (hj:j ∈ Region.ready .any ops listed):Closed ops (listed.setIfInBounds j true):=fun c o ho hc e he hb=>by
 by_cases hcj:j=c
 · subst hcj;obtain⟨_,o',ho',hall⟩:=mem_ready.1 hj;rw[ho]at ho';cases ho';exact getD_set_true (hall e he hb)
 · rw[getD_set_ne false hcj]at hc;exact getD_set_true (h c o ho hc e he hb)
def chain (ops:Array Oper):List Nat->Bool
 | []=>true
 | a :: l=>match l with
   | []=>true
   | b :: _=>(match ops[a]? with|some o=>o.after.any (fun e=>Region.binds .any e && Nat.beq e.on b)|none=>false) && chain ops l
theorem zbj:∀ {l:List Nat} {a i:Nat} {listed:Array Bool},chain ops (a :: l)=true → (a :: l).getLast?=some i->Closed ops listed->listed.getD a false=true->listed.getD i false=true
 | [],a,i,listed,_,h,_,hl=>by simp at h;subst h;exact hl
 | b :: l,a,i,listed,hc,h,hcl,hl=>by
   simp only[chain,Bool.and_eq_true]at hc;obtain⟨h1,h2⟩:=hc;cases ho:ops[a]? with
   | none=>rw[ho]at h1;cases h1
   | some o=>
     rw[ho]at h1;simp only[Array.any_eq_true',Bool.and_eq_true]at h1;obtain⟨e,he,hb,hon⟩:=h1;have:=Nat.eq_of_beq_eq_true hon;subst this;exact zbj (l:=l) h2 (by simpa using h) hcl (hcl a o ho hl e he hb)
theorem chain_ready {l:List Nat} {i:Nat} {listed:Array Bool} (hc:chain ops (k :: l)=true) (hi:(k :: l).getLast?=some i) (hne:l≠[]) (hcl:Closed ops listed) (hr:k ∈ Region.ready .any ops listed):listed.getD i false=true:=by
 cases l with
 | nil=>exact absurd rfl hne
 | cons b l=>
   simp only[chain,Bool.and_eq_true]at hc;obtain⟨h1,h2⟩:=hc;obtain⟨_,o,ho,a1⟩:=mem_ready.1 hr;rw[ho]at h1;simp only[Array.any_eq_true',Bool.and_eq_true]at h1;obtain⟨e,he,hb,a3⟩:=h1;have:=Nat.eq_of_beq_eq_true a3;subst this;exact zbj (l:=l) h2 (by simpa using hi) hcl (a1 e he hb)
def anyK (k:Nat) (P:Program) (ops:Array Oper) (Q:Exit->Act->World->Prop) (S:World->Prop):Nat->Array Bool->Act->World->Prop
 | 0,listed,a,w=>Region.ready .any ops listed=[]/\Q .normal a w
 | fuel+1,listed,a,w=>
   (Region.ready .any ops listed=[]->Q .normal a w) /\
   ∀i ∈ Region.ready .any ops listed,wpOp P ops Q i (fun a' w'=>(i≠k->S w')/\anyK k P ops Q S fuel (listed.setIfInBounds i true) a' w') a w
theorem any_of_K:∀(fuel:Nat) (listed:Array Bool) (a:Act) (w:World),anyK k P ops Q S fuel listed a w->wpAny P .any ops Q fuel listed a w
 | 0,_,_,_,h=>h
 | fuel+1,_,_,_,h=>⟨h.1,fun i hi=>wpOp_mono (fun a' w' h'=>any_of_K fuel _ a' w' h'.2) (h.2 i hi)⟩
theorem first_K {i:Nat} {oi:Oper} {v:Value} (hi:ops[i]?=some oi) (hsel:∀(j:Nat) (o:Oper) cs b,ops[j]?=some o->o.op≠.select cs b)
 (hQ:∀c a w,Q (.panic c) (a.put oi.dst v) w->Q (.panic c) a w)
 (hk:∀listed,Closed ops listed->k ∈ Region.ready .any ops listed->listed.getD i false=true):
 ∀(fuel:Nat) (listed:Array Bool) (a:Act) (w:World),Closed ops listed ->
  (∀j oj,ops[j]?=some oj->j≠i->listed.getD j true=false → (∀e ∈ oj.after,Region.binds .any e=true->e.on≠i)->oi.apart ops oj=true) ->
  i ∈ Region.ready .any ops listed->YieldsIf P ops S oi v a->S w ->
  anyK k P ops Q S fuel (listed.setIfInBounds i true) (a.put oi.dst v) w->anyK k P ops Q S (fuel+1) listed a w:=by
 intro fuel
 induction fuel with
 | zero=>
   intro listed a w _ _ hr hy hS H;refine⟨fun h=>(by rw[h]at hr;cases hr),fun j hj=>?_⟩;by_cases hji:j=i
   · subst hji;exact hy.wpOp hi hS ⟨fun _=>hS,H⟩
   · have:=ready_mono hj hji;rw[H.1]at this;cases this
 | succ fuel ih=>
   intro listed a w hcl hfree hr hy hS H;refine⟨fun h=>(by rw[h]at hr;cases hr),fun j hj=>?_⟩;by_cases hji:j=i
   · subst hji;exact hy.wpOp hi hS ⟨fun _=>hS,H⟩
   · have h1:=H.2 j (ready_mono hj hji);obtain⟨a4,oj,a5,a8⟩:=mem_ready.1 hj;have a6:∀e ∈ oj.after,Region.binds .any e=true->e.on≠i:=fun e he hb heq=>by
      have h1:=a8 e he hb;have h0:=(mem_ready.1 hr).1;rw[heq]at h1;rcases Nat.lt_or_ge i listed.size with h'|h'
      · simp[h']at h0 h1;rw[h0]at h1;cases h1
      · simp[Array.getElem?_eq_none h']at h1
     have a2:j≠k:=fun e=>by
      subst e;have h1:=hk listed hcl hj;have h0:=(mem_ready.1 hr).1;rcases Nat.lt_or_ge i listed.size with h'|h'
      · simp[h']at h0 h1;rw[h0]at h1;cases h1
      · simp[Array.getElem?_eq_none h']at h1
     have h2:=wpOp_putIf a5 (hfree j oj a5 hji a4 a6) (fun cs b=>hsel i oi cs b hi) (fun cs b=>hsel j oj cs b a5) hQ hy h1;have a3:∀k ok,ops[k]?=some ok->k≠i → (listed.setIfInBounds j true).getD k true=false ->
        (∀e ∈ ok.after,Region.binds .any e=true->e.on≠i)->oi.apart ops ok=true:=fun k ok hk hki hun hno=>by
      refine hfree k ok hk hki ?_ hno;by_cases a2:j=k
      · subst a2;exact a4
      · rw[getD_set_ne true a2]at hun;exact hun
     refine wpOp_mono (fun a' w' h3=>⟨h3.2.1,ih (listed.setIfInBounds j true) a' w' (hcl.set hj) a3 (ready_mono hr (Ne.symm hji)) h3.1 (h3.2.1 a2) ?_⟩) h2;rw[Array.setIfInBounds_comm _ _ hji];exact h3.2.2
theorem takeK (i:Nat) (l:List Nat) {oi:Oper} {v:Value} {fuel:Nat} {listed:Array Bool} {a:Act} {w:World} (hi:ops[i]?=some oi)
 (hs:Region.noSelect ops=true) (hf:Region.free .any ops listed i=true) (hr:(Region.ready .any ops listed).contains i=true)
 (hc:(chain ops (k :: l) && (k :: l).getLast? == some i && !l.isEmpty)=true) (hcl:Closed ops listed)
 (hQ:∀c a w,Q (.panic c) (a.put oi.dst v) w->Q (.panic c) a w) (hy:YieldsIf P ops S oi v a) (hS:S w)
 (h:Closed ops (listed.setIfInBounds i true)->anyK k P ops Q S fuel (listed.setIfInBounds i true) (a.put oi.dst v) w):anyK k P ops Q S (fuel+1) listed a w:=by
 simp only[Bool.and_eq_true,beq_iff_eq,Bool.not_eq_true',List.isEmpty_eq_false_iff]at hc;have hr:i ∈ Region.ready .any ops listed:=by simpa using hr
 exact first_K hi (Region.noSelect_spec hs) hQ (fun listed hcl hk=>chain_ready hc.1.1 hc.1.2 hc.2 hcl hk) fuel listed a w hcl (Region.free_spec hi hf) hr hy hS (h (hcl.set hr))
theorem oneK (i:Nat) {o:Oper} {fuel:Nat} {listed:Array Bool} {a:Act} {w:World} (ho:ops[i]?=some o) (hr:Region.ready .any ops listed=[i]) (hcl:Closed ops listed) (hw:Region.wanted o (yielded ops a.tmps)=true)
 (h:∀K:Act->World->Prop,(∀a' w',(i≠k->S w') → (Closed ops (listed.setIfInBounds i true)->anyK k P ops Q S fuel (listed.setIfInBounds i true) a' w')->K a' w')->Oper.wp P o a w K Q):anyK k P ops Q S (fuel+1) listed a w:=
 ⟨fun h0=>(by rw[hr]at h0;cases h0),fun j hj=>by
   rw[hr]at hj;simp at hj;subst hj;unfold Go.wpOp;simp only[ho,hw,if_true];exact .inl (h _ (fun a' w' h1 h2=>⟨h1,h2 (hcl.set (by rw[hr];simp))⟩))⟩
theorem doneK {listed:Array Bool} {a:Act} {w:World} (hr:Region.ready .any ops listed=[]) (h:Q .normal a w):∀fuel,anyK k P ops Q S fuel listed a w
 | 0=>⟨hr,h⟩
 | _+1=>⟨fun _=>h,by rw[hr];simp⟩
theorem beginK (k:Nat) (S:World->Prop) {id:Nat} {a:Act} {w:World} (hm:P.follows .mixedOrders=true)
 (h:Closed ops (Array.replicate ops.size false)->anyK k P ops Q S ops.size (Array.replicate ops.size false) a w.drew):(Code.region id ops true).wp P Q a w:=
 wp_region_any hm (any_of_K _ _ _ _ (h (closed_start _ _)))
end
end Gl
namespace Gl
open Go
section
variable {F:Fence} {n:Nat} {P:Program} {ops:Array Oper} {Q:Exit->Act->World->Prop} {S:World->Prop} {k:Nat}
def anyE (k:Nat) (F:Fence) (n:Nat) (P:Program) (ops:Array Oper) (Q:Exit->Act->World->Prop) (S:World->Prop):Nat->Array Bool->Act->World->Prop
 | 0,listed,a,w=>Region.ready .any ops listed=[]/\Q .normal a w
 | fuel+1,listed,a,w=>
   (Region.ready .any ops listed=[]->Q .normal a w) /\
   ∀i ∈ Region.ready .any ops listed,wpOpIn F n P ops Q i (fun a' w'=>((listed.setIfInBounds i true).getD k false=false->S w')/\anyE k F n P ops Q S fuel (listed.setIfInBounds i true) a' w') a w
theorem any_of_E:∀(fuel:Nat) (listed:Array Bool) (a:Act) (w:World),anyE k F n P ops Q S fuel listed a w->wpAnyIn F n P .any ops Q fuel listed a w
 | 0,_,_,_,h=>h
 | fuel+1,_,_,_,h=>⟨h.1,fun i hi=>wpOpIn_mono (fun a' w' h'=>any_of_E fuel _ a' w' h'.2) (h.2 i hi)⟩
theorem not_set {listed:Array Bool} {i k:Nat} (h:(listed.setIfInBounds i true).getD k false=false):listed.getD k false=false:=by
 cases e:listed.getD k false with
 | false=>rfl
 | true=>rw[getD_set_true e]at h;cases h
theorem ready_not {listed:Array Bool} {i:Nat} (h:i ∈ Region.ready .any ops listed):listed.getD i false=false:=by
 have h0:=(mem_ready.1 h).1;rcases Nat.lt_or_ge i listed.size with h'|h'
 · simp[h']at h0 ⊢;exact h0
 · simp[h']
theorem first_E {T:World->Prop} (hF:∀f,F.fn f) (hd:noDefer ops=true) {i:Nat} {oi:Oper} {v:Value} (hi:ops[i]?=some oi) (hik:i≠k) (hsel:∀(j:Nat) (o:Oper) cs b,ops[j]?=some o->o.op≠.select cs b)
 (hQ:∀c a w,Q (.panic c) (a.put oi.dst v) w->Q (.panic c) a w)
 (hT:∀(listed:Array Bool) (w:World),Closed ops listed->listed.getD i false=false → (listed.getD k false=false->S w)->T w):
 ∀(fuel:Nat) (listed:Array Bool) (a:Act) (w:World),Closed ops listed ->
  (∀j oj,ops[j]?=some oj->j≠i->listed.getD j true=false → (∀e ∈ oj.after,Region.binds .any e=true->e.on≠i)->oi.apart ops oj=true) ->
  i ∈ Region.ready .any ops listed->YieldsIf P ops T oi v a → (listed.getD k false=false->S w) ->
  anyE k F n P ops Q S fuel (listed.setIfInBounds i true) (a.put oi.dst v) w->anyE k F n P ops Q S (fuel+1) listed a w:=by
 intro fuel
 induction fuel with
 | zero=>
   intro listed a w hcl _ hr hy hS H;refine⟨fun h=>(by rw[h]at hr;cases hr),fun j hj=>?_⟩;by_cases hji:j=i
   · subst hji;exact op_yields hF hd hi hy (hT listed w hcl (ready_not hr) hS) ⟨fun h=>hS (not_set h),H⟩
   · have:=ready_mono hj hji;rw[H.1]at this;cases this
 | succ fuel ih=>
   intro listed a w hcl hfree hr hy hS H;refine⟨fun h=>(by rw[h]at hr;cases hr),fun j hj=>?_⟩;by_cases hji:j=i
   · subst hji;exact op_yields hF hd hi hy (hT listed w hcl (ready_not hr) hS) ⟨fun h=>hS (not_set h),H⟩
   · have h1:=H.2 j (ready_mono hj hji);obtain⟨a2,oj,a4,a7⟩:=mem_ready.1 hj;have h0:=(mem_ready.1 hr).1;have a5:∀e ∈ oj.after,Region.binds .any e=true->e.on≠i:=fun e he hb heq=>by
      have h1:=a7 e he hb;rw[heq]at h1;rcases Nat.lt_or_ge i listed.size with h'|h'
      · simp[h']at h0 h1;rw[h0]at h1;cases h1
      · simp[Array.getElem?_eq_none h']at h1
     have h2:=op_put hF hd a4 (hfree j oj a4 hji a2 a5) (fun cs b=>hsel i oi cs b hi) (fun cs b=>hsel j oj cs b a4) hQ hy h1;have a1:∀k ok,ops[k]?=some ok->k≠i → (listed.setIfInBounds j true).getD k true=false ->
        (∀e ∈ ok.after,Region.binds .any e=true->e.on≠i)->oi.apart ops ok=true:=fun k ok hk hki hun hno=>by
      refine hfree k ok hk hki ?_ hno;by_cases hjk:j=k
      · subst hjk;exact a2
      · rw[getD_set_ne true hjk]at hun;exact hun
     refine wpOpIn_mono (fun a' w' h3=>?_) h2;have a6:(listed.setIfInBounds j true).getD k false=false->S w':=fun h=>
      h3.2.1 (by rw[Array.setIfInBounds_comm _ _ (Ne.symm hji),getD_set_ne false hik];exact h)
     refine⟨a6,ih (listed.setIfInBounds j true) a' w' (hcl.set hj) a1 (ready_mono hr (Ne.symm hji)) h3.1 a6 ?_⟩;rw[Array.setIfInBounds_comm _ _ hji];exact h3.2.2
theorem takeE (i:Nat) (l:List Nat) {oi:Oper} {v:Value} {fuel:Nat} {listed:Array Bool} {a:Act} {w:World} (hF:∀f,F.fn f) (hd:noDefer ops=true) (hi:ops[i]?=some oi) (hik:i≠k)
 (hs:Region.noSelect ops=true) (hf:Region.free .any ops listed i=true) (hr:(Region.ready .any ops listed).contains i=true)
 (hc:(chain ops (k :: l) && (k :: l).getLast? == some i && !l.isEmpty)=true) (hcl:Closed ops listed)
 (hQ:∀c a w,Q (.panic c) (a.put oi.dst v) w->Q (.panic c) a w) (hy:YieldsIf P ops S oi v a) (hS:S w)
 (h:Closed ops (listed.setIfInBounds i true)->anyE k F n P ops Q S fuel (listed.setIfInBounds i true) (a.put oi.dst v) w):anyE k F n P ops Q S (fuel+1) listed a w:=by
 simp only[Bool.and_eq_true,beq_iff_eq,Bool.not_eq_true',List.isEmpty_eq_false_iff]at hc;have hr:i ∈ Region.ready .any ops listed:=by simpa using hr
 refine first_E hF hd hi hik (Region.noSelect_spec hs) hQ (T:=S) (fun listed w hcl hi h=>h ?_) fuel listed a w hcl (Region.free_spec hi hf) hr hy (fun _=>hS) (h (hcl.set hr));cases e:listed.getD k false with
 | false=>rfl
 | true=>rw[zbj hc.1.1 hc.1.2 hcl e]at hi;cases hi
theorem pureE (i:Nat) {oi:Oper} {v:Value} {fuel:Nat} {listed:Array Bool} {a:Act} {w:World} (hF:∀f,F.fn f) (hd:noDefer ops=true) (hi:ops[i]?=some oi) (hik:i≠k)
 (hs:Region.noSelect ops=true) (hf:Region.free .any ops listed i=true) (hr:(Region.ready .any ops listed).contains i=true) (hcl:Closed ops listed)
 (hQ:∀c a w,Q (.panic c) (a.put oi.dst v) w->Q (.panic c) a w) (hy:YieldsIf P ops (fun _=>True) oi v a) (hS:S w)
 (h:Closed ops (listed.setIfInBounds i true)->anyE k F n P ops Q S fuel (listed.setIfInBounds i true) (a.put oi.dst v) w):anyE k F n P ops Q S (fuel+1) listed a w:=by
 have hr:i ∈ Region.ready .any ops listed:=by simpa using hr
 exact first_E hF hd hi hik (Region.noSelect_spec hs) hQ (T:=fun _=>True) (fun _ _ _ _ _=>trivial) fuel listed a w hcl (Region.free_spec hi hf) hr hy (fun _=>hS) (h (hcl.set hr))
theorem oneE (i:Nat) {o:Oper} {fuel:Nat} {listed:Array Bool} {a:Act} {w:World} (ho:ops[i]?=some o) (hr:Region.ready .any ops listed=[i]) (hcl:Closed ops listed) (hw:Region.wanted o (yielded ops a.tmps)=true)
 (h:∀K:Act->World->Prop,(∀a' w',((listed.setIfInBounds i true).getD k false=false->S w') → (Closed ops (listed.setIfInBounds i true)->anyE k F n P ops Q S fuel (listed.setIfInBounds i true) a' w')->K a' w')->o.wpIn F n P a w K Q):anyE k F n P ops Q S (fuel+1) listed a w:=
 ⟨fun h0=>(by rw[hr]at h0;cases h0),fun j hj=>by
   rw[hr]at hj;simp at hj;subst hj;unfold Go.wpOpIn;simp only[ho,hw,if_true];exact h _ (fun a' w' h1 h2=>⟨h1,h2 (hcl.set (by rw[hr];simp))⟩)⟩
theorem doneE {listed:Array Bool} {a:Act} {w:World} (hr:Region.ready .any ops listed=[]) (h:Q .normal a w):∀fuel,anyE k F n P ops Q S fuel listed a w
 | 0=>⟨hr,h⟩
 | _+1=>⟨fun _=>h,by rw[hr];simp⟩
theorem beginE (k:Nat) (S:World->Prop) {id:Nat} {a:Act} {w:World} (hm:P.follows .mixedOrders=true)
 (h:Closed ops (Array.replicate ops.size false)->anyE k F n P ops Q S ops.size (Array.replicate ops.size false) a w.drew):(Code.region id ops true).wpIn F n P Q a w:=
 wpIn_region_any hm (any_of_E _ _ _ _ (h (closed_start _ _)))
end
end Gl
namespace Gl
open Go
section
variable {P:Program} {ops:Array Oper} {Q:Exit->Act->World->Prop} {S:World->Prop} {k:Nat}
def anyM (k:Nat) (P:Program) (ops:Array Oper) (Q:Exit->Act->World->Prop) (S:World->Prop):Nat->Array Bool->Act->World->Prop
 | 0,listed,a,w=>Region.ready .any ops listed=[]/\Q .normal a w
 | fuel+1,listed,a,w=>
   (Region.ready .any ops listed=[]->Q .normal a w) /\
   ∀i ∈ Region.ready .any ops listed,wpOp P ops Q i (fun a' w'=>((listed.setIfInBounds i true).getD k false=false->S w')/\anyM k P ops Q S fuel (listed.setIfInBounds i true) a' w') a w
theorem any_of_M:∀(fuel:Nat) (listed:Array Bool) (a:Act) (w:World),anyM k P ops Q S fuel listed a w->wpAny P .any ops Q fuel listed a w
 | 0,_,_,_,h=>h
 | fuel+1,_,_,_,h=>⟨h.1,fun i hi=>wpOp_mono (fun a' w' h'=>any_of_M fuel _ a' w' h'.2) (h.2 i hi)⟩
theorem not_setM {listed:Array Bool} {i k:Nat} (h:(listed.setIfInBounds i true).getD k false=false):listed.getD k false=false:=by
 cases e:listed.getD k false with
 | false=>rfl
 | true=>rw[getD_set_true e]at h;cases h
theorem ready_notM {listed:Array Bool} {i:Nat} (h:i ∈ Region.ready .any ops listed):listed.getD i false=false:=by
 have h0:=(mem_ready.1 h).1;rcases Nat.lt_or_ge i listed.size with h'|h'
 · simp[h']at h0 ⊢;exact h0
 · simp[h']
theorem first_M {T:World->Prop} {i:Nat} {oi:Oper} {v:Value} (hi:ops[i]?=some oi) (hik:i≠k) (hsel:∀(j:Nat) (o:Oper) cs b,ops[j]?=some o->o.op≠.select cs b)
 (hQ:∀c a w,Q (.panic c) (a.put oi.dst v) w->Q (.panic c) a w)
 (hT:∀(listed:Array Bool) (w:World),Closed ops listed->listed.getD i false=false → (listed.getD k false=false->S w)->T w):
 ∀(fuel:Nat) (listed:Array Bool) (a:Act) (w:World),Closed ops listed ->
  (∀j oj,ops[j]?=some oj->j≠i->listed.getD j true=false → (∀e ∈ oj.after,Region.binds .any e=true->e.on≠i)->oi.apart ops oj=true) ->
  i ∈ Region.ready .any ops listed->YieldsIf P ops T oi v a → (listed.getD k false=false->S w) ->
  anyM k P ops Q S fuel (listed.setIfInBounds i true) (a.put oi.dst v) w->anyM k P ops Q S (fuel+1) listed a w:=by
 intro fuel
 induction fuel with
 | zero=>
   intro listed a w hcl _ hr hy hS H;refine⟨fun h=>(by rw[h]at hr;cases hr),fun j hj=>?_⟩;by_cases hji:j=i
   · subst hji;exact hy.wpOp hi (hT listed w hcl (ready_notM hr) hS) ⟨fun h=>hS (not_setM h),H⟩
   · have:=ready_mono hj hji;rw[H.1]at this;cases this
 | succ fuel ih=>
   intro listed a w hcl hfree hr hy hS H;refine⟨fun h=>(by rw[h]at hr;cases hr),fun j hj=>?_⟩;by_cases hji:j=i
   · subst hji;exact hy.wpOp hi (hT listed w hcl (ready_notM hr) hS) ⟨fun h=>hS (not_setM h),H⟩
   · have h1:=H.2 j (ready_mono hj hji);obtain⟨a2,oj,a4,a7⟩:=mem_ready.1 hj;have h0:=(mem_ready.1 hr).1;have a5:∀e ∈ oj.after,Region.binds .any e=true->e.on≠i:=fun e he hb heq=>by
      have h1:=a7 e he hb;rw[heq]at h1;rcases Nat.lt_or_ge i listed.size with h'|h'
      · simp[h']at h0 h1;rw[h0]at h1;cases h1
      · simp[Array.getElem?_eq_none h']at h1
     have h2:=wpOp_putIf a4 (hfree j oj a4 hji a2 a5) (fun cs b=>hsel i oi cs b hi) (fun cs b=>hsel j oj cs b a4) hQ hy h1;have a1:∀k ok,ops[k]?=some ok->k≠i → (listed.setIfInBounds j true).getD k true=false ->
        (∀e ∈ ok.after,Region.binds .any e=true->e.on≠i)->oi.apart ops ok=true:=fun k ok hk hki hun hno=>by
      refine hfree k ok hk hki ?_ hno;by_cases hjk:j=k
      · subst hjk;exact a2
      · rw[getD_set_ne true hjk]at hun;exact hun
     refine wpOp_mono (fun a' w' h3=>?_) h2;have a6:(listed.setIfInBounds j true).getD k false=false->S w':=fun h=>
      h3.2.1 (by rw[Array.setIfInBounds_comm _ _ (Ne.symm hji),getD_set_ne false hik];exact h)
     refine⟨a6,ih (listed.setIfInBounds j true) a' w' (hcl.set hj) a1 (ready_mono hr (Ne.symm hji)) h3.1 a6 ?_⟩;rw[Array.setIfInBounds_comm _ _ hji];exact h3.2.2
def okM (ops:Array Oper) (k:Nat) (st:Bool):List Nat->Array Bool->Bool
 | [],_=>true
 | i :: l,b=>Region.free .any ops b i && (Region.ready .any ops b).contains i && !(Nat.beq i k) && (!st || match ops[k]? with|some o=>o.after.any (fun e=>Region.binds .any e && Nat.beq e.on i)|none=>false) && okM ops k st l (b.setIfInBounds i true)
def markM:List Nat->Array Bool->Array Bool
 | [],b=>b
 | i :: l,b=>markM l (b.setIfInBounds i true)
def RunsM (P:Program) (ops:Array Oper) (w:World) (b:Act):List (Nat × Value)->Act->Prop
 | [],a=>a=b
 | x :: l,a=>match ops[x.1]? with
   | some o=>(Region.wanted o (yielded ops a.tmps)=true/\(execOp a.eval o).run P w=.ok (.value x.2) w)/\RunsM P ops w b l (a.put o.dst x.2)
   | none=>False
theorem zbm {o:Oper} {a:Act} {w:World} {ty:TypeId} {x:Operand} {v u:Value} (ho:o.op=.load ty x) (hx:a.eval x=v) (h:(Instr.loadAt ty v).run P w=.ok u w):(execOp a.eval o).run P w=.ok (.value u) w:=by
 unfold execOp;simp only[ho,hx,Sem.run_bind,h,Result.andThen_ok,Sem.run_pure]
theorem RunsM.cons {w:World} {b:Act} {x:Nat × Value} {l:List (Nat × Value)} {a:Act} {o:Oper} (ho:ops[x.1]?=some o) (hw:Region.wanted o (yielded ops a.tmps)=true) (hr:(execOp a.eval o).run P w=.ok (.value x.2) w) (h:RunsM P ops w b l (a.put o.dst x.2)):RunsM P ops w b (x :: l) a:=by
 simp only[RunsM,ho];exact⟨⟨hw,hr⟩,h⟩
theorem takeM_ (st:Bool) {b:Act}:∀(l:List (Nat × Value)) {fuel m:Nat} {listed:Array Bool} {a:Act} {w:World},Region.noSelect ops=true->okM ops k st (l.map (·.1)) listed=true->fuel+l.length=m->Closed ops listed ->
 (∀c (a:Act) d v w,Q (.panic c) (a.put d v) w->Q (.panic c) a w) → (∀w',(st=true->S w')->RunsM P ops w' b l a) → (listed.getD k false=false->S w) → (st=true->S w) ->
 (Closed ops (markM (l.map (·.1)) listed)->anyM k P ops Q S fuel (markM (l.map (·.1)) listed) b w)->anyM k P ops Q S m listed a w
 | [],fuel,m,listed,a,w,_,_,hm,hcl,_,hy,_,hSt,h=>by
   obtain rfl:fuel=m:=hm;obtain rfl:a=b:=hy w hSt;exact h hcl
 | (i,v) :: l,fuel,m,listed,a,w,hs,hok,hm,hcl,hQ,hy,hS,hSt,h=>by
   simp only[List.map_cons,okM,Bool.and_eq_true]at hok;obtain⟨⟨⟨⟨h1,h2⟩,h3⟩,h4⟩,h5⟩:=hok;have hik:i≠k:=fun e=>by subst e;simp at h3
   have hw:=hy w hSt;simp only[RunsM]at hw;obtain⟨oi,hoi⟩:∃oi,ops[i]?=some oi:=by
    cases ho:ops[i]? with
    | none=>rw[ho]at hw;exact hw.elim
    | some o=>exact⟨o,rfl⟩
   have a1:∀w',(st=true->S w') → (Region.wanted oi (yielded ops a.tmps)=true/\(execOp a.eval oi).run P w'=.ok (.value v) w')/\RunsM P ops w' b l (a.put oi.dst v):=fun w' hw'=>by
    have:=hy w' hw';simp only[RunsM,hoi]at this;exact this
   obtain rfl:(fuel+l.length)+1=m:=by rw[<-hm,List.length_cons];omega
   have hr:i ∈ Region.ready .any ops listed:=by simpa using h2
   refine first_M (T:=fun w'=>st=true->S w') hoi hik (Region.noSelect_spec hs) (fun c a' w' hq=>hQ c _ _ _ _ hq) (fun listed w hcl hi hw hst=>hw ?_) _ listed a w hcl (Region.free_spec hoi h1) hr (.inl ⟨(a1 w hSt).1.1,fun w' hw'=>(a1 w' hw').1.2⟩) hS ?_
   · have a3:chain ops [k,i]=true:=by
      rw[hst]at h4;simp only[chain,Bool.and_true];cases hk:ops[k]? with
      | none=>rw[hk]at h4;cases h4
      | some o=>rw[hk]at h4;simpa using h4
     cases e:listed.getD k false with
     | false=>rfl
     | true=>
       have hh:=zbj (i:=i) a3 (by simp) hcl e;rw[hi]at hh;cases hh
   · exact takeM_ st l hs h5 rfl (hcl.set hr) hQ (fun w' hw'=>(a1 w' hw').2) (fun hh=>hS (not_setM hh)) hSt h
theorem takeM (l:List (Nat × Value)) {b:Act} {fuel m:Nat} {listed:Array Bool} {a:Act} {w:World} (hs:Region.noSelect ops=true) (hok:okM ops k true (l.map (·.1)) listed=true) (hm:fuel+l.length=m) (hcl:Closed ops listed)
 (hQ:∀c (a:Act) d v w,Q (.panic c) (a.put d v) w->Q (.panic c) a w) (hS:S w) (hy:∀w',S w'->RunsM P ops w' b l a)
 (h:Closed ops (markM (l.map (·.1)) listed)->anyM k P ops Q S fuel (markM (l.map (·.1)) listed) b w):anyM k P ops Q S m listed a w:=
 takeM_ true l hs hok hm hcl hQ (fun w' hw=>hy w' (hw rfl)) (fun _=>hS) (fun _=>hS) h
theorem pureM (l:List (Nat × Value)) {b:Act} {fuel m:Nat} {listed:Array Bool} {a:Act} {w:World} (hs:Region.noSelect ops=true) (hok:okM ops k false (l.map (·.1)) listed=true) (hm:fuel+l.length=m) (hcl:Closed ops listed)
 (hQ:∀c (a:Act) d v w,Q (.panic c) (a.put d v) w->Q (.panic c) a w) (hS:listed.getD k false=false->S w) (hy:∀w',RunsM P ops w' b l a)
 (h:Closed ops (markM (l.map (·.1)) listed)->anyM k P ops Q S fuel (markM (l.map (·.1)) listed) b w):anyM k P ops Q S m listed a w:=
 takeM_ false l hs hok hm hcl hQ (fun w' _=>hy w') hS (fun h=>by cases h) h
theorem oneM (i:Nat) {o:Oper} {fuel:Nat} {listed:Array Bool} {a:Act} {w:World} (ho:ops[i]?=some o) (hr:Region.ready .any ops listed=[i]) (hcl:Closed ops listed) (hw:Region.wanted o (yielded ops a.tmps)=true)
 (h:∀K:Act->World->Prop,(∀a' w',((listed.setIfInBounds i true).getD k false=false->S w') → (Closed ops (listed.setIfInBounds i true)->anyM k P ops Q S fuel (listed.setIfInBounds i true) a' w')->K a' w')->Oper.wp P o a w K Q):anyM k P ops Q S (fuel+1) listed a w:=
 ⟨fun h0=>(by rw[hr]at h0;cases h0),fun j hj=>by
   rw[hr]at hj;simp at hj;subst hj;unfold Go.wpOp;simp only[ho,hw,if_true];exact .inl (h _ (fun a' w' h1 h2=>⟨h1,h2 (hcl.set (by rw[hr];simp))⟩))⟩
theorem twoM (i j:Nat) {oi oj:Oper} {fuel:Nat} {listed:Array Bool} {a:Act} {w:World} (hoi:ops[i]?=some oi) (hoj:ops[j]?=some oj) (hr:Region.ready .any ops listed=[i,j]) (hcl:Closed ops listed) (hwi:Region.wanted oi (yielded ops a.tmps)=true) (hwj:Region.wanted oj (yielded ops a.tmps)=true)
 (h1:∀K:Act->World->Prop,(∀a' w',((listed.setIfInBounds i true).getD k false=false->S w') → (Closed ops (listed.setIfInBounds i true)->anyM k P ops Q S fuel (listed.setIfInBounds i true) a' w')->K a' w')->Oper.wp P oi a w K Q)
 (h2:∀K:Act->World->Prop,(∀a' w',((listed.setIfInBounds j true).getD k false=false->S w') → (Closed ops (listed.setIfInBounds j true)->anyM k P ops Q S fuel (listed.setIfInBounds j true) a' w')->K a' w')->Oper.wp P oj a w K Q):anyM k P ops Q S (fuel+1) listed a w:=
 ⟨fun h0=>(by rw[hr]at h0;cases h0),fun x hx=>by
   rw[hr]at hx;simp at hx;rcases hx with rfl|rfl
   · unfold Go.wpOp;simp only[hoi,hwi,if_true];exact .inl (h1 _ (fun a' w' h1 h2=>⟨h1,h2 (hcl.set (by rw[hr];simp))⟩))
   · unfold Go.wpOp;simp only[hoj,hwj,if_true];exact .inl (h2 _ (fun a' w' h1 h2=>⟨h1,h2 (hcl.set (by rw[hr];simp))⟩))⟩
theorem doneM {listed:Array Bool} {a:Act} {w:World} (hr:Region.ready .any ops listed=[]) (h:Q .normal a w):∀fuel,anyM k P ops Q S fuel listed a w
 | 0=>⟨hr,h⟩
 | _+1=>⟨fun _=>h,by rw[hr];simp⟩
theorem beginM (k:Nat) (S:World->Prop) {id:Nat} {a:Act} {w:World} (hm:P.follows .mixedOrders=true)
 (h:Closed ops (Array.replicate ops.size false)->anyM k P ops Q S ops.size (Array.replicate ops.size false) a w.drew):(Code.region id ops true).wp P Q a w:=
 wp_region_any hm (any_of_M _ _ _ _ (h (closed_start _ _)))
theorem takeC (i:Nat) (l:List Nat) {v:Value} {oi:Oper} {fuel:Nat} {listed:Array Bool} {a:Act} {w:World} (hi:ops[i]?=some oi) (hs:Region.noSelect ops=true) (hf:Region.free .any ops listed i=true) (hr:(Region.ready .any ops listed).contains i=true)
 (hc:(chain ops (k :: l) && (k :: l).getLast? == some i && !(Nat.beq i k))=true) (hcl:Closed ops listed)
 (hQ:∀c (a:Act) d v w,Q (.panic c) (a.put d v) w->Q (.panic c) a w) (hS:listed.getD k false=false->S w) (hw:Region.wanted oi (yielded ops a.tmps)=true)
 (hy:∀w',S w' → (execOp a.eval oi).run P w'=.ok (.value v) w')
 (h:Closed ops (listed.setIfInBounds i true)->anyM k P ops Q S fuel (listed.setIfInBounds i true) (a.put oi.dst v) w):anyM k P ops Q S (fuel+1) listed a w:=by
 simp only[Bool.and_eq_true,beq_iff_eq]at hc;obtain⟨⟨a2,a3⟩,a4⟩:=hc;have a1:i≠k:=fun e=>by subst e;simp at a4
 have hr:i ∈ Region.ready .any ops listed:=by simpa using hr
 exact first_M (T:=S) hi a1 (Region.noSelect_spec hs) (fun c a' w' hq=>hQ c _ _ _ _ hq) (fun listed w hcl hun hst=>hst (by
  cases e:listed.getD k false with
  | false=>rfl
  | true=>
    have hh:=zbj (i:=i) a2 a3 hcl e;rw[hun]at hh;cases hh)) fuel listed a w hcl (Region.free_spec hi hf) hr (.inl ⟨hw,hy⟩) hS (h (hcl.set hr))
theorem gA (l:List Value) (i:Nat) (a:Value):l.toArray.setIfInBounds i a=(l.set i a).toArray:=List.setIfInBounds_toArray l i a
theorem gB (x:Value) (l:List Value) (a:Value):(x :: l).set 0 a=a :: l:=rfl
theorem gC (x:Value) (l:List Value) (n:Nat) (a:Value):(x :: l).set (n+1) a=x :: l.set n a:=rfl
theorem offM {b:Bool} {p:Prop} (h:b=true):b=false->p:=fun hc=>absurd (h.symm.trans hc) Bool.noConfusion
theorem kp2 {w w':World} {b c:Nat} {o o':Obj} (hb:∀i,i<w.heap.size->w'.heap[i]?=w.heap[i]?) (h:w.heap[b]?=some o/\w.heap[c]?=some o'):w'.heap[b]?=some o/\w'.heap[c]?=some o':=
 ⟨(hb b (zqA.1 h.1).1).trans h.1,(hb c (zqA.1 h.2).1).trans h.2⟩
theorem pureP (l:List (Nat × Value)) {b:Act} {fuel m:Nat} {listed:Array Bool} {a:Act} {w:World} (hcl:Closed ops listed) (hS:S w) (hy:∀w',RunsM P ops w' b l a)
 (h:Closed ops (markM (l.map (·.1)) listed)->anyM k P ops Q S fuel (markM (l.map (·.1)) listed) b w)
 (hs:Region.noSelect ops=true:=by kernel_rfl) (hok:okM ops k false (l.map (·.1)) listed=true:=by kernel_rfl) (hm:fuel+l.length=m:=by rfl)
 (hQ:∀c (a:Act) d v w,Q (.panic c) (a.put d v) w->Q (.panic c) a w:=by intro _ _ d _ _ h;cases d<;>exact h):anyM k P ops Q S m listed a w:=
 pureM l hs hok hm hcl hQ (fun _=>hS) hy h
theorem pureQ (l:List (Nat × Value)) {b:Act} {fuel m:Nat} {listed:Array Bool} {a:Act} {w:World} (hcl:Closed ops listed) (hy:∀w',RunsM P ops w' b l a)
 (h:Closed ops (markM (l.map (·.1)) listed)->anyM k P ops Q S fuel (markM (l.map (·.1)) listed) b w)
 (hk:listed.getD k false=true:=by kernel_rfl)
 (hs:Region.noSelect ops=true:=by kernel_rfl) (hok:okM ops k false (l.map (·.1)) listed=true:=by kernel_rfl) (hm:fuel+l.length=m:=by rfl)
 (hQ:∀c (a:Act) d v w,Q (.panic c) (a.put d v) w->Q (.panic c) a w:=by intro _ _ d _ _ h;cases d<;>exact h):anyM k P ops Q S m listed a w:=
 pureM l hs hok hm hcl hQ (offM hk) hy h
theorem takeP (l:List (Nat × Value)) {b:Act} {fuel m:Nat} {listed:Array Bool} {a:Act} {w:World} (hcl:Closed ops listed) (hS:S w) (hy:∀w',S w'->RunsM P ops w' b l a)
 (h:Closed ops (markM (l.map (·.1)) listed)->anyM k P ops Q S fuel (markM (l.map (·.1)) listed) b w)
 (hs:Region.noSelect ops=true:=by kernel_rfl) (hok:okM ops k true (l.map (·.1)) listed=true:=by kernel_rfl) (hm:fuel+l.length=m:=by rfl)
 (hQ:∀c (a:Act) d v w,Q (.panic c) (a.put d v) w->Q (.panic c) a w:=by intro _ _ d _ _ h;cases d<;>exact h):anyM k P ops Q S m listed a w:=
 takeM l hs hok hm hcl hQ hS hy h
theorem takeD (i:Nat) (l:List Nat) {v:Value} {oi:Oper} {fuel:Nat} {listed:Array Bool} {a:Act} {w:World} (hi:ops[i]?=some oi) (hcl:Closed ops listed) (hS:S w) (hy:∀w',S w' → (execOp a.eval oi).run P w'=.ok (.value v) w')
 (h:Closed ops (listed.setIfInBounds i true)->anyM k P ops Q S fuel (listed.setIfInBounds i true) (a.put oi.dst v) w)
 (hs:Region.noSelect ops=true:=by kernel_rfl) (hf:Region.free .any ops listed i=true:=by kernel_rfl) (hr:(Region.ready .any ops listed).contains i=true:=by kernel_rfl)
 (hc:(chain ops (k :: l) && (k :: l).getLast? == some i && !(Nat.beq i k))=true:=by kernel_rfl)
 (hQ:∀c (a:Act) d v w,Q (.panic c) (a.put d v) w->Q (.panic c) a w:=by intro _ _ d _ _ h;cases d<;>exact h) (hw:Region.wanted oi (yielded ops a.tmps)=true:=by rfl):anyM k P ops Q S (fuel+1) listed a w:=
 takeC i l hi hs hf hr hc hcl hQ (fun _=>hS) hw hy h
theorem oneP (i:Nat) {o:Oper} {fuel:Nat} {listed:Array Bool} {a:Act} {w:World} (ho:ops[i]?=some o) (hcl:Closed ops listed)
 (h:∀K:Act->World->Prop,(∀a' w',((listed.setIfInBounds i true).getD k false=false->S w') → (Closed ops (listed.setIfInBounds i true)->anyM k P ops Q S fuel (listed.setIfInBounds i true) a' w')->K a' w')->Oper.wp P o a w K Q)
 (hr:Region.ready .any ops listed=[i]:=by kernel_rfl) (hw:Region.wanted o (yielded ops a.tmps)=true:=by rfl):anyM k P ops Q S (fuel+1) listed a w:=
 oneM i ho hr hcl hw h
theorem twoK (i j:Nat) {oi oj:Oper} {fuel:Nat} {listed:Array Bool} {a:Act} {w:World} (hoi:ops[i]?=some oi) (hoj:ops[j]?=some oj) (hr:Region.ready .any ops listed=[i,j]) (hcl:Closed ops listed) (hwi:Region.wanted oi (yielded ops a.tmps)=true) (hwj:Region.wanted oj (yielded ops a.tmps)=true)
 (h1:∀K:Act->World->Prop,(∀a' w',(i≠k->S w') → (Closed ops (listed.setIfInBounds i true)->anyK k P ops Q S fuel (listed.setIfInBounds i true) a' w')->K a' w')->Oper.wp P oi a w K Q)
 (h2:∀K:Act->World->Prop,(∀a' w',(j≠k->S w') → (Closed ops (listed.setIfInBounds j true)->anyK k P ops Q S fuel (listed.setIfInBounds j true) a' w')->K a' w')->Oper.wp P oj a w K Q):anyK k P ops Q S (fuel+1) listed a w:=
 ⟨fun h0=>(by rw[hr]at h0;cases h0),fun x hx=>by
   rw[hr]at hx;simp at hx;rcases hx with rfl|rfl
   · unfold Go.wpOp;simp only[hoi,hwi,if_true];exact .inl (h1 _ (fun a' w' h1 h2=>⟨h1,h2 (hcl.set (by rw[hr];simp))⟩))
   · unfold Go.wpOp;simp only[hoj,hwj,if_true];exact .inl (h2 _ (fun a' w' h1 h2=>⟨h1,h2 (hcl.set (by rw[hr];simp))⟩))⟩
end
end Gl

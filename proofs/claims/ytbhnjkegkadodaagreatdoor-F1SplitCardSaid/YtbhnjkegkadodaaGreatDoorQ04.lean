/- A part of the proof of the statement of this seat: no condition. -/
import Derived.OrdersHeld
import Derived.OrdersIn
import Derived.OwnWalkIn
import Derived.RangeFuncCalls
import Derived.Test.YtbhnjkegkadodaaGreatDoorQ03
import Derived.Test.YtbhnjkegkadodaaGreatDoorKP02
import Derived.Test.YtbhnjkegkadodaaGreatDoorQ01
set_option linter.unusedVariables false
set_option linter.unusedSimpArgs false
set_option maxRecDepth 100000
set_option maxHeartbeats 8000000
namespace Go.Proofs.YtbhnjkegkadodaaGreatDoor
open Go Go.RowKit Go.Proofs Gl Go.Shelf
attribute [local go_sem] Oper.semAt_some
def Copies (e:Ent) (W0 W1:World) (vals:Array Value):Prop:=∃A1 n1 c1 A2 n2 c2,vals=#[.slice A1 n1 c1,.slice A2 n2 c2]/\BV (fun b=>W0.heap.size<=b) W1 (.slice A1 n1 c1) e.1/\BV (fun b=>W0.heap.size<=b) W1 (.slice A2 n2 c2) e.2
structure Wlk (base bm n c b1 b2 b3:Nat) (D:Nat->Prop) (A:Option Addr) (vs:List Value) (ps:List (List Ent)) (css:List (List Value)) (W:World):Prop where
 map:MapC 182 251 base W bm D A n c vs ps css
 box1:W.cell? ⟨b1,0,none⟩=some (.pointer (some ⟨bm,0,none⟩))
 box2:W.cell? ⟨b2,0,none⟩=some (.slice none 0 0)
 box3:W.cell? ⟨b3,0,none⟩=some (.slice none 0 0)
theorem Wlk.upd {base bm n c b1 b2 b3:Nat} {D T:Nat->Prop} {A:Option Addr} {vs:List Value} {ps:List (List Ent)} {css:List (List Value)} {W W':World} (h:Wlk base bm n c b1 b2 b3 D A vs ps css W) (hu:Upd T W W') (hf:∀b,foot bm D A n c vs b->¬T b) (h1:¬T b1) (h2:¬T b2) (h3:¬T b3):Wlk base bm n c b1 b2 b3 D A vs ps css W':=
 ⟨h.map.upd hu hf,(hu.cell (a:=⟨b1,0,none⟩) (World.block_lt_of_cell? W _ h.box1) h1).trans h.box1,(hu.cell (a:=⟨b2,0,none⟩) (World.block_lt_of_cell? W _ h.box2) h2).trans h.box2,(hu.cell (a:=⟨b3,0,none⟩) (World.block_lt_of_cell? W _ h.box3) h3).trans h.box3⟩
theorem enters_of' (f:FuncId) {fn:Func} (hf:Tryz.prog.funcs[f]?=some fn) (hn:(fn.name == "runtime.NumGoroutine")=false) (hb:fn.body.isNone=false) (args:Array Value) (w:World):(callFunc f args).run Tryz.prog w=.ok (.enter f args) w:=by
 have h1:fn.name ≠ "runtime.NumGoroutine":=by simpa using hn
 have h2:fn.body≠none:=fun e=>by rw[e]at hb;cases hb
 simp[callFunc,hf,h1,h2]
end Go.Proofs.YtbhnjkegkadodaaGreatDoor
namespace Go.Proofs.YtbhnjkegkadodaaGreatDoor
open Go Go.RowKit Go.Proofs Gl Go.Shelf
theorem add_c {w:World} {b o:Nat} {cs:Array Value} {t:TypeId} {k:Int} (h:w.heap[b]?=some (.cells cs t (0,0))) (hk:cs[o]?=some (.int .i64 k)):
 Calls Tryz.prog 132 #[.pointer (some ⟨b,o,none⟩),.int .i64 1] w fun e w'=>(∃v,e=.returned v)/\w'=w.setCell ⟨b,o,none⟩ (.int .i64 (IntKind.i64.wrap (k+1))):=by
 have hc:=cell_of h o _ hk
 have hf:=frozen_of h o
 have hr:(Extern.Atomic.update (Op.intArith .add) .i64 true #[.pointer (some ⟨b,o,none⟩),.int .i64 1]).run Tryz.prog w=.ok (.int .i64 (IntKind.i64.wrap (k+1))) (w.setCell ⟨b,o,none⟩ (.int .i64 (IntKind.i64.wrap (k+1)))):=by
  have hld:∀m,(load ⟨b,o,none⟩ m).run Tryz.prog w=.ok (.int .i64 k) w:=fun m=>by rw[run_load];simp[hc]
  have hst:∀m x,(store ⟨b,o,none⟩ (.int .i64 x) m).run Tryz.prog w=.ok () (w.setCell ⟨b,o,none⟩ (.int .i64 x)):=fun m x=>by rw[run_store Tryz.prog w _ _ _ rfl];simp[hc,hf]
  show(do
   let a <-asAddr (.pointer (some ⟨b,o,none⟩))
   let old <-Extern.Atomic.read (.int .i64) a
   let n <-Op.intArith .add .i64 (<-asInt old) (<-asInt (.int .i64 1))
   store a n .atomic
   pure (if true then n else old):Sem Value).run Tryz.prog w=_
  simp[asAddr,Extern.Atomic.read,asInt,asIntOf,Op.intArith,Result.andThen,hld,hst]
 have hx:(callFunc 193 #[.pointer (some ⟨b,o,none⟩),.int .i64 1]).run Tryz.prog w=.ok (.value (.int .i64 (IntKind.i64.wrap (k+1)))) (w.setCell ⟨b,o,none⟩ (.int .i64 (IntKind.i64.wrap (k+1)))):=add_run 193 rfl _ _ _ _ _ hr
 obtain⟨r,hr2⟩:∃r,r=IntKind.i64.wrap (k+1):=⟨_,rfl⟩
 rw[<-hr2]at hx ⊢
 clear hr hc hf hr2 h hk
 go_enter Tryz.func132,Tryz.ntmps132
 go_wp2_with (simp only[hx])
 go_ret
 exact⟨⟨_,rfl⟩,rfl⟩
theorem counted_c {w:World} {bs g:Nat} {lb:Array Value}:
 Calls Tryz.prog 175 #[.pointer (some ⟨bs,0,none⟩),.func (.func g) #[] lb] w fun e w'=>∃b1 b2,e=.returned (.func (.func 234) #[] #[.pointer (some ⟨b1,0,none⟩),.pointer (some ⟨b2,0,none⟩)])/\New w w'/\w.heap.size<=b1/\w.heap.size<=b2/\b1<w'.heap.size/\b2<w'.heap.size/\w'.cell? ⟨b1,0,none⟩=some (.pointer (some ⟨bs,0,none⟩))/\w'.cell? ⟨b2,0,none⟩=some (.func (.func g) #[] lb):=by
 go_enter Tryz.func175,Tryz.ntmps175
 go_wp2
 go_ret
 refine⟨w.heap.size,w.heap.size+1,rfl,(Upd.alloc _ _ _).trans (Upd.alloc _ _ _),Nat.le_refl _,by omega,?_,?_,?_,?_⟩
 · show _<((w.heap.push _).push _).size;simp;omega
 · show _<((w.heap.push _).push _).size;simp
 · exact cell_of (t:=34) (fr:=(0,0)) (cs:=#[.pointer (some ⟨bs,0,none⟩)]) (by rw[heap_alloc_lt _ (by show _<(w.heap.push _).size;simp)];exact Ex.alloc_new w _) 0 _ rfl
 · have e:=Ex.alloc_new (w.alloc (.cells #[.pointer (some ⟨bs,0,none⟩)] 34)) (.cells #[.func (.func g) #[] lb] 117)
   rw[show(w.alloc (.cells #[.pointer (some ⟨bs,0,none⟩)] 34)).heap.size=w.heap.size+1 by show(w.heap.push _).size=_;simp]at e
   exact cell_of e 0 _ rfl
def StoB (w:World) (bs bm:Nat):Prop:=∃k:Int,w.heap[bs]?=some (.cells #[.pointer (some ⟨bm,0,none⟩),.slice none 0 0,.int .i64 k] 102 (0,0))
end Go.Proofs.YtbhnjkegkadodaaGreatDoor
namespace Go.Proofs.YtbhnjkegkadodaaGreatDoor
open Go Go.RowKit Go.Proofs Gl Go.Shelf
attribute [local go_sem] Oper.semAt_some
structure Cnt (base bm n c b1 b2 b3 bs p1 p2:Nat) (D:Nat->Prop) (A:Option Addr) (vs:List Value) (ps:List (List Ent)) (css:List (List Value)) (W:World):Prop where
 wlk:Wlk base bm n c b1 b2 b3 D A vs ps css W
 box1:W.cell? ⟨p1,0,none⟩=some (.pointer (some ⟨bs,0,none⟩))
 box2:W.cell? ⟨p2,0,none⟩=some (.func (.func 108) #[] #[.pointer (some ⟨b1,0,none⟩),.pointer (some ⟨b2,0,none⟩),.pointer (some ⟨b3,0,none⟩)])
 sto:StoB W bs bm
theorem StoB.lt {w:World} {bs bm:Nat} (h:StoB w bs bm):bs<w.heap.size:=by obtain⟨k,hk⟩:=h;exact(Array.getElem?_eq_some_iff.1 hk).1
theorem StoB.upd {T:Nat->Prop} {w w':World} {bs bm:Nat} (h:StoB w bs bm) (hu:Upd T w w') (hn:¬T bs):StoB w' bs bm:=by
 obtain⟨k,hk⟩:=h;exact⟨k,(hu.block bs (Array.getElem?_eq_some_iff.1 hk).1 hn).trans hk⟩
theorem StoB.count {w:World} {bs bm:Nat} (h:StoB w bs bm):Calls Tryz.prog 132 #[.pointer (some ⟨bs,2,none⟩),.int .i64 1] w fun e w'=>(∃v,e=.returned v)/\StoB w' bs bm/\Upd (fun b=>b=bs) w w':=by
 obtain⟨k,hk⟩:=h
 refine(add_c hk (o:=2) rfl).mono fun e w' ⟨hv,hw⟩=>⟨hv,?_,?_⟩
 · rw[hw];exact⟨_,setCell_at hk _ (i:=2)⟩
 · rw[hw];exact Upd.setCell w _ rfl
theorem Cnt.upd {base bm n c b1 b2 b3 bs p1 p2:Nat} {D T:Nat->Prop} {A:Option Addr} {vs:List Value} {ps:List (List Ent)} {css:List (List Value)} {W W':World} (h:Cnt base bm n c b1 b2 b3 bs p1 p2 D A vs ps css W) (hu:Upd T W W') (hf:∀b,foot bm D A n c vs b->¬T b) (h1:¬T b1) (h2:¬T b2) (h3:¬T b3) (h4:¬T p1) (h5:¬T p2) (h6:StoB W' bs bm):Cnt base bm n c b1 b2 b3 bs p1 p2 D A vs ps css W':=
 ⟨h.wlk.upd hu hf h1 h2 h3,(hu.cell (a:=⟨p1,0,none⟩) (World.block_lt_of_cell? W _ h.box1) h4).trans h.box1,(hu.cell (a:=⟨p2,0,none⟩) (World.block_lt_of_cell? W _ h.box2) h5).trans h.box2,h6⟩
theorem Copies.upd {T:Nat->Prop} {x:Ent} {W0 A B:World} {vals:Array Value} (h:Copies x W0 A vals) (hu:Upd T A B) (hT:∀b,W0.heap.size<=b->¬T b):Copies x W0 B vals:=by
 obtain⟨A1,n1,c1,A2,n2,c2,e,h1,h2⟩:=h
 exact⟨A1,n1,c1,A2,n2,c2,e,h1.upd hu hT,h2.upd hu hT⟩
theorem risingK_nil {base bm n c b1 b2 nf cf:Nat} {D:Nat->Prop} {A Af:Option Addr} {vs:List Value} {css:List (List Value)} {fk:Bs}:
 Gives Tryz.prog 167 #[.pointer (some ⟨b1,0,none⟩),.pointer (some ⟨b2,0,none⟩)] (fun x _ _ vals=>vals=encE x) (fun _=>False) (RisK base bm n c b1 b2 nf cf D A Af vs [] css fk) (fromK fk (ceAll css []).flatten):=by
 intro l J Jx W hJ hJx hK h0 hY
 have hn:n=0:=hK.map.map.toMapRaw.n_eq
 subst hn
 have hc0:=hK.map.map.toMapRaw.cell0
 have d1:=hK.box1
 have e0:fromK fk (ceAll css []).flatten=[]:=by simp[ceAll,fromK]
 have H0:=Lib.hid h0;have HE:=Lib.hid e0;have HKK:=Lib.hid hK
 clear hJ hJx hY h0 hK e0
 go_enter Tryz.func167,Tryz.ntmps167
 go_wp2
 refine bodyPost_ret (results_none rfl _ _ _) rfl ?_
 exact⟨⟨_,rfl⟩,W.heap.size,Nat.le_refl _,Nat.le_refl _,.inl ⟨by rw[HE.out];exact H0.out _,HKK.out⟩⟩
theorem risingK_all {base bm n c b1 b2 nf cf:Nat} {D:Nat->Prop} {A Af:Option Addr} {vs:List Value} {ps:List (List Ent)} {css:List (List Value)} {fk:Bs} (hlen:ps.length<=1000000):
 Gives Tryz.prog 167 #[.pointer (some ⟨b1,0,none⟩),.pointer (some ⟨b2,0,none⟩)] (fun x _ _ vals=>vals=encE x) (fun _=>False) (RisK base bm n c b1 b2 nf cf D A Af vs ps css fk) (fromK fk (ceAll css ps).flatten):=by
 by_cases h:ps=[]
 · subst h;exact risingK_nil
 · exact risingK_gives hlen (List.length_pos_iff.2 h)
structure WlkK (base bm n c b1 b2 b3 nf cf nt ct:Nat) (D:Nat->Prop) (A Af At:Option Addr) (vs:List Value) (ps:List (List Ent)) (css:List (List Value)) (fk:Bs) (W:World):Prop where
 map:MapC 182 251 base W bm D A n c vs ps css
 box1:W.cell? ⟨b1,0,none⟩=some (.pointer (some ⟨bm,0,none⟩))
 box2:W.cell? ⟨b2,0,none⟩=some (.slice Af nf cf)
 box3:W.cell? ⟨b3,0,none⟩=some (.slice At nt ct)
 from_:By W Af nf cf fk
end Go.Proofs.YtbhnjkegkadodaaGreatDoor
namespace Go.Proofs.YtbhnjkegkadodaaGreatDoor
open Go Go.RowKit Go.Proofs Gl Go.Shelf
attribute [local go_sem] Oper.semAt_some
section
variable {base bm n c b1 b2 b3 nf cf nt ct:Nat} {D T:Nat->Prop} {A Af At:Option Addr} {vs:List Value} {ps:List (List Ent)} {css:List (List Value)} {fk:Bs} {W W':World}
theorem WlkK.upd (h:WlkK base bm n c b1 b2 b3 nf cf nt ct D A Af At vs ps css fk W) (hu:Upd T W W') (hf:∀b,foot bm D A n c vs b->¬T b) (h1:¬T b1) (h2:¬T b2) (h3:¬T b3) (h4:∀a,Af=some a → 0<nf->¬T a.block):WlkK base bm n c b1 b2 b3 nf cf nt ct D A Af At vs ps css fk W':=
 ⟨h.map.upd hu hf,(hu.cell (a:=⟨b1,0,none⟩) (World.block_lt_of_cell? W _ h.box1) h1).trans h.box1,(hu.cell (a:=⟨b2,0,none⟩) (World.block_lt_of_cell? W _ h.box2) h2).trans h.box2,(hu.cell (a:=⟨b3,0,none⟩) (World.block_lt_of_cell? W _ h.box3) h3).trans h.box3,h.from_.upd hu h4⟩
theorem WlkK.new (h:WlkK base bm n c b1 b2 b3 nf cf nt ct D A Af At vs ps css fk W) (hu:New W W'):WlkK base bm n c b1 b2 b3 nf cf nt ct D A Af At vs ps css fk W':=h.upd hu (fun _ _=>id) id id id (fun _ _ _=>id)
end
end Go.Proofs.YtbhnjkegkadodaaGreatDoor
namespace Go.Proofs.YtbhnjkegkadodaaGreatDoor
open Go Go.RowKit Go.Proofs Gl Go.Shelf
attribute [local go_sem] Oper.semAt_some
theorem walkK_none {base bm n c b1 b2 b3 nf cf nt ct:Nat} {D:Nat->Prop} {A Af At:Option Addr} {vs:List Value} {ps:List (List Ent)} {css:List (List Value)} {fk:Bs} (hlen:ps.flatten.length<=1000000) (hlow:∀e ∈ ps.flatten,blt e.1 fk=true) (l:Nat) (W:World) (hK:WlkK base bm n c b1 b2 b3 nf cf nt ct D A Af At vs ps css fk W):
 Calls Tryz.prog 108 (#[.func (.yield l) #[] #[]] ++ #[.pointer (some ⟨b1,0,none⟩),.pointer (some ⟨b2,0,none⟩),.pointer (some ⟨b3,0,none⟩)]) W fun e W'=>(∃v,e=.returned v)/\Upd (fun _=>False) W W'/\WlkK base bm n c b1 b2 b3 nf cf nt ct D A Af At vs ps css fk W':=by
 have d1:=hK.box1
 have d2:=hK.box2
 have l1:b1<W.heap.size:=World.block_lt_of_cell? W ⟨b1,0,none⟩ d1
 have l2:b2<W.heap.size:=World.block_lt_of_cell? W ⟨b2,0,none⟩ d2
 have l3:b3<W.heap.size:=World.block_lt_of_cell? W ⟨b3,0,none⟩ hK.box3
 have hal:New W (W.alloc (.cells #[.func (.yield l) #[] #[]] 112)):=Upd.alloc _ _ _
 have k1:(W.alloc (.cells #[.func (.yield l) #[] #[]] 112)).cell? ⟨b1,0,none⟩=_:=(hal.cell (a:=⟨b1,0,none⟩) l1 id).trans d1
 have k2:(W.alloc (.cells #[.func (.yield l) #[] #[]] 112)).cell? ⟨b2,0,none⟩=_:=(hal.cell (a:=⟨b2,0,none⟩) l2 id).trans d2
 have hnil:fromK fk (ceAll css ps).flatten=[]:=by
  unfold fromK
  rw[List.filter_eq_nil_iff]
  intro x hx
  have:=hlow x.2.2 (by rw[<-hK.map.all_ents];exact List.mem_map_of_mem hx)
  simp[this]
 have hpl:=pages_le hK.map.map.good.1
 have HK:=Lib.hid hK;have HNI:=Lib.hid hnil;have HPL:=Lib.hid (Nat.le_trans hpl hlen)
 clear hK hlen hlow hal hnil hpl
 refine(callsIn_wide (n:=0)).1 ?_
 refine callsIn_of_wp_marks Tryz.func108 rfl trivial ?_ rfl
 simp only[Tryz.ntmps108,List.size_toArray,List.length_cons,List.length_nil,Nat.reduceAdd,Nat.reduceSub,Array.replicate_succ,Array.replicate_zero,List.push_toArray,List.append_toArray,List.nil_append,List.cons_append]
 gi_wp2_with (refine⟨trivial,rfl,?_⟩;gi_at_call 109;refine(callsIn_wide.2 rising_c).mono ?_;rintro e w1 ⟨r1,r2,rfl,hn1,hr1,hr2,hl1,hl2,hc1,hc2⟩;have HN1:=Lib.hid hn1;clear hn1)
 have hnW:New W w1:=(Upd.alloc _ _ _).trans HN1.out
 have hlW:W.heap.size+1<=w1.heap.size:=by have:=HN1.out.size;have e:(W.alloc (.cells #[.func (.yield l) #[] #[]] 112)).heap.size=W.heap.size+1:=(by show(W.heap.push _).size=_;simp);omega
 have hwl:=HK.out.new hnW
 have hfl:∀b,foot bm D A n c vs b->b<W.heap.size:=fun b hb=>HK.out.map.map.toMapRaw.foot_lt hb
 have hfl2:∀a,Af=some a → 0<nf->a.block<w1.heap.size:=fun a ha h0=>by
  have:=(BV.of hwl.from_)
  obtain⟨_,_,_,e,_,h⟩:=this
  cases e
  exact h a ha h0
 have hrs:Gives Tryz.prog 167 #[.pointer (some ⟨r1,0,none⟩),.pointer (some ⟨r2,0,none⟩)] (fun x _ _ vals=>vals=encE x) (fun _=>False) (RisK base bm n c r1 r2 nf cf D A Af vs ps css fk) []:=by
  have:=risingK_all (base:=base) (bm:=bm) (n:=n) (c:=c) (b1:=r1) (b2:=r2) (nf:=nf) (cf:=cf) (D:=D) (A:=A) (Af:=Af) (vs:=vs) (ps:=ps) (css:=css) (fk:=fk) HPL.out
  rwa [HNI.out]at this
 have HWL:=Lib.hid hwl;have HFL:=Lib.hid hfl;have HNW:=Lib.hid hnW
 refine range_nil (S:=fun _=>False) (Kp:=RisK base bm n c r1 r2 nf cf D A Af vs ps css fk) (gf:=167) (lb:=#[.pointer (some ⟨r1,0,none⟩),.pointer (some ⟨r2,0,none⟩)]) rfl (fun args w=>enters_of' 167 Tryz.func167 (by kernel_rfl) (by kernel_rfl) args w)
  (fun l2 W2 hk=>hrs.plain (fun _ _ _ h=>h.elim) l2 W2 hk) (fun b h=>h.elim) (fun P Q hk hu=>hk.upd hu (fun b hb=>by have:=hfl b hb;omega) (by omega) (by omega) (fun a ha h0=>by have:=hfl2 a ha h0;omega)) ⟨hwl.map,hc1,hc2,hwl.from_⟩ ?done
 case done=>
  rintro V hu hsz hd hk
  gi_wp2
  refine⟨by simp,.inl ⟨_,_,rfl,run_takeDeferred hd,?_⟩⟩
  have hput:Upd (fun b=>b=w1.heap.size) V (V.putObj w1.heap.size (.deferred none)):=Upd.putObj V _ rfl
  have hWV:New W (V.putObj w1.heap.size (.deferred none)):=(HNW.out.trans hu).then hput (fun b hb e=>by have e:b=w1.heap.size:=e;omega)
  exact⟨_,results_none rfl _ _ _,⟨_,rfl⟩,hWV,HK.out.new hWV⟩
end Go.Proofs.YtbhnjkegkadodaaGreatDoor

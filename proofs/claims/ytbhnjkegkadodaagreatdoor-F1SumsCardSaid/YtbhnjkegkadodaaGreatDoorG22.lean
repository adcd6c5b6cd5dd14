/- Part of the proof. -/
import Derived.Test.YtbhnjkegkadodaaGreatDoorG18
import Derived.Test.YtbhnjkegkadodaaGreatDoorG21
import Derived.Test.YtbhnjkegkadodaaGreatDoorG09
set_option linter.all false
set_option maxRecDepth 100000
set_option maxHeartbeats 8000000
namespace Gz
open Go Go.RowKit Go.Proofs Gl Go.Shelf
attribute [local go_sem] Oper.semAt_some
def StoreAt (base:Nat) (w:World) (bs:Nat) (L:List Ent):Prop:=∃bm D A n c vs ps,StoB w bs bm/\MapIn 182 251 base w bm D A n c vs ps/\(∀b,foot bm D A n c vs b->base<=b/\b≠bs)/\base<=bs/\ps.flatten=L
theorem StoreAt.upd {base bs:Nat} {w w':World} {L:List Ent} {T:Nat->Prop} (h:StoreAt base w bs L) (hu:Upd T w w') (hT:∀b,base<=b->b<w.heap.size->¬T b):StoreAt base w' bs L:=by
 obtain⟨bm,D,A,n,c,vs,ps,h1,h2,h3,h4,h5⟩:=h;have hf:∀b,foot bm D A n c vs b->¬T b:=fun b hb=>hT b (h3 b hb).1 (h2.toMapRaw.foot_lt hb);exact⟨bm,D,A,n,c,vs,ps,h1.upd hu (hT bs h4 h1.lt),⟨h2.toMapRaw.upd hu hf,h2.good,h2.few⟩,h3,h4,h5⟩
theorem pnew_c {w:World}:Calls Tryz.prog 46 #[] w fun e w'=>e=.returned (.pointer (some ⟨w.heap.size,0,none⟩))/\w'=w.alloc (.cells #[.slice none 0 0,.int .i64 0] 172):=by
 go_enter Tryz.func46,Tryz.ntmps46
 go_wp2
 go_ret
 exact⟨rfl,rfl⟩
theorem knew_c {w:World}:Calls Tryz.prog 12 #[] w fun e w'=>∃bs,e=.returned (.pointer (some ⟨bs,0,none⟩))/\StoreAt w.heap.size w' bs []/\New w w':=by
 go_enter Tryz.func12,Tryz.ntmps12
 go_wp2_with (go_at_call 46;refine pnew_c.mono ?_;rintro e w1 ⟨rfl,rfl⟩)
 go_ret
 obtain⟨w1,h1⟩:=zE (w.alloc (.cells #[.slice none 0 0,.int .i64 0] 172));rw[<-h1];have a2:w1.heap.size=w.heap.size+1:=by rw[h1];show(w.heap.push _).size=_;simp
 have a3:w1.heap[w.heap.size]?=some (.cells #[.slice none 0 0,.int .i64 0] 172 (0,0)):=by rw[h1];exact zX w _
 refine⟨w1.heap.size,by rw[a2];rfl,⟨w.heap.size,fun _=>False,none,0,0,[],[],⟨0,zX w1 _⟩,⟨?_,⟨fun l h=>by(cases h),List.Pairwise.nil⟩,fun l h=>by(cases h)⟩,?_,by omega,rfl⟩,by rw[h1];exact(zU _ _ _).trans (zU _ _ _)⟩
 · exact {
    blk:=⟨172,(zaj _ (by omega)).trans a3⟩
    row:=World.ownsRow_nil _ _ _ _
    len:=rfl
    page:=fun i v l h=>by(cases h)
    inj:=fun i j v v' h=>by(cases h)
    away:=fun i v b h=>by(cases h)
    bmA:=fun h=>by(cases h)
    dm:=id
    dA:=fun b h=>by(cases h)
    hb:=zR _
    lim:=fun b h=>h.elim }
 · rintro b (rfl|h|⟨v,h,_⟩|h)
   · exact⟨zR _,by omega⟩
   · cases h
   · cases h
   · exact h.elim
theorem noted_c {w:World} {bs bm nk ck:Nat} {Ak:Option Addr} (hs:StoB w bs bm):Calls Tryz.prog 133 #[.pointer (some ⟨bs,0,none⟩),.slice Ak nk ck] w fun e w'=>(∃v,e=.returned v)/\New w w':=by
 obtain⟨k,hk⟩:=hs;have a3:=(zqA.1 hk).1;obtain⟨W,hW⟩:=zE ((w.alloc (.cells #[.pointer (some ⟨bs,0,none⟩)] 34)).alloc (.cells #[.slice Ak nk ck] 113));have hn:New w W:=by rw[hW];exact(zU _ _ _).trans (zU _ _ _)
 have a1:=zaa ((hn.block bs a3 id).trans hk) 1 (.slice none 0 0) rfl;rw[hW]at a1;go_enter Tryz.func133,Tryz.ntmps133;go_wp2;rw[<-hW];clear hW a1;refine bodyPost_ret (results_none rfl _ _ _) rfl ?_
 exact⟨⟨_,rfl⟩,hn⟩
def SF (F:Nat->Prop) (bs:Nat) (w:World) (L:List Ent):Prop:=∃base bm D A n c vs ps,StoB w bs bm/\MapIn 182 251 base w bm D A n c vs ps/\(∀b,foot bm D A n c vs b->F b)/\(∀b,F b->b<w.heap.size/\b≠bs)/\base<=w.heap.size/\ps.flatten=L
def SFm (F:Nat->Prop) (bs bm:Nat) (w:World) (L:List Ent):Prop:=∃base D A n c vs ps,StoB w bs bm/\MapIn 182 251 base w bm D A n c vs ps/\(∀b,foot bm D A n c vs b->F b)/\(∀b,F b->b<w.heap.size/\b≠bs)/\base<=w.heap.size/\ps.flatten=L
theorem SF.m {F:Nat->Prop} {bs:Nat} {w:World} {L:List Ent} (h:SF F bs w L):∃bm,SFm F bs bm w L:=by obtain⟨base,bm,h⟩:=h;exact⟨bm,base,h⟩
theorem SFm.sf {F:Nat->Prop} {bs bm:Nat} {w:World} {L:List Ent} (h:SFm F bs bm w L):SF F bs w L:=by obtain⟨base,h⟩:=h;exact⟨base,bm,h⟩
structure Step (F F':Nat->Prop) (bs:Nat) (w w':World):Prop where
 sub:∀b,F' b->F b\/w.heap.size<=b
 upd:Upd (fun b=>F b\/b=bs) w w'
end Gz
namespace Gz
open Go Go.RowKit Go.Proofs Gl Go.Shelf
attribute [local go_sem] Oper.semAt_some
section
variable {F F' F'' Q:Nat->Prop} {bs:Nat} {w w' w'':World} {L:List Ent} {A:Option Addr} {n c x:Nat}
theorem SF.lt (h:SF F bs w L) {b:Nat} (hb:F b):b<w.heap.size/\b≠bs:=by obtain⟨_,_,_,_,_,_,_,_,_,_,_,h4,_⟩:=h;exact h4 b hb
theorem SF.bs_lt (h:SF F bs w L):bs<w.heap.size:=by obtain⟨_,_,_,_,_,_,_,_,h1,_⟩:=h;exact h1.lt
theorem SFm.new {bm:Nat} (h:SFm F bs bm w L) (hu:New w w'):SFm F bs bm w' L:=by
 obtain⟨base,D,A,n,c,vs,ps,h1,h2,h3,h4,h5,h6⟩:=h;exact⟨base,D,A,n,c,vs,ps,h1.upd hu id,⟨h2.toMapRaw.upd hu (fun _ _=>id),h2.good,h2.few⟩,h3,fun b hb=>⟨zqL (h4 b hb).1 hu.size,(h4 b hb).2⟩,zT h5 hu.size,h6⟩
theorem SF.new (h:SF F bs w L) (hu:New w w'):SF F bs w' L:=let ⟨_,hm⟩:=h.m;(hm.new hu).sf
theorem SF.sorted (h:SF F bs w L):Sorted L:=by
 obtain⟨base,bm,D,A,n,c,vs,ps,h1,h2,h3,h4,h5,rfl⟩:=h;exact h2.good.2
theorem Step.of_new (hu:New w w'):Step F F bs w w':=⟨fun b hb=>.inl hb,hu.mono (fun _ _ h=>h.elim)⟩
theorem Step.refl (F:Nat->Prop) (bs:Nat) (w:World):Step F F bs w w:=Step.of_new (Upd.refl _ _)
theorem Step.trans (h:Step F F' bs w w') (h':Step F' F'' bs w' w''):Step F F'' bs w w'':=
 ⟨fun b hb=>(h'.sub b hb).elim (h.sub b) (fun h2=>.inr (zT h.upd.size h2)),h.upd.then h'.upd (fun b hb h2=>h2.elim (fun h3=>(h.sub b h3).elim .inl (fun h4=>by omega)) .inr)⟩
abbrev Off (F:Nat->Prop) (bs:Nat):Nat->Prop:=fun b=>¬F b/\b≠bs
theorem LQ.step (h:LQ (Off F bs) w A n c x) (s:Step F F' bs w w'):LQ (Off F' bs) w' A n c x:=
 (h.mono (Q':=fun b=>Off F bs b/\b<w.heap.size) (fun b hb hq=>⟨hq,hb⟩) |>.upd s.upd (fun b hq h=>h.elim hq.1.1 hq.1.2)).mono (fun b _ hq=>⟨fun hf=>(s.sub b hf).elim hq.1.1 (fun h=>by omega),hq.1.2⟩)
theorem LN.step (h:LN (Off F bs) w A n c x) (s:Step F F' bs w w'):LN (Off F' bs) w' A n c x:=
 (h.mono (Q':=fun b=>Off F bs b/\b<w.heap.size) (fun b hb hq=>⟨hq,hb⟩) |>.upd s.upd (fun b hq h=>h.elim hq.1.1 hq.1.2)).mono (fun b _ hq=>⟨fun hf=>(s.sub b hf).elim hq.1.1 (fun h=>by omega),hq.1.2⟩)
theorem LN.off (h:LN (NB w) w' A n c x) (hs:SF F bs w L):LN (Off F bs) w' A n c x:=
 h.mono (fun b _ hq=>⟨fun hf=>by have:=(hs.lt hf).1;have hq:w.heap.size<=b:=hq;omega,fun e=>by have:=hs.bs_lt;have hq:w.heap.size<=b:=hq;omega⟩)
end
end Gz
namespace Gz
open Go Go.RowKit Go.Proofs Gl Go.Shelf
attribute [local go_sem] Oper.semAt_some
theorem knew_f {w:World}:Calls Tryz.prog 12 #[] w fun e w'=>∃bs F,e=.returned (.pointer (some ⟨bs,0,none⟩))/\SF F bs w' []/\New w w'/\(∀b,F b->w.heap.size<=b)/\w.heap.size<=bs:=by
 refine knew_c.mono ?_
 rintro e w' ⟨bs,rfl,⟨bm,D,A,n,c,vs,ps,h1,h2,h3,h4,h5⟩,hn⟩;exact⟨bs,foot bm D A n c vs,rfl,⟨w.heap.size,bm,D,A,n,c,vs,ps,h1,h2,fun b=>id,fun b hb=>⟨h2.toMapRaw.foot_lt hb,(h3 b hb).2⟩,hn.size,h5⟩,hn,fun b hb=>(h3 b hb).1,h4⟩
def GotM (F:Nat->Prop) (bs bm:Nat) (w:World) (L:List Ent) (k:Bs) (e:Ending) (w':World):Prop:=
 SFm F bs bm w' L/\Upd (fun b=>b=bs) w w'/\((get L k=none/\e=.returned (.tuple #[.slice none 0 0,.bool false]))\/∃v A n c,get L k=some v/\e=.returned (.tuple #[.slice A n c,.bool true])/\BV (fun b=>w.heap.size<=b) w' (.slice A n c) v)
theorem kget_m {F:Nat->Prop} {bs bm nk ck:Nat} {Ak:Option Addr} {w:World} {L:List Ent} {k:Bs} (h:SFm F bs bm w L) (hk:By w Ak nk ck k) (hkb:∀a,Ak=some a → 0<nk->a.block≠bs) (hL:L.length<=1000000) (hsz:∀e ∈ L,e.2.length<=1073741824):
 Calls Tryz.prog 111 #[.pointer (some ⟨bs,0,none⟩),.slice Ak nk ck] w (GotM F bs bm w L k):=by
 obtain⟨base,D,A,n,c,vs,ps,h1,h2,h3,h4,h5,rfl⟩:=h;have a1:=h1.count;have a3:∀w1,Upd (fun b=>b=bs) w w1->StoB w1 bs bm->SFm F bs bm w1 ps.flatten/\w1.cell? ⟨bs,0,none⟩=some (.pointer (some ⟨bm,0,none⟩))/\Calls Tryz.prog 171 #[.pointer (some ⟨bm,0,none⟩),.slice Ak nk ck] w1 (Got w1 ps.flatten k):=fun w1 hu hs=>by
  have hm:MapIn 182 251 base w1 bm D A n c vs ps:=⟨h2.toMapRaw.upd hu (fun b hb e=>(h4 b (h3 b hb)).2 e),h2.good,h2.few⟩
  exact⟨⟨base,D,A,n,c,vs,ps,hs,hm,h3,fun b hb=>⟨zqL (h4 b hb).1 hu.size,(h4 b hb).2⟩,zT h5 hu.size,rfl⟩,zaa (Classical.choose_spec hs) 0 _ rfl,pget_c hm (hk.upd hu (fun a ha h0 e=>hkb a ha h0 e)) hL hsz⟩
 have HC:=zqH a1;have HG:=zqH a3;clear a1 a3 h1 h2 h3 h4 h5 hk hkb hL hsz;go_enter Tryz.func111,Tryz.ntmps111
 go_wp2_with (first
  | (go_at_call 132;refine HC.out.mono ?_;rintro e w1 ⟨⟨_,rfl⟩,a8,a4⟩;obtain⟨a6,d5,a7⟩:=HG.out w1 a4 a8;have H1:=zqH (zN a6 a4);clear a8 a4 a6)
  | (go_at_call 171;refine a7.mono ?_;rintro e w2 ⟨a2,⟨hg,rfl⟩|⟨v,A2,n2,c2,hg,rfl,b7⟩⟩))
 all_goals go_ret2
 · exact⟨H1.out.1.new a2,H1.out.2.trans (a2.mono (fun _ _ h=>h.elim)),.inl ⟨hg,rfl⟩⟩
 · exact⟨H1.out.1.new a2,H1.out.2.trans (a2.mono (fun _ _ h=>h.elim)),.inr ⟨v,A2,n2,c2,hg,rfl,b7.mono (fun b hb=>zT H1.out.2.size hb)⟩⟩
theorem kset_f {F:Nat->Prop} {bs nk ck nv cv:Nat} {Ak Av:Option Addr} {w:World} {L:List Ent} {k v:Bs} (h:SF F bs w L) (hL:L.length<=1000000) (hk:By w Ak nk ck k) (hkb:∀a,Ak=some a → 0<nk->a.block≠bs) (hv:By w Av nv cv v) (hvb:∀a,Av=some a → 0<nv->a.block≠bs) (hk1:1<=nk) (hk2:nk<=64) (hv2:nv<=4096):
 Calls Tryz.prog 77 #[.pointer (some ⟨bs,0,none⟩),.slice Ak nk ck,.slice Av nv cv] w fun e w'=>(∃v,e=.returned v)/\∃F',SF F' bs w' (put L k v)/\Step F F' bs w w':=by
 obtain⟨base,bm,D,A,n,c,vs,ps,h1,h2,h3,h4,h5,rfl⟩:=h;obtain⟨L,b6⟩:=zE ps.flatten;rw[<-b6]at hL ⊢;have a1:=h1.count;have b7:∀w1,Upd (fun b=>b=bs) w w1->StoB w1 bs bm->MapIn 182 251 base w1 bm D A n c vs ps/\By w1 Ak nk ck k/\By w1 Av nv cv v:=fun w1 hu hs=>
  ⟨⟨h2.toMapRaw.upd hu (fun b hb e=>(h4 b (h3 b hb)).2 e),h2.good,h2.few⟩,hk.upd hu (fun a ha h0 e=>hkb a ha h0 e),hv.upd hu (fun a ha h0 e=>hvb a ha h0 e)⟩
 have HC:=zqH a1;have HU:=zqH b7;have b9:=zqH b6;have HL:=zqH hL;have H3:=zqH h3;have HB:=zqH h5;have H4:=zqH h4;clear a1 b7 b6 hL h1 h2 h3 hk hv hkb hvb h5 h4;go_enter Tryz.func77,Tryz.ntmps77
 go_wp2_with (first
  | (go_at_call 132;refine HC.out.mono ?_;rintro e w1 ⟨⟨_,rfl⟩,b0,a7⟩;have H1:=zqH (zN b0 a7);clear b0 a7)
  | (go_at_call 133;refine(noted_c H1.out.1).mono ?_;rintro e w2 ⟨⟨_,rfl⟩,a5⟩;have a3:=H1.out.1.upd a5 id;have f4:=(zaa (Classical.choose_spec a3) 0 (.pointer (some ⟨bm,0,none⟩)) rfl);have H2:=zqH (zN a3 a5);clear a3 a5)
  | (go_at_call 134;refine(set_c (F:=fun b=>foot bm D A n c vs b) (base:=base) ⟨((HU.out w1 H1.out.2 H1.out.1).1).toMapRaw.upd H2.out.2 (fun _ _=>id),((HU.out w1 H1.out.2 H1.out.1).1).good,((HU.out w1 H1.out.2 H1.out.1).1).few⟩ (fun b=>id) (((HU.out w1 H1.out.2 H1.out.1).2.1).new H2.out.2) (((HU.out w1 H1.out.2 H1.out.1).2.2).new H2.out.2) (by omega) (by omega) (by rw[<-b9.out];exact HL.out) (zT HB.out (zT H1.out.2.size H2.out.2.size))).mono ?_;rintro e w3 ⟨r3,F',e2,rfl,a8,a6,a4,a9⟩;have H5:=zqH (zN a8 (zN a6 (zN a4 a9)));clear a8 a6 a4 a9))
 go_ret
 obtain⟨a8,a6,a4,a9⟩:=H5.out;obtain⟨b0,a7⟩:=H1.out;obtain⟨a3,a5⟩:=H2.out;obtain⟨D',A',n',c',d0,d5,d6⟩:=a8;have f6:=a3.lt;have f7:=zT a7.size a5.size;have f8:=b0.lt;have d9:=HB.out;have c6:¬foot bm D A n c vs bs:=fun h=>(H4.out bs (H3.out bs h)).2 rfl;refine⟨⟨_,rfl⟩,fun b=>foot bm D' A' n' c' d0 b,⟨base,bm,D',A',n',c',d0,e2,a3.upd a4 c6,d5,fun b=>id,fun b hb=>⟨d5.toMapRaw.foot_lt hb,fun e=>?_⟩,by have:=a4.size;omega,by rw[a9,b9.out]⟩,fun b hb=>?_,((a7.mono (fun b _ e=>.inr e)).trans (a5.mono (fun b _ h=>h.elim))).then a4 (fun b _ h=>.inl (H3.out b h))⟩
 · rcases a6 b (d6 b hb) with h|h
   · exact c6 (e▸h)
   · omega
 · rcases a6 b (d6 b hb) with h|h
   · exact .inl (H3.out b h)
   · exact .inr (by omega)
end Gz

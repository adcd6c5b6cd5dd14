/- Part of the proof. -/
import Derived.Test.YtbhnjkegkadodaaGreatDoorG25
set_option linter.all false
set_option maxRecDepth 100000
set_option maxHeartbeats 8000000
namespace Go.Proofs.YtbhnjkegkadodaaGreatDoor
open Go Go.RowKit Go.Proofs Gl
theorem rU64' {br:Nat} {w:World} {A:Option Addr} {n c y:Nat} {rest:List Nat} (hR:Rd br w A n c (be 8 y ++ rest) 0) (hy:y<18446744073709551616) (hn:n<=1073741824):
 Calls Tryz.prog 244 #[.pointer (some ⟨br,0,none⟩)] w fun e w'=>e=.returned (.int .u64 (y:Int))/\∃A' n' c',Rd br w' A' n' c' rest 0/\Upd (fun b=>b=br) w w'/\∀a',A'=some a'->∃a,A=some a/\a'.block=a.block:=by
 refine(rU64 hR hn).mono ?_
 rintro e w' ⟨rfl,A',n',c',h1,h2,h3⟩
 have hok:rOk 8 (be 8 y ++ rest) 0=true:=decide_eq_true ⟨rfl,by simp[zah]⟩
 unfold rb re at h1
 rw[hok,if_pos rfl,if_pos rfl,List.drop_left' (zah _ _)]at h1
 refine⟨?_,A',n',c',h1,h2,h3⟩
 unfold rv
 rw[hok,if_pos rfl,List.take_left' (zah _ _),F1.num_be 8 y (by simpa using hy)]
theorem rnum1 {br bx ox lb:Nat} {cs:Array Value} {t:TypeId} {w:World} {A:Option Addr} {n c y:Nat} {rest:List Nat} (hR:Rd br w A n c (be 8 y ++ rest) 0) (hy:y<18446744073709551616) (hn:n<=1073741824)
 (hl:w.cell? ⟨lb,0,none⟩=some (.pointer (some ⟨bx,ox,none⟩))) (hx:w.heap[bx]?=some (.cells cs t (0,0))) (hox:ox<cs.size) (hbx:bx≠br) (hA:∀a,A=some a->a.block≠bx):
 Calls Tryz.prog 205 #[.agg #[.pointer none,.pointer (some ⟨br,0,none⟩)],.slice (some ⟨lb,0,none⟩) 1 1] w (FieldRd br bx ox cs t w A rest (fun w' v=>v=.int .u64 (y:Int))):=by
 obtain⟨W,hW⟩:∃W,W=w.alloc (.cells #[.pointer none,.pointer (some ⟨br,0,none⟩)] 288):=⟨_,rfl⟩
 have hnw:New w W:=by rw[hW];exact Upd.alloc _ _ _
 have hbt:=Ex.alloc_new w (.cells #[.pointer none,.pointer (some ⟨br,0,none⟩)] 288)
 rw[<-hW]at hbt
 have hl1:=(hnw.cell (a:=⟨lb,0,none⟩) (zqB w _ hl) id).trans hl
 have ht0:W.cell? ⟨w.heap.size,0,none⟩=some (.pointer none):=zaa hbt 0 _ rfl
 have ht1:W.cell? ⟨w.heap.size,1,none⟩=some (.pointer (some ⟨br,0,none⟩)):=zaa hbt 1 _ rfl
 have hbl:=hR.lt
 have hbxl:=(zqA.1 hx).1
 have hx1:=(hnw.block _ hbxl id).trans hx
 have h242:=rU64' (hR.upd hnw id (fun _ _ _=>id)) hy hn
 have H1:=zqH h242;have HN:=zqH hnw;have HX:=zqH hx1;have HC:=zqH (And.intro hl1 (And.intro ht0 ht1));have HWW:=zqH hW;have HA:=zqH hA;have HRR:=zqH hR
 have hWs:W.heap.size=w.heap.size+1:=by rw[hW];exact zad _ _
 have HWS:=zqH hWs
 clear h242 hnw hR hy hn hl hx hx1 hbt hA hl1 ht0 ht1 hWs
 go_enter Tryz.func205,Tryz.ntmps205
 go_wp2
 rw[<-hW]
 clear hW
 go_loopw [8] (fun i wr=>(i=.int .i64 0/\wr=W)\/(i=.int .i64 1/\Hid (FieldRd br bx ox cs t w A rest (fun w' v=>v=.int .u64 (y:Int)) (.returned (.tuple #[])) wr))) (fun i _=>1-(intOf i).toNat)
 case atStart=>exact .inl ⟨rfl,rfl⟩
 case round=>
  rcases hrel with⟨rfl,rfl⟩|⟨rfl,hw⟩
  · obtain⟨hl1,ht0,ht1⟩:=HC.out
    go_wp2_with (go_at_call 244
                 refine H1.out.mono ?_
                 rintro e w2 ⟨rfl,A',n',c',hR2,hu2,haw⟩
                 have hx2:=(hu2.block bx (zqL hbxl HN.out.size) hbx).trans HX.out
                 have q1:=zaa hx2 ox _ (Array.getElem?_eq_getElem hox)
                 have q2:=zac hx2 ox
                 have H2:=zqH (And.intro hR2 (And.intro haw hu2));have HX2:=zqH hx2
                 clear hR2 haw hu2 hx2)
    obtain⟨hR2,haw,hu2⟩:=H2.out
    have hset:Upd (fun b=>b=bx) w2 (w2.setCell ⟨bx,ox,none⟩ (.int .u64 (y:Int))):=Upd.setCell w2 _ rfl
    refine⟨.inr ⟨rfl,zqH ⟨.int .u64 (y:Int),A',n',c',rfl,rfl,zab HX2.out _,hR2.upd hset (fun e=>hbx e.symm) (fun a' ha' h0 e=>?_),haw,?_⟩⟩,by simp[intOf]⟩
    · obtain⟨a,ha,hab⟩:=haw a' ha'
      exact HA.out a ha (hab▸e)
    · exact((HN.out.mono (fun _ _ h=>h.elim)).trans (hu2.mono (fun b _ h=>.inl h))).trans (hset.mono (fun b _ h=>.inr h))
  · go_wp2
    go_end0
    exact hw.out
def HistRd (br bx:Nat) (t:TypeId) (w:World) (x y:Nat) (e:Ending) (w':World):Prop:=
 ∃R m d A' n' c',e=.returned (.tuple #[])/\LN (NB w) w' R m d x/\w'.heap[bx]?=some (.cells #[.slice R m d,.int .u64 (y:Int)] t (0,0))/\Rd br w' A' n' c' [] 0/\Upd (fun b=>b=br\/b=bx) w w'
theorem rhist {br bx:Nat} {u0 u1:Value} {t:TypeId} {w:World} {A:Option Addr} {n c x y:Nat} (hR:Rd br w A n c (F1.encH x y) 0) (hb:F1.nb x<=255) (hy:y<18446744073709551616) (hn:n<=4000)
 (hx:w.heap[bx]?=some (.cells #[u0,u1] t (0,0))) (hbx:bx≠br) (hA:∀a,A=some a->a.block≠bx/\a.block<w.heap.size):
 Calls Tryz.prog 137 #[.agg #[.pointer none,.pointer (some ⟨br,0,none⟩)],.pointer (some ⟨bx,0,none⟩)] w (HistRd br bx t w x y):=by
 obtain⟨W,hW⟩:∃W,W=w.alloc (.cells #[.pointer none,.pointer (some ⟨br,0,none⟩)] 288):=⟨_,rfl⟩
 have hnw:New w W:=by rw[hW];exact Upd.alloc _ _ _
 have hbt:=Ex.alloc_new w (.cells #[.pointer none,.pointer (some ⟨br,0,none⟩)] 288)
 rw[<-hW]at hbt
 have hbxl:=(zqA.1 hx).1
 have hbl:=hR.lt
 have ht0:W.cell? ⟨w.heap.size,0,none⟩=some (.pointer none):=zaa hbt 0 _ rfl
 have ht1:W.cell? ⟨w.heap.size,1,none⟩=some (.pointer (some ⟨br,0,none⟩)):=zaa hbt 1 _ rfl
 have h204:∀W' lb,New w W'->W'.cell? ⟨lb,0,none⟩=some (.pointer (some ⟨bx,0,none⟩))->Calls Tryz.prog 204 #[.agg #[.pointer none,.pointer (some ⟨br,0,none⟩)],.slice (some ⟨lb,0,none⟩) 1 1] W' (FieldRd br bx 0 #[u0,u1] t W' A (be 8 y) (fun w' v=>∃R m d,v=.slice R m d/\LN (NB W') w' R m d x)):=fun W' lb hn' hl=>
  rdecs (rest:=be 8 y) (hR.upd hn' id (fun _ _ _=>id)) hb hn (by simp[zah]) hl ((hn'.block _ hbxl id).trans hx) (by simp) hbx (fun a ha=>(hA a ha).1)
 have h205:∀W5 W6 A5 n5 c5 v,New w W5->Upd (fun b=>b=br\/b=bx) W5 W6->Rd br W6 A5 n5 c5 (be 8 y) 0 → (∀a',A5=some a'->∃a,A=some a/\a'.block=a.block)->W6.heap[bx]?=some (.cells #[v,u1] t (0,0))->∀W7 lb,New W6 W7->W7.cell? ⟨lb,0,none⟩=some (.pointer (some ⟨bx,1,none⟩)) ->
    Calls Tryz.prog 205 #[.agg #[.pointer none,.pointer (some ⟨br,0,none⟩)],.slice (some ⟨lb,0,none⟩) 1 1] W7 (FieldRd br bx 1 #[v,u1] t W7 A5 [] (fun w' v=>v=.int .u64 (y:Int))):=fun W5 W6 A5 n5 c5 v h5 h6 hR6 haw hx6 W7 lb h7 hl=>
  rnum1 (rest:=[]) (by rw[List.append_nil];exact hR6.upd h7 id (fun _ _ _=>id)) hy (by have:=hR6.by_.len;rw[zah]at this;omega) hl ((h7.block _ (zqA.1 hx6).1 id).trans hx6) (by simp) hbx (fun a' ha' e=>by obtain⟨a,ha,hab⟩:=haw a' ha';exact(hA a ha).1 (hab▸e))
 have hkeep:∀W5 W6 i v,W5.heap.size > w.heap.size->Upd (fun b=>b=br\/b=bx) W5 W6->W5.cell? ⟨w.heap.size,i,none⟩=some v->W6.cell? ⟨w.heap.size,i,none⟩=some v:=fun W5 W6 i v hs hu hv=>
  (hu.cell (a:=⟨w.heap.size,i,none⟩) hs (fun e=>e.elim (fun e=>by have e:w.heap.size=br:=e;omega) (fun e=>by have e:w.heap.size=bx:=e;omega))).trans hv
 have hWs:w.heap.size<W.heap.size:=by rw[hW,zad];omega
 have H4:=zqH h204;have H5:=zqH h205;have HK:=zqH hkeep;have HN:=zqH hnw;have HWS:=zqH hWs;have HWW:=zqH hW;have HBXL:=zqH hbxl;have HBL:=zqH hbl
 clear h204 h205 hkeep hnw hWs hR hx hb hy hn hbx hA hbt hbl hbxl
 go_enter Tryz.func137,Tryz.ntmps137
 go_wp2
 rw[<-hW]
 clear hW
 go_region_held (fun w'=>w'.cell? ⟨w.heap.size,0,none⟩=some (.pointer none)/\w'.cell? ⟨w.heap.size,1,none⟩=some (.pointer (some ⟨br,0,none⟩))) (go_keep) (
  (go_at_call 204
   obtain⟨W5,hW5⟩:∃W5,W5=(W.alloc (.cells #[.pointer (some ⟨bx,0,none⟩)] 292)).drew:=⟨_,rfl⟩
   rw[<-hW5]
   have n5:New W W5:=by rw[hW5];exact(Upd.alloc _ _ _).drew
   have hl5:W5.cell? ⟨W.heap.size,0,none⟩=some (.pointer (some ⟨bx,0,none⟩)):=by rw[hW5];exact zaa (Ex.alloc_new W _) 0 _ rfl
   refine(H4.out W5 _ (HN.out.trans n5) hl5).mono ?_
   rintro e W6 ⟨_,A5,k5,c5,rfl,⟨R,m,d,rfl,hr⟩,hx6,hR6,haw,hu6⟩
   have s5:w.heap.size<W5.heap.size:=zqL HWS.out n5.size
   have t0:=HK.out W5 W6 0 _ s5 hu6 ((n5.cell (a:=⟨w.heap.size,0,none⟩) HWS.out id).trans ht0)
   have t1:=HK.out W5 W6 1 _ s5 hu6 ((n5.cell (a:=⟨w.heap.size,1,none⟩) HWS.out id).trans ht1)
   have H6:=zqH (H5.out W5 W6 A5 k5 c5 (.slice R m d) (HN.out.trans n5) hu6 hR6 haw (by simpa using hx6))
   have HX:=zqH (And.intro (HN.out.trans n5) (And.intro hu6 hr))
   have HS6:=zqH (zqL s5 hu6.size)
   clear n5 hl5 hW5 hr hx6 hR6 haw hu6 s5))
 all_goals go_wp2
 go_region_held (fun w'=>w'.cell? ⟨w.heap.size,0,none⟩=some (.pointer none)/\w'.cell? ⟨w.heap.size,1,none⟩=some (.pointer (some ⟨br,0,none⟩))) (go_keep) (
  (go_at_call 205
   obtain⟨W7,hW7⟩:∃W7,W7=(W6.alloc (.cells #[.pointer (some ⟨bx,1,none⟩)] 294)).drew:=⟨_,rfl⟩
   rw[<-hW7]
   have n7:New W6 W7:=by rw[hW7];exact(Upd.alloc _ _ _).drew
   have hl7:W7.cell? ⟨W6.heap.size,0,none⟩=some (.pointer (some ⟨bx,1,none⟩)):=by rw[hW7];exact zaa (Ex.alloc_new W6 _) 0 _ rfl
   refine(H6.out W7 _ n7 hl7).mono ?_
   rintro e W8 ⟨_,A9,k9,c9,rfl,rfl,hx8,hR8,haw8,hu8⟩
   have s7:w.heap.size<W7.heap.size:=zqL HS6.out n7.size
   have u0:=HK.out W7 W8 0 _ s7 hu8 ((n7.cell (a:=⟨w.heap.size,0,none⟩) HS6.out id).trans t0)
   have u1:=HK.out W7 W8 1 _ s7 hu8 ((n7.cell (a:=⟨w.heap.size,1,none⟩) HS6.out id).trans t1)
   have HY:=zqH (And.intro n7 (And.intro hx8 (And.intro hR8 hu8)))
   clear n7 hl7 hW7 hx8 hR8 haw8 hu8 s7))
 all_goals go_wp2
 all_goals go_end0
 obtain⟨hn5,hu6,hr⟩:=HX.out
 obtain⟨n7,hx8,hR8,hu8⟩:=HY.out
 refine⟨R,m,d,A9,k9,c9,rfl,?_,by simpa using hx8,hR8,?_⟩
 · have hs5:=hn5.size
   have h1:=hr.new n7
   exact(h1.upd hu8 (fun b hb e=>by
    have hb:W5.heap.size<=b:=hb
    have:=HBL.out;have:=HBXL.out
    rcases e with e|e<;>omega)).mono (fun b _ hb=>Nat.le_trans hs5 hb)
 · exact(((hn5.mono (fun _ _ h=>h.elim)).trans hu6).trans (n7.mono (fun _ _ h=>h.elim))).trans hu8
def DecR (w:World) (x:Nat) (e:Ending) (w':World):Prop:=∃R m d,e=.returned (.agg #[.slice R m d])/\LN (NB w) w' R m d x/\New w w'
theorem zbc {w W:World} {b:Nat} {R:Option Addr} {m d x:Nat} (hn:New w W) (hb:W.heap[b]?=some (.cells #[.slice none 0 0] 26 (0,0))) (hwb:w.heap.size<=b) (hr:LN (fun c=>b<c) W R m d x):
 W.cell? ⟨b,0,none⟩=some (.slice none 0 0)/\W.frozen? ⟨b,0,none⟩=false/\(W.setCell ⟨b,0,none⟩ (.slice R m d)).cell? ⟨b,0,none⟩=some (.slice R m d)/\LN (NB w) (W.setCell ⟨b,0,none⟩ (.slice R m d)) R m d x/\New w (W.setCell ⟨b,0,none⟩ (.slice R m d)):=by
 have hset:Upd (fun c=>c=b) W (W.setCell ⟨b,0,none⟩ (.slice R m d)):=Upd.setCell W _ rfl
 refine⟨zaa hb 0 _ rfl,zac hb 0,zaa (zab hb (.slice R m d) (i:=0)) 0 _ rfl,?_,hn.then hset (fun c hc e=>by have e:c=b:=e;omega)⟩
 exact(hr.upd hset (fun c hc e=>by have e:c=b:=e;have hc:b<c:=hc;omega)).mono (fun c _ hc=>by have hc:b<c:=hc;show w.heap.size<=c;omega)
theorem unit_ln (w:World):Calls Tryz.prog 113 #[] w fun e w'=>e=.returned (.slice (some ⟨w.heap.size,0,none⟩) 2 2)/\LN (NB w) w' (some ⟨w.heap.size,0,none⟩) 2 2 (10 ^ 36)/\New w w':=by
 refine(unit_c w).mono ?_
 rintro e w' ⟨rfl,rfl⟩
 have hb:=Ex.alloc_new w (.cells (unitL.map Gn.u64).toArray 22)
 have hnv:Gn.NatV 22 (w.alloc (.cells (unitL.map Gn.u64).toArray 22)) (some ⟨w.heap.size,0,none⟩) 2 2 unitL:=
  Gn.NatV.of_block hb rfl (Nat.le_refl _) (by unfold maxLen;omega) (fun x hx=>by simp[unitL]at hx;rcases hx with rfl|rfl<;>decide) (fun i h=>by simp only[List.getElem?_toArray,List.getElem?_map,List.getElem?_eq_getElem h,Option.map_some])
 have:=LN.of (Q:=NB w) hnv (by unfold Gn.Norm unitL;simp) (by rw[val_unit];exact zqL (show 10 ^ 36<Gn.B ^ 2 by decide) (@zbj 2 1000 (by omega))) (fun a e=>by cases e;exact Nat.le_refl _)
 rw[val_unit]at this
 exact⟨rfl,this,Upd.alloc _ _ _⟩
theorem ofnat_c {Q:Nat->Prop} {w:World} {A:Option Addr} {n c x:Nat} (h:LQ Q w A n c x) (hb:x*10 ^ 36<Gn.B ^ 1000):Calls Tryz.prog 74 #[.slice A n c] w (DecR w (x*10 ^ 36)):=by
 obtain⟨W,hW⟩:∃W,W=w.alloc (.cells #[.slice none 0 0] 26):=⟨_,rfl⟩
 have hnw:New w W:=by rw[hW];exact Upd.alloc _ _ _
 have hbt:=Ex.alloc_new w (.cells #[.slice none 0 0] 26)
 rw[<-hW]at hbt
 have hs:W.heap.size=w.heap.size+1:=by rw[hW];exact zad _ _
 obtain⟨U,hU⟩:∃U,U=10 ^ 36:=⟨_,rfl⟩
 have hu:=unit_ln W
 rw[<-hU]at hu hb ⊢
 have H:=zqH (h.new hnw);have HB:=zqH hbt;have HN:=zqH hnw;have HS:=zqH hs;have HU:=zqH hu;have HBB:=zqH hb
 clear h hbt hnw hs hU hb hu
 go_enter Tryz.func74,Tryz.ntmps74
 go_upto_region 1 with fail
 rw[<-hW]
 clear hW
 go_wp2_with (first
  | (go_at_call 113;refine HU.out.mono ?_;rintro e w1 ⟨rfl,hu1,hn1⟩;have h29:=nmul (H.out.new hn1) hu1.lq HBB.out;have N1:=zqH hn1;clear hu1 hn1)
  | (go_at_call 29;refine h29.mono ?_;rintro e w2 ⟨R,m,d,rfl,hr2,hn2⟩;obtain⟨c0,z0,q0,hl,hnw⟩:=zbc (HN.out.trans (N1.out.trans hn2)) (((N1.out.trans hn2).block _ (by have:=HS.out;omega) id).trans HB.out) (Nat.le_refl _) (hr2.mono (fun b _ hb=>by have hb:w1.heap.size<=b:=hb;have:=HS.out;have:=N1.out.size;show w.heap.size<b;omega));have QQ:=zqH (And.intro q0 (And.intro hl hnw));clear h29 hr2 hn2 q0 hl hnw))
 obtain⟨q0,hl,hnw⟩:=QQ.out
 refine bodyPost_ret (by simp[results,Tryz.results74,go_sem,q0];try rfl) rfl ?_
 exact⟨R,m,d,rfl,hl,hnw⟩
theorem of_c {w:World} (x:Nat) (hx:x<18446744073709551616):Calls Tryz.prog 24 #[.int .u64 (x:Int)] w (DecR w (x*10 ^ 36)):=by
 obtain⟨W,hW⟩:∃W,W=w.alloc (.cells #[.slice none 0 0] 26):=⟨_,rfl⟩
 have hnw:New w W:=by rw[hW];exact Upd.alloc _ _ _
 have hbt:=Ex.alloc_new w (.cells #[.slice none 0 0] 26)
 rw[<-hW]at hbt
 have hs:W.heap.size=w.heap.size+1:=by rw[hW];exact zad _ _
 have hxb:x*10 ^ 36<Gn.B ^ 1000:=by
  have h1:x*10 ^ 36<Gn.B*Gn.B ^ 2:=Nat.mul_lt_mul_of_lt_of_le hx (by decide) (by decide)
  exact zqL h1 (by rw[<-Nat.pow_succ'];exact @zbj 3 1000 (by omega))
 have h1:=nof x hx W
 have h2:∀W' Q A n c,LQ Q W' A n c x->Calls Tryz.prog 74 #[.slice A n c] W' (DecR W' (x*10 ^ 36)):=fun W' Q A n c h=>ofnat_c h hxb
 obtain⟨X,hX⟩:∃X,X=x*10 ^ 36:=⟨_,rfl⟩
 rw[<-hX]at h2 ⊢
 have H1:=zqH h1;have H2:=zqH h2;have HB:=zqH hbt;have HN:=zqH hnw;have HS:=zqH hs
 clear h1 h2 hbt hnw hs hX hxb hx
 go_enter Tryz.func24,Tryz.ntmps24
 go_upto_region 1 with fail
 rw[<-hW]
 clear hW
 go_wp2_with (first
  | (go_at_call 30;refine H1.out.mono ?_;rintro e w1 ⟨A,n,c,rfl,hr1,hn1⟩;have h74:=H2.out w1 _ A n c hr1.lq;have N1:=zqH hn1;clear H1 hr1 hn1)
  | (go_at_call 74;refine h74.mono ?_;rintro e w2 ⟨R,m,d,rfl,hr2,hn2⟩;obtain⟨c0,z0,q0,hl,hnw⟩:=zbc (HN.out.trans (N1.out.trans hn2)) (((N1.out.trans hn2).block _ (by have:=HS.out;omega) id).trans HB.out) (Nat.le_refl _) (hr2.mono (fun b _ hb=>by have hb:w1.heap.size<=b:=hb;have:=HS.out;have:=N1.out.size;show w.heap.size<b;omega));have QQ:=zqH (And.intro q0 (And.intro hl hnw));clear h74 hr2 hn2 q0 hl hnw))
 obtain⟨q0,hl,hnw⟩:=QQ.out
 refine bodyPost_ret (by simp[results,Tryz.results24,go_sem,q0];try rfl) rfl ?_
 exact⟨R,m,d,rfl,hl,hnw⟩
theorem boxes2 (w:World) (v v':Value):∃W,W=((w.alloc (.cells #[v] 26)).alloc (.cells #[v'] 26)).alloc (.cells #[.slice none 0 0] 26)/\New w W/\W.heap.size=w.heap.size+1+1+1/\W.cell? ⟨w.heap.size,0,none⟩=some v/\W.cell? ⟨w.heap.size+1,0,none⟩=some v'/\W.heap[w.heap.size+1+1]?=some (.cells #[.slice none 0 0] 26 (0,0)):=by
 obtain⟨W1,h1⟩:∃W1,W1=w.alloc (.cells #[v] 26):=⟨_,rfl⟩
 obtain⟨W2,h2⟩:∃W2,W2=W1.alloc (.cells #[v'] 26):=⟨_,rfl⟩
 obtain⟨W3,h3⟩:∃W3,W3=W2.alloc (.cells #[.slice none 0 0] 26):=⟨_,rfl⟩
 have s1:W1.heap.size=w.heap.size+1:=by rw[h1];exact zad _ _
 have s2:W2.heap.size=w.heap.size+1+1:=by rw[h2,zad,s1]
 have n1:New w W1:=by rw[h1];exact Upd.alloc _ _ _
 have n2:New W1 W2:=by rw[h2];exact Upd.alloc _ _ _
 have n3:New W2 W3:=by rw[h3];exact Upd.alloc _ _ _
 refine⟨W3,by rw[h3,h2,h1],n1.trans (n2.trans n3),by rw[h3,zad,s2],?_,?_,?_⟩
 · exact zaa ((n3.block _ (by omega) id).trans ((n2.block _ (by omega) id).trans (by rw[h1];exact Ex.alloc_new w _))) 0 _ rfl
 · exact zaa ((n3.block _ (by omega) id).trans (by rw[h2,<-s1];exact Ex.alloc_new W1 _)) 0 _ rfl
 · rw[h3,<-s2];exact Ex.alloc_new W2 _
theorem dadd_c {Q Q':Nat->Prop} {w:World} {A A':Option Addr} {n c n' c' x y:Nat} (h:LQ Q w A n c x) (h':LQ Q' w A' n' c' y) (hb:x+y<Gn.B ^ 1000):Calls Tryz.prog 36 #[.agg #[.slice A n c],.agg #[.slice A' n' c']] w (DecR w (x+y)):=by
 obtain⟨W,hW,hnw,hs,c1,c2,hbt⟩:=boxes2 w (.slice A n c) (.slice A' n' c')
 have h1:=nadd (h.new hnw) (h'.new hnw) hb
 have H1:=zqH h1;have HB:=zqH hbt;have HN:=zqH hnw;have HS:=zqH hs
 clear h1 hbt hnw hs h h' hb
 go_enter Tryz.func36,Tryz.ntmps36
 go_upto_region 1 with fail
 rw[<-hW]
 clear hW
 go_wp2_with (go_at_call 28;refine H1.out.mono ?_;rintro e w2 ⟨R,m,d,rfl,hr2,hn2⟩;obtain⟨c0,z0,q0,hl,hnw⟩:=zbc (b:=w.heap.size+1+1) (HN.out.trans hn2) ((hn2.block _ (by have:=HS.out;omega) id).trans HB.out) (by omega) (hr2.mono (fun b _ hb=>by have hb:W.heap.size<=b:=hb;have:=HS.out;show w.heap.size+1+1<b;omega));have QQ:=zqH (And.intro q0 (And.intro hl hnw));clear H1 hr2 hn2 q0 hl hnw)
 obtain⟨q0,hl,hnw⟩:=QQ.out
 refine bodyPost_ret (by simp[results,Tryz.results36,go_sem,q0];try rfl) rfl ?_
 exact⟨R,m,d,rfl,hl,hnw⟩
def DecE (w:World) (x:Nat) (er:Int) (e:Ending) (w':World):Prop:=∃R m d,e=.returned (.tuple #[.agg #[.slice R m d],.int .i64 er])/\LN (NB w) w' R m d x/\New w w'
theorem dsub_c {Q Q':Nat->Prop} {w:World} {A A':Option Addr} {n c n' c' x y:Nat} (h:LQ Q w A n c x) (h':LQ Q' w A' n' c' y) (hle:y<=x):Calls Tryz.prog 88 #[.agg #[.slice A n c],.agg #[.slice A' n' c']] w (DecE w (x-y) 0):=by
 obtain⟨W,hW,hnw,hs,c1,c2,hbt⟩:=boxes2 w (.slice A n c) (.slice A' n' c')
 have h1:=nsub (h.new hnw) (h'.new hnw) hle
 have H1:=zqH h1;have HB:=zqH hbt;have HN:=zqH hnw;have HS:=zqH hs
 clear h1 hbt hnw hs h h' hle
 go_enter Tryz.func88,Tryz.ntmps88
 go_upto_region 1 with fail
 rw[<-hW]
 clear hW
 go_wp2_with (go_at_call 141;refine H1.out.mono ?_;rintro e w2 ⟨R,m,d,rfl,hr2,hn2⟩;obtain⟨c0,z0,q0,hl,hnw⟩:=zbc (b:=w.heap.size+1+1) (HN.out.trans hn2) ((hn2.block _ (by have:=HS.out;omega) id).trans HB.out) (by omega) (hr2.mono (fun b _ hb=>by have hb:W.heap.size<=b:=hb;have:=HS.out;show w.heap.size+1+1<b;omega));have QQ:=zqH (And.intro q0 (And.intro hl hnw));clear H1 hr2 hn2 q0 hl hnw)
 obtain⟨q0,hl,hnw⟩:=QQ.out
 refine bodyPost_ret (by simp[results,Tryz.results88,go_sem,q0];try rfl) rfl ?_
 exact⟨R,m,d,rfl,hl,hnw⟩
theorem rounder_c (w:World):Calls Tryz.prog 90 #[.slice none 0 0] w fun e w'=>e=.returned (.func (.func 143) #[] #[.pointer (some ⟨w.heap.size,0,none⟩)])/\w'=w.alloc (.cells #[.slice none 0 0] 24):=by
 go_enter Tryz.func90,Tryz.ntmps90
 go_wp2
 go_ret
 exact⟨rfl,rfl⟩
theorem round1_c {Q Q' Q'':Nat->Prop} {w:World} {A A' A'':Option Addr} {n c n' c' n'' c'' x y z ub:Nat} (h:LQ Q w A n c x) (h':LQ Q' w A' n' c' y) (h'':LQ Q'' w A'' n'' c'' z) (h0:0<z) (hb:x*y<Gn.B ^ 1000) (hub:w.cell? ⟨ub,0,none⟩=some (.slice none 0 0)):
 Calls Tryz.prog 143 #[.slice A n c,.slice A' n' c',.slice A'' n'' c'',.pointer (some ⟨ub,0,none⟩)] w (DecE w (x*y / z) 0):=by
 obtain⟨W,hW⟩:∃W,W=w.alloc (.cells #[.slice none 0 0] 26):=⟨_,rfl⟩
 have hnw:New w W:=by rw[hW];exact Upd.alloc _ _ _
 have hbt:=Ex.alloc_new w (.cells #[.slice none 0 0] 26)
 rw[<-hW]at hbt
 have hs:W.heap.size=w.heap.size+1:=by rw[hW];exact zad _ _
 have hul:=zqB w _ hub
 have hub1:=(hnw.cell (a:=⟨ub,0,none⟩) hul id).trans hub
 have h1:=nmuldiv (h.new hnw) (h'.new hnw) (h''.new hnw) h0 hb
 have hqb:x*y / z+0<Gn.B ^ 1000:=Nat.lt_of_le_of_lt (Nat.div_le_self _ _) hb
 obtain⟨X,hX⟩:∃X,X=x*y / z:=⟨_,rfl⟩
 obtain⟨Y,hY⟩:∃Y,Y=x*y % z:=⟨_,rfl⟩
 unfold DivN at h1
 rw[<-hX,<-hY]at h1
 rw[<-hX]at hqb ⊢
 have H1:=zqH h1;have HB:=zqH hbt;have HN:=zqH hnw;have HS:=zqH hs;have HQ:=zqH hqb;have HUB:=zqH (And.intro hul hub1)
 clear h1 hbt hnw hs hX hY hqb h h' h'' hb h0 hub hul hub1
 go_enter Tryz.func143,Tryz.ntmps143
 go_upto_region 1 with fail
 rw[<-hW]
 clear hW
 go_upto_region 4 with(go_at_call 144;refine H1.out.mono ?_;rintro e w2 ⟨R,m,d,R',m',d',rfl,hr2,hr2',hn2⟩;have H2:=zqH (And.intro hr2 (And.intro hr2'.few hn2));clear H1 hr2 hr2' hn2)
 obtain⟨hr2,hm',hn2⟩:=H2.out
 by_cases hm0:0<m'
 · have hu2:w2.cell? ⟨ub,0,none⟩=some (.slice none 0 0):=(hn2.cell (a:=⟨ub,0,none⟩) (zqL HUB.out.1 HN.out.size) id).trans HUB.out.2
   have h28:=nadd hr2.lq (LN.nil (fun _=>False) w2).lq HQ.out
   have H28:=zqH h28;have N2:=zqH hn2
   clear hr2 hn2 h28
   go_wp2_with (go_at_call 28;refine H28.out.mono ?_;rintro e w3 ⟨R3,m3,d3,rfl,hr3,hn3⟩;rw[Nat.add_zero]at hr3;obtain⟨c0,z0,q0,hl,hnw⟩:=zbc (b:=w.heap.size) (HN.out.trans (N2.out.trans hn3)) (((N2.out.trans hn3).block _ (by have:=HS.out;omega) id).trans HB.out) (Nat.le_refl _) (hr3.mono (fun b _ hb=>by have hb:w2.heap.size<=b:=hb;have:=HS.out;have:=N2.out.size;show w.heap.size<b;omega));have QQ:=zqH (And.intro q0 (And.intro hl hnw));clear H28 hr3 hn3 q0 hl hnw)
   obtain⟨q0,hl,hnw⟩:=QQ.out
   refine bodyPost_ret (by simp[results,Tryz.results143,go_sem,q0];try rfl) rfl ?_
   exact⟨R3,m3,d3,rfl,hl,hnw⟩
 · obtain rfl:m'=0:=by omega
   obtain⟨c0,z0,q0,hl,hnw⟩:=zbc (b:=w.heap.size) (HN.out.trans hn2) ((hn2.block _ (by have:=HS.out;omega) id).trans HB.out) (Nat.le_refl _) (hr2.mono (fun b _ hb=>by have hb:W.heap.size<=b:=hb;have:=HS.out;show w.heap.size<b;omega))
   have QQ:=zqH (And.intro q0 (And.intro hl hnw))
   clear q0 hl hnw hr2 hn2
   go_wp2
   obtain⟨q0,hl,hnw⟩:=QQ.out
   refine bodyPost_ret (by simp[results,Tryz.results143,go_sem,q0];try rfl) rfl ?_
   exact⟨R,m,d,rfl,hl,hnw⟩
end Go.Proofs.YtbhnjkegkadodaaGreatDoor
namespace Go.Proofs.YtbhnjkegkadodaaGreatDoor
open Go Go.RowKit Go.Proofs Gl Gn
def Zer (w:World) (e:Ending) (w':World):Prop:=e=.returned (.tuple #[.slice none 0 0,.slice none 0 0,.int .i64 11])/\New w w'
theorem ndivmod0 {Q Q':Nat->Prop} {w:World} {A A':Option Addr} {n c n' c' x:Nat} (h:LQ Q w A n c x) (h':LQ Q' w A' n' c' 0):Calls Tryz.prog 140 #[.slice A n c,.slice A' n' c'] w (Zer w):=by
 obtain⟨l,h1,rfl⟩:=h.nat
 obtain⟨l',h2,h0⟩:=h'.nat
 obtain⟨N,hN⟩:∃N,N=trimLen l:=⟨_,rfl⟩
 have hM:trimLen l'=0:=by
  rcases Nat.eq_zero_or_pos (trimLen l') with h|h
  · exact h
  · exfalso
    have hv:Gn.val (trim l')=0:=by rw[val_trim];exact h0
    have hp:=val_lt_len (a:=[]) (by intro b hb;cases hb) (norm_trim l') (by rw[zaq];simpa using h)
    rw[hv]at hp
    simp at hp
 have TA:=zax h1
 have TB:=zax h2
 rw[<-hN]at TA
 rw[hM]at TB
 have HA:=zqH TA;have HB:=zqH TB
 clear TA TB h1 h2 h0 hN hM h h'
 go_enter Tryz.func140,Tryz.ntmps140
 go_wp2_with fail
 refine HA.out.mono ?_
 rintro e w3 ⟨rfl,rfl⟩
 go_wp2_with fail
 refine HB.out.mono ?_
 rintro e w3 ⟨rfl,rfl⟩
 go_wp2
 go_ret3
 exact⟨rfl,Upd.refl _ _⟩
theorem nmuldiv0 {Q Q' Q'':Nat->Prop} {w:World} {A A' A'':Option Addr} {n c n' c' n'' c'' x y:Nat} (h:LQ Q w A n c x) (h':LQ Q' w A' n' c' y) (h'':LQ Q'' w A'' n'' c'' 0) (hb:x*y<Gn.B ^ 1000):Calls Tryz.prog 144 #[.slice A n c,.slice A' n' c',.slice A'' n'' c''] w (Zer w):=by
 have H1:=zqH (nmul h h' hb)
 have H2:=zqH h''
 clear h h' h''
 go_enter Tryz.func144,Tryz.ntmps144
 go_wp2_with (first
  | (go_at_call 29;refine H1.out.mono ?_;rintro e w1 ⟨R,m,d,rfl,hr,hn1⟩;have H3:=zqH (And.intro hr hn1);clear hr hn1)
  | (go_at_call 140;refine(ndivmod0 H3.out.1.lq (H2.out.new H3.out.2)).mono ?_;rintro e w2 ⟨rfl,hn2⟩))
 go_ret3
 exact⟨rfl,H3.out.2.trans hn2⟩
theorem round1_0 {Q Q' Q'':Nat->Prop} {w:World} {A A' A'':Option Addr} {n c n' c' n'' c'' x y ub:Nat} (h:LQ Q w A n c x) (h':LQ Q' w A' n' c' y) (h'':LQ Q'' w A'' n'' c'' 0) (hb:x*y<Gn.B ^ 1000):
 Calls Tryz.prog 143 #[.slice A n c,.slice A' n' c',.slice A'' n'' c'',.pointer (some ⟨ub,0,none⟩)] w (DecE w 0 21):=by
 obtain⟨W,hW⟩:∃W,W=w.alloc (.cells #[.slice none 0 0] 26):=⟨_,rfl⟩
 have hnw:New w W:=by rw[hW];exact Upd.alloc _ _ _
 have hbt:=Ex.alloc_new w (.cells #[.slice none 0 0] 26)
 rw[<-hW]at hbt
 have hs:W.heap.size=w.heap.size+1:=by rw[hW];exact zad _ _
 have H1:=zqH (nmuldiv0 (h.new hnw) (h'.new hnw) (h''.new hnw) hb);have HB:=zqH hbt;have HN:=zqH hnw;have HS:=zqH hs
 clear hbt hnw hs h h' h'' hb
 go_enter Tryz.func143,Tryz.ntmps143
 go_upto_region 1 with fail
 rw[<-hW]
 clear hW
 go_upto_region 3 with(go_at_call 144;refine H1.out.mono ?_;rintro e w2 ⟨rfl,hn2⟩;obtain⟨c0,z0,q0,hl,hnw⟩:=zbc (b:=w.heap.size) (HN.out.trans hn2) ((hn2.block _ (by have:=HS.out;omega) id).trans HB.out) (Nat.le_refl _) (LN.nil _ w2);have QQ:=zqH (And.intro q0 (And.intro hl hnw));clear q0 hl hnw hn2 H1)
 go_wp2
 obtain⟨q0,hl,hnw⟩:=QQ.out
 refine bodyPost_ret (by simp[results,Tryz.results143,go_sem,q0];try rfl) rfl ?_
 exact⟨none,0,0,rfl,hl,hnw⟩
def erz (z:Nat):Int:=if z=0 then 21 else 0
theorem erz_pos {z:Nat} (h:0<z):erz z=0:=if_neg (by omega)
theorem round1_any {Q Q' Q'':Nat->Prop} {w:World} {A A' A'':Option Addr} {n c n' c' n'' c'' x y z ub:Nat} (h:LQ Q w A n c x) (h':LQ Q' w A' n' c' y) (h'':LQ Q'' w A'' n'' c'' z) (hb:x*y<Gn.B ^ 1000) (hub:w.cell? ⟨ub,0,none⟩=some (.slice none 0 0)):
 Calls Tryz.prog 143 #[.slice A n c,.slice A' n' c',.slice A'' n'' c'',.pointer (some ⟨ub,0,none⟩)] w (DecE w (x*y / z) (erz z)):=by
 rcases Nat.eq_zero_or_pos z with h0|h0
 · subst h0;rw[Nat.div_zero];exact round1_0 h h' h'' hb
 · rw[erz_pos h0];exact round1_c h h' h'' h0 hb hub
theorem nsub0 {Q Q':Nat->Prop} {w:World} {A A':Option Addr} {n c n' c' x y:Nat} (h:LQ Q w A n c x) (h':LQ Q' w A' n' c' y) (hlt:x<y):Calls Tryz.prog 141 #[.slice A n c,.slice A' n' c'] w fun e w'=>e=.returned (.tuple #[.slice none 0 0,.int .i64 10])/\New w w':=by
 have HC:=ncmp h h'
 rw[show cmpI x y = -1 from cmpI_lt (by omega)]at HC
 have H:=zqH HC
 clear HC h h' hlt
 go_enter Tryz.func141,Tryz.ntmps141
 go_wp2_with (go_at_call 31;refine H.out.mono ?_;rintro e w' ⟨rfl,q,rfl⟩)
 go_ret2
 exact⟨by simp,(Upd.refl _ _).drewN q⟩
theorem dsub0 {Q Q':Nat->Prop} {w:World} {A A':Option Addr} {n c n' c' x y:Nat} (h:LQ Q w A n c x) (h':LQ Q' w A' n' c' y) (hlt:x<y):Calls Tryz.prog 88 #[.agg #[.slice A n c],.agg #[.slice A' n' c']] w (DecE w 0 20):=by
 obtain⟨W,hW,hnw,hs,c1,c2,hbt⟩:=boxes2 w (.slice A n c) (.slice A' n' c')
 have h1:=nsub0 (h.new hnw) (h'.new hnw) hlt
 have H1:=zqH h1;have HB:=zqH hbt;have HN:=zqH hnw;have HS:=zqH hs
 clear h1 hbt hnw hs h h' hlt
 go_enter Tryz.func88,Tryz.ntmps88
 go_upto_region 1 with fail
 rw[<-hW]
 clear hW
 go_wp2_with (go_at_call 141;refine H1.out.mono ?_;rintro e w2 ⟨rfl,hn2⟩;obtain⟨c0,z0,q0,hl,hnw⟩:=zbc (b:=w.heap.size+1+1) (HN.out.trans hn2) ((hn2.block _ (by have:=HS.out;omega) id).trans HB.out) (by omega) (LN.nil _ w2);have QQ:=zqH (And.intro q0 (And.intro hl hnw));clear q0 hl hnw hn2)
 obtain⟨q0,hl,hnw⟩:=QQ.out
 refine bodyPost_ret (by simp[results,Tryz.results88,go_sem,q0];try rfl) rfl ?_
 exact⟨none,0,0,rfl,hl,hnw⟩
theorem dsub_any {Q Q':Nat->Prop} {w:World} {A A':Option Addr} {n c n' c' x y:Nat} (h:LQ Q w A n c x) (h':LQ Q' w A' n' c' y):∃k,Calls Tryz.prog 88 #[.agg #[.slice A n c],.agg #[.slice A' n' c']] w (DecE w (x-y) k):=by
 rcases Nat.lt_or_ge x y with hl|hl
 · exact⟨20,by rw[Nat.sub_eq_zero_of_le (by omega)];exact dsub0 h h' hl⟩
 · exact⟨0,dsub_c h h' hl⟩
end Go.Proofs.YtbhnjkegkadodaaGreatDoor
namespace Go.Proofs.YtbhnjkegkadodaaGreatDoor
open Go Go.RowKit Go.Proofs Gl
theorem over_any {Q:Nat->Prop} {w:World} {A:Option Addr} {n c x t:Nat} (h:LQ Q w A n c x) (ht:t<18446744073709551616):
 Calls Tryz.prog 39 #[.agg #[.slice A n c],.int .u64 (t:Int)] w (DecE w (x / t) (erz t)):=by
 obtain⟨W1,hW1⟩:∃W1,W1=w.alloc (.cells #[.slice A n c] 26):=⟨_,rfl⟩
 obtain⟨W,hW⟩:∃W,W=W1.alloc (.cells #[.slice none 0 0] 26):=⟨_,rfl⟩
 have s1:W1.heap.size=w.heap.size+1:=by rw[hW1];exact zad _ _
 have s2:W.heap.size=w.heap.size+1+1:=by rw[hW,zad,s1]
 have n1:New w W1:=by rw[hW1];exact Upd.alloc _ _ _
 have n2:New W1 W:=by rw[hW];exact Upd.alloc _ _ _
 have hnw:New w W:=n1.trans n2
 have b1:W.heap[w.heap.size]?=some (.cells #[.slice A n c] 26 (0,0)):=(n2.block _ (by omega) id).trans (by rw[hW1];exact Ex.alloc_new w _)
 have hbt:W.heap[w.heap.size+1]?=some (.cells #[.slice none 0 0] 26 (0,0)):=by rw[hW,<-s1];exact Ex.alloc_new W1 _
 have l0:W.cell? ⟨w.heap.size,0,none⟩=some (.slice A n c):=zaa b1 0 _ rfl
 have hkeep:∀W',New W W'->W'.cell? ⟨w.heap.size,0,none⟩=some (.slice A n c):=fun W' hn=>(hn.cell (a:=⟨w.heap.size,0,none⟩) (by show w.heap.size<_;omega) id).trans l0
 have hx:=h.lt
 have hxb:x*1<Gn.B ^ 1000:=by rw[Nat.mul_one];exact zqL hx (@zbj _ 1000 h.few)
 have h143:∀W' A1 k1 e1 A2 k2 e2 ub,New W W'->LQ (NB W) W' A1 k1 e1 1->LQ (NB W) W' A2 k2 e2 t->W'.cell? ⟨ub,0,none⟩=some (.slice none 0 0)->Calls Tryz.prog 143 #[.slice A n c,.slice A1 k1 e1,.slice A2 k2 e2,.pointer (some ⟨ub,0,none⟩)] W' (DecE W' (x / t) (erz t)):=fun W' A1 k1 e1 A2 k2 e2 ub hn g1 g2 hu=>by
  have:=round1_any (h.new (hnw.trans hn)) g1 g2 hxb hu
  rwa [Nat.mul_one]at this
 obtain⟨ez,hez⟩:∃ez,ez=erz t:=⟨_,rfl⟩
 rw[<-hez]at h143 ⊢
 have H3:=zqH h143;have HK:=zqH hkeep;have HB:=zqH hbt;have HN:=zqH hnw;have S2:=zqH s2;have HT:=zqH ht
 clear h143 hkeep hbt hnw s1 s2 n1 n2 b1 hx hxb h ht hez
 go_enter Tryz.func39,Tryz.ntmps39
 go_upto_region 1 with fail
 rw[<-hW1,<-hW]
 clear hW1 hW
 go_region_held (fun w'=>w'.cell? ⟨w.heap.size,0,none⟩=some (.slice A n c)) (go_keep) (first
  | (go_at_call 90
     refine(rounder_c _).mono ?_
     rintro e w1 ⟨rfl,hw1⟩
     have n1:New W w1:=by rw[hw1];exact(Upd.refl _ W).drew.trans (Upd.alloc _ _ _)
     have hu1:w1.cell? ⟨W.drew.heap.size,0,none⟩=some (.slice none 0 0):=by rw[hw1];exact zaa (Ex.alloc_new W.drew _) 0 _ rfl
     have d1:=HK.out _ n1
     have E1:=zqH (And.intro n1 hu1)
     clear hw1 n1 hu1)
  | (go_at_call_of 30 (Value.int IntKind.u64 1)
     refine(nof 1 (by decide) w1).mono ?_
     rintro e w2 ⟨A1,k1,e1,rfl,hr1,hn2⟩
     have d2:=HK.out _ (E1.out.1.trans hn2)
     have E2:=zqH (And.intro hr1 hn2)
     clear hr1 hn2)
  | (go_at_call_of 30 (Value.int IntKind.u64 (t:Int))
     refine(nof t HT.out w2).mono ?_
     rintro e w3 ⟨A2,k2,e2,rfl,hr2,hn3⟩
     have d3:=HK.out _ ((E1.out.1.trans E2.out.2).trans hn3)
     have E3:=zqH (And.intro hr2 hn3)
     clear hr2 hn3)
  | (go_at_call 143
     refine(H3.out w3 A1 k1 e1 A2 k2 e2 _ ((E1.out.1.trans E2.out.2).trans E3.out.2) ((E2.out.1.lq.mono (fun b _ hb=>Nat.le_trans E1.out.1.size hb)).new E3.out.2) (E3.out.1.lq.mono (fun b _ hb=>Nat.le_trans (E1.out.1.trans E2.out.2).size hb)) (((E2.out.2.trans E3.out.2).cell (a:=⟨W.drew.heap.size,0,none⟩) (zqB w1 _ E1.out.2) id).trans E1.out.2)).mono ?_
     rintro e w4 ⟨R,m,d,rfl,hr4,hn4⟩
     have n4:New W w4:=((E1.out.1.trans E2.out.2).trans E3.out.2).trans hn4
     have d4:=HK.out _ n4
     obtain⟨c0,z0,q0,hl,hnw⟩:=zbc (b:=w.heap.size+1) (HN.out.trans n4) ((n4.block _ (by have:=S2.out;omega) id).trans HB.out) (by omega) (hr4.mono (fun b _ hb=>by have hb:w3.heap.size<=b:=hb;have:=S2.out;have:=((E1.out.1.trans E2.out.2).trans E3.out.2).size;show w.heap.size+1<b;omega))
     have QQ:=zqH (And.intro q0 (And.intro hl hnw))
     clear hr4 hn4 n4 q0 hl hnw))
 clear c0 z0
 go_wp2
 obtain⟨q0,hl,hnw⟩:=QQ.out
 refine bodyPost_ret (by simp[results,Tryz.results39,go_sem,q0];try rfl) rfl ?_
 exact⟨R,m,d,rfl,hl,hnw⟩
theorem over_c {Q:Nat->Prop} {w:World} {A:Option Addr} {n c x t:Nat} (h:LQ Q w A n c x) (h0:0<t) (ht:t<18446744073709551616):
 Calls Tryz.prog 39 #[.agg #[.slice A n c],.int .u64 (t:Int)] w (DecE w (x / t) 0):=by
 have:=over_any h ht
 rwa [erz_pos h0]at this
theorem boxes3 (w:World) (v v' v'':Value):∃W,W=(((w.alloc (.cells #[v] 26)).alloc (.cells #[v'] 26)).alloc (.cells #[v''] 26)).alloc (.cells #[.slice none 0 0] 26)/\New w W/\W.heap.size=w.heap.size+1+1+1+1/\W.cell? ⟨w.heap.size,0,none⟩=some v/\W.cell? ⟨w.heap.size+1,0,none⟩=some v'/\W.cell? ⟨w.heap.size+1+1,0,none⟩=some v''/\W.heap[w.heap.size+1+1+1]?=some (.cells #[.slice none 0 0] 26 (0,0)):=by
 obtain⟨W1,h1⟩:∃W1,W1=w.alloc (.cells #[v] 26):=⟨_,rfl⟩
 obtain⟨W2,h2⟩:∃W2,W2=W1.alloc (.cells #[v'] 26):=⟨_,rfl⟩
 obtain⟨W3,h3⟩:∃W3,W3=W2.alloc (.cells #[v''] 26):=⟨_,rfl⟩
 obtain⟨W4,h4⟩:∃W4,W4=W3.alloc (.cells #[.slice none 0 0] 26):=⟨_,rfl⟩
 have s1:W1.heap.size=w.heap.size+1:=by rw[h1];exact zad _ _
 have s2:W2.heap.size=w.heap.size+1+1:=by rw[h2,zad,s1]
 have s3:W3.heap.size=w.heap.size+1+1+1:=by rw[h3,zad,s2]
 have n1:New w W1:=by rw[h1];exact Upd.alloc _ _ _
 have n2:New W1 W2:=by rw[h2];exact Upd.alloc _ _ _
 have n3:New W2 W3:=by rw[h3];exact Upd.alloc _ _ _
 have n4:New W3 W4:=by rw[h4];exact Upd.alloc _ _ _
 refine⟨W4,by rw[h4,h3,h2,h1],n1.trans (n2.trans (n3.trans n4)),by rw[h4,zad,s3],?_,?_,?_,?_⟩
 · exact zaa (((n3.trans n4).block _ (by omega) id).trans ((n2.block _ (by omega) id).trans (by rw[h1];exact Ex.alloc_new w _))) 0 _ rfl
 · exact zaa (((n3.trans n4).block _ (by omega) id).trans (by rw[h2,<-s1];exact Ex.alloc_new W1 _)) 0 _ rfl
 · exact zaa ((n4.block _ (by omega) id).trans (by rw[h3,<-s2];exact Ex.alloc_new W2 _)) 0 _ rfl
 · rw[h4,<-s3];exact Ex.alloc_new W3 _
theorem dmuldiv_any {Q Q' Q'':Nat->Prop} {w:World} {A A' A'':Option Addr} {n c n' c' n'' c'' x y z:Nat} (h:LQ Q w A n c x) (h':LQ Q' w A' n' c' y) (h'':LQ Q'' w A'' n'' c'' z) (hb:x*y<Gn.B ^ 1000):
 Calls Tryz.prog 63 #[.agg #[.slice A n c],.agg #[.slice A' n' c'],.agg #[.slice A'' n'' c'']] w (DecE w (x*y / z) (erz z)):=by
 obtain⟨W,hW,hnw,hs,l0,l1,l2,hbt⟩:=boxes3 w (.slice A n c) (.slice A' n' c') (.slice A'' n'' c'')
 have hkeep:∀W',New W W'->W'.cell? ⟨w.heap.size,0,none⟩=some (.slice A n c)/\W'.cell? ⟨w.heap.size+1,0,none⟩=some (.slice A' n' c')/\W'.cell? ⟨w.heap.size+1+1,0,none⟩=some (.slice A'' n'' c''):=fun W' hn=>⟨(hn.cell (a:=⟨w.heap.size,0,none⟩) (by show w.heap.size<_;omega) id).trans l0,(hn.cell (a:=⟨w.heap.size+1,0,none⟩) (by show w.heap.size+1<_;omega) id).trans l1,(hn.cell (a:=⟨w.heap.size+1+1,0,none⟩) (by show w.heap.size+1+1<_;omega) id).trans l2⟩
 have h143:∀W' ub,New W W'->W'.cell? ⟨ub,0,none⟩=some (.slice none 0 0)->Calls Tryz.prog 143 #[.slice A n c,.slice A' n' c',.slice A'' n'' c'',.pointer (some ⟨ub,0,none⟩)] W' (DecE W' (x*y / z) (erz z)):=fun W' ub hn hu=>
  round1_any (h.new (hnw.trans hn)) (h'.new (hnw.trans hn)) (h''.new (hnw.trans hn)) hb hu
 obtain⟨X,hX⟩:∃X,X=x*y / z:=⟨_,rfl⟩
 obtain⟨ez,hez⟩:∃ez,ez=erz z:=⟨_,rfl⟩
 rw[<-hX,<-hez]at h143 ⊢
 have H3:=zqH h143;have HK:=zqH hkeep;have HB:=zqH hbt;have HN:=zqH hnw;have S2:=zqH hs
 clear h143 hkeep hbt hnw hs hX hez h h' h'' hb
 go_enter Tryz.func63,Tryz.ntmps63
 go_upto_region 1 with fail
 rw[<-hW]
 clear hW
 go_region_held (fun w'=>w'.cell? ⟨w.heap.size,0,none⟩=some (.slice A n c)/\w'.cell? ⟨w.heap.size+1,0,none⟩=some (.slice A' n' c')/\w'.cell? ⟨w.heap.size+1+1,0,none⟩=some (.slice A'' n'' c'')) (go_keep) (first
  | (go_at_call 90
     refine(rounder_c _).mono ?_
     rintro e w1 ⟨rfl,hw1⟩
     have n1:New W w1:=by rw[hw1];exact(Upd.refl _ W).drew.trans (Upd.alloc _ _ _)
     have hu1:w1.cell? ⟨W.drew.heap.size,0,none⟩=some (.slice none 0 0):=by rw[hw1];exact zaa (Ex.alloc_new W.drew _) 0 _ rfl
     obtain⟨d1,d2,d3⟩:=HK.out _ n1
     have E1:=zqH (And.intro n1 hu1)
     clear hw1 n1 hu1)
  | (go_at_call 143
     refine(H3.out w1 _ E1.out.1 E1.out.2).mono ?_
     rintro e w4 ⟨R,m,d,rfl,hr4,hn4⟩
     have n4:New W w4:=E1.out.1.trans hn4
     obtain⟨e1,e2,e3⟩:=HK.out _ n4
     obtain⟨c0,z0,q0,hl,hnw⟩:=zbc (b:=w.heap.size+1+1+1) (HN.out.trans n4) ((n4.block _ (by have:=S2.out;omega) id).trans HB.out) (by omega) (hr4.mono (fun b _ hb=>by have hb:w1.heap.size<=b:=hb;have:=S2.out;have:=E1.out.1.size;show w.heap.size+1+1+1<b;omega))
     have hst:Upd (fun b=>b=w.heap.size+1+1+1) w4 (w4.setCell ⟨w.heap.size+1+1+1,0,none⟩ (.slice R m d)):=Upd.setCell w4 _ rfl
     have hsz4:w.heap.size+1+1+1<w4.heap.size:=by have:=S2.out;have:=n4.size;omega
     have g1:=(hst.cell (a:=⟨w.heap.size,0,none⟩) (by show w.heap.size<_;omega) (by show ¬w.heap.size=_;omega)).trans e1
     have g2:=(hst.cell (a:=⟨w.heap.size+1,0,none⟩) (by show w.heap.size+1<_;omega) (by show ¬w.heap.size+1=_;omega)).trans e2
     have g3:=(hst.cell (a:=⟨w.heap.size+1+1,0,none⟩) (by show w.heap.size+1+1<_;omega) (by show ¬w.heap.size+1+1=_;omega)).trans e3
     have QQ:=zqH (And.intro q0 (And.intro hl hnw))
     clear hr4 hn4 n4 q0 hl hnw hst hsz4))
 clear c0 z0
 go_wp2
 obtain⟨q0,hl,hnw⟩:=QQ.out
 refine bodyPost_ret (by simp[results,Tryz.results63,go_sem,q0];try rfl) rfl ?_
 exact⟨R,m,d,rfl,hl,hnw⟩
theorem dmuldiv_c {Q Q' Q'':Nat->Prop} {w:World} {A A' A'':Option Addr} {n c n' c' n'' c'' x y z:Nat} (h:LQ Q w A n c x) (h':LQ Q' w A' n' c' y) (h'':LQ Q'' w A'' n'' c'' z) (h0:0<z) (hb:x*y<Gn.B ^ 1000):
 Calls Tryz.prog 63 #[.agg #[.slice A n c],.agg #[.slice A' n' c'],.agg #[.slice A'' n'' c'']] w (DecE w (x*y / z) 0):=by
 have:=dmuldiv_any h h' h'' hb
 rwa [erz_pos h0]at this
theorem rounder_n (w:World):Calls Tryz.prog 90 #[.slice none 0 0] w fun e w'=>∃ub,e=.returned (.func (.func 143) #[] #[.pointer (some ⟨ub,0,none⟩)])/\New w w'/\w'.cell? ⟨ub,0,none⟩=some (.slice none 0 0):=by
 refine(rounder_c w).mono ?_
 rintro e w' ⟨rfl,rfl⟩
 exact⟨_,rfl,Upd.alloc _ _ _,zaa (Ex.alloc_new w _) 0 _ rfl⟩
def AL5 (W:World) (b:Nat) (w:World):Prop:=w.heap[b]?=some (.cells #[.slice none 0 0] 26 (0,0))/\W.heap.size<=b
theorem AL5.next {W w w':World} {b:Nat} (h:AL5 W b w) (hn:New w w'):AL5 W b w':=⟨(hn.block b (zqA.1 h.1).1 id).trans h.1,h.2⟩
theorem AL5.lt {W w:World} {b:Nat} (h:AL5 W b w):b<w.heap.size:=(zqA.1 h.1).1
theorem AL5.make {W w w':World} (h:w'=w.alloc (.cells #[.slice none 0 0] 26)) (hs:W.heap.size<=w.heap.size):AL5 W w.heap.size w'/\New w w':=⟨⟨by rw[h];exact Ex.alloc_new w _,hs⟩,by rw[h];exact Upd.alloc _ _ _⟩
theorem AL5.facts {W w:World} {b a a':Nat} (h:AL5 W b w) {u u':Value} (e1:w.cell? ⟨a,0,none⟩=some u) (e2:w.cell? ⟨a',0,none⟩=some u') (h1:a<W.heap.size) (h2:a'<W.heap.size) (v:Value):
 w.cell? ⟨b,0,none⟩=some (.slice none 0 0)/\w.frozen? ⟨b,0,none⟩=false/\(w.setCell ⟨b,0,none⟩ v).cell? ⟨a,0,none⟩=some u/\(w.setCell ⟨b,0,none⟩ v).cell? ⟨a',0,none⟩=some u':=by
 have hst:Upd (fun x=>x=b) w (w.setCell ⟨b,0,none⟩ v):=Upd.setCell w _ rfl
 have:=h.2
 exact⟨zaa h.1 0 _ rfl,zac h.1 0,(hst.cell (a:=⟨a,0,none⟩) (zqB w _ e1) (by show ¬a=b;omega)).trans e1,(hst.cell (a:=⟨a',0,none⟩) (zqB w _ e2) (by show ¬a'=b;omega)).trans e2⟩
def MulEnd (w WF:World) (b5:Nat) (R:Option Addr) (m d X:Nat):Prop:=WF.cell? ⟨b5,0,none⟩=some (.slice R m d)/\WF.cell? ⟨w.heap.size+1+1,0,none⟩=some (.slice none 0 0)/\WF.frozen? ⟨w.heap.size+1+1,0,none⟩=false/\(WF.setCell ⟨w.heap.size+1+1,0,none⟩ (.slice R m d)).cell? ⟨w.heap.size+1+1,0,none⟩=some (.slice R m d)/\Hid (LN (NB w) (WF.setCell ⟨w.heap.size+1+1,0,none⟩ (.slice R m d)) R m d X/\New w (WF.setCell ⟨w.heap.size+1+1,0,none⟩ (.slice R m d)))
theorem mul_endA {w W w3 w4:World} {b:Nat} {R:Option Addr} {m d X:Nat} (hn:New w W) (hs:W.heap.size=w.heap.size+1+1+1) (hb:W.heap[w.heap.size+1+1]?=some (.cells #[.slice none 0 0] 26 (0,0))) (al:AL5 W b w4/\b<w3.heap.size) (h4:LN (NB w3) w4 R m d X/\New W w4) (hz:W.heap.size<=w3.heap.size):
 MulEnd w (w4.setCell ⟨b,0,none⟩ (.slice R m d)) b R m d X:=by
 obtain⟨⟨a1,a2⟩,a3⟩:=al
 obtain⟨hr4,n4⟩:=h4
 have hst:Upd (fun x=>x=b) w4 (w4.setCell ⟨b,0,none⟩ (.slice R m d)):=Upd.setCell w4 _ rfl
 have bres:w4.heap[w.heap.size+1+1]?=some (.cells #[.slice none 0 0] 26 (0,0)):=(n4.block _ (by omega) id).trans hb
 have h4s:=n4.size
 have n5:New w (w4.setCell ⟨b,0,none⟩ (.slice R m d)):=(hn.trans n4).then hst (fun x hx e=>by have e:x=b:=e;omega)
 have hr5:LN (fun x=>w.heap.size+1+1<x) (w4.setCell ⟨b,0,none⟩ (.slice R m d)) R m d X:=(hr4.upd hst (fun x hx e=>by have e:x=b:=e;have hx:w3.heap.size<=x:=hx;omega)).mono (fun x _ hx=>by have hx:w3.heap.size<=x:=hx;show w.heap.size+1+1<x;omega)
 obtain⟨c0,z0,q0,hl,hnw⟩:=zbc (b:=w.heap.size+1+1) n5 ((hst.block _ (by omega) (by omega)).trans bres) (by omega) hr5
 exact⟨zaa (zab a1 (.slice R m d) (i:=0)) 0 _ rfl,c0,z0,q0,zqH ⟨hl,hnw⟩⟩
theorem mul_endB {w W w3 w4:World} {R:Option Addr} {m d X:Nat} (hn:New w W) (hs:W.heap.size=w.heap.size+1+1+1) (hb:W.heap[w.heap.size+1+1]?=some (.cells #[.slice none 0 0] 26 (0,0))) (h4:LN (NB w3) w4 R m d X/\New W w4) (hz:W.heap.size<=w3.heap.size):
 MulEnd w (w4.alloc (.cells #[.slice R m d] 26)) w4.heap.size R m d X:=by
 obtain⟨hr4,n4⟩:=h4
 have hst:New w4 (w4.alloc (.cells #[.slice R m d] 26)):=Upd.alloc _ _ _
 have h4s:=n4.size
 have bres:w4.heap[w.heap.size+1+1]?=some (.cells #[.slice none 0 0] 26 (0,0)):=(n4.block _ (by omega) id).trans hb
 obtain⟨c0,z0,q0,hl,hnw⟩:=zbc (b:=w.heap.size+1+1) (hn.trans (n4.trans hst)) ((hst.block _ (by omega) id).trans bres) (by omega) ((hr4.new hst).mono (fun x _ hx=>by have hx:w3.heap.size<=x:=hx;show w.heap.size+1+1<x;omega))
 exact⟨zaa (Ex.alloc_new w4 _) 0 _ rfl,c0,z0,q0,zqH ⟨hl,hnw⟩⟩
theorem dmul_c {Q Q':Nat->Prop} {w:World} {A A':Option Addr} {n c n' c' x y:Nat} (h:LQ Q w A n c x) (h':LQ Q' w A' n' c' y) (hb:x*y<Gn.B ^ 1000):
 Calls Tryz.prog 60 #[.agg #[.slice A n c],.agg #[.slice A' n' c']] w (DecR w (x*y / 10 ^ 36)):=by
 obtain⟨W,hW,hnw,hs,l0,l1,hbt⟩:=boxes2 w (.slice A n c) (.slice A' n' c')
 have hkeep:∀W',New W W'->W'.cell? ⟨w.heap.size,0,none⟩=some (.slice A n c)/\W'.cell? ⟨w.heap.size+1,0,none⟩=some (.slice A' n' c'):=fun W' hn=>⟨(hn.cell (a:=⟨w.heap.size,0,none⟩) (by show w.heap.size<_;omega) id).trans l0,(hn.cell (a:=⟨w.heap.size+1,0,none⟩) (by show w.heap.size+1<_;omega) id).trans l1⟩
 obtain⟨U,hU⟩:∃U,U=10 ^ 36:=⟨_,rfl⟩
 have hunit:=fun W'=>unit_ln W'
 rw[<-hU]at hunit ⊢
 have hU0:0<U:=by rw[hU];decide
 have h143:∀W' A1 k1 e1 ub,New W W'->LQ (NB W) W' A1 k1 e1 U->W'.cell? ⟨ub,0,none⟩=some (.slice none 0 0)->Calls Tryz.prog 143 #[.slice A n c,.slice A' n' c',.slice A1 k1 e1,.pointer (some ⟨ub,0,none⟩)] W' (DecE W' (x*y / U) 0):=fun W' A1 k1 e1 ub hn g1 hu=>
  round1_c (h.new (hnw.trans hn)) (h'.new (hnw.trans hn)) g1 hU0 hb hu
 obtain⟨X,hX⟩:∃X,X=x*y / U:=⟨_,rfl⟩
 rw[<-hX]at h143 ⊢
 have H3:=zqH h143;have HK:=zqH hkeep;have HB:=zqH hbt;have HN:=zqH hnw;have S2:=zqH hs;have HUN:=zqH hunit
 clear h143 hkeep hbt hnw hs hX h h' hb hunit hU hU0
 go_enter Tryz.func60,Tryz.ntmps60
 go_upto_region 1 with fail
 rw[<-hW]
 clear hW
 go_region_held (fun w'=>w'.cell? ⟨w.heap.size,0,none⟩=some (.slice A n c)/\w'.cell? ⟨w.heap.size+1,0,none⟩=some (.slice A' n' c')) (go_keep) (first
  | (go_at_call 90
     obtain⟨w0,hw0⟩:∃w0,w0=W.alloc (.cells #[.slice none 0 0] 26):=⟨_,rfl⟩
     rw[<-hw0]
     obtain⟨al,n0⟩:=AL5.make (W:=W) hw0 (Nat.le_refl _)
     refine(rounder_n _).mono ?_
     rintro e w1 ⟨ub,rfl,hn1,hu1⟩
     have n1:New W w1:=n0.trans ((Upd.refl _ w0).drew.trans hn1)
     obtain⟨d1,d2⟩:=HK.out _ n1
     have E1:=zqH (And.intro n1 hu1)
     have AL1:=zqH (al.next ((Upd.refl _ w0).drew.trans hn1))
     clear hn1 n1 hu1 al n0 hw0)
  | (go_at_call 90
     refine(rounder_n _).mono ?_
     rintro e w1 ⟨ub,rfl,hn1,hu1⟩
     have n1:New W w1:=(Upd.refl _ W).drew.trans hn1
     obtain⟨d1,d2⟩:=HK.out _ n1
     have E1:=zqH (And.intro n1 hu1)
     clear hn1 n1 hu1)
  | (go_at_call 113
     obtain⟨w0,hw0⟩:∃w0,w0=w1.alloc (.cells #[.slice none 0 0] 26):=⟨_,rfl⟩
     rw[<-hw0]
     obtain⟨al,n0⟩:=AL5.make (W:=W) hw0 E1.out.1.size
     refine(HUN.out w0).mono ?_
     rintro e w2 ⟨rfl,hr2,hn2⟩
     obtain⟨f1,f2⟩:=HK.out _ (E1.out.1.trans (n0.trans hn2))
     have E2:=zqH (And.intro (hr2.lq.mono (Q':=NB W) (fun b _ hb=>Nat.le_trans E1.out.1.size (Nat.le_trans n0.size hb))) (n0.trans hn2))
     have AL:=zqH (al.next hn2)
     clear hr2 hn2 n0 al hw0)
  | (go_at_call 113
     refine(HUN.out w1).mono ?_
     rintro e w2 ⟨rfl,hr2,hn2⟩
     obtain⟨f1,f2⟩:=HK.out _ (E1.out.1.trans hn2)
     have E2:=zqH (And.intro (hr2.lq.mono (Q':=NB W) (fun b _ hb=>Nat.le_trans E1.out.1.size hb)) hn2)
     first
      | (have AL:=zqH (AL1.out.next hn2);clear AL1)
      | skip
     clear hr2 hn2)
  | (go_at_call 143
     obtain⟨w3,hw3⟩:∃w3,w3=w2.alloc (.cells #[.slice none 0 0] 26):=⟨_,rfl⟩
     rw[<-hw3]
     obtain⟨al,n3⟩:=AL5.make (W:=W) hw3 (E1.out.1.trans E2.out.2).size
     refine(H3.out w3 _ 2 2 _ ((E1.out.1.trans E2.out.2).trans n3) (E2.out.1.new n3) (((E2.out.2.trans n3).cell (a:=⟨ub,0,none⟩) (zqB w1 _ E1.out.2) id).trans E1.out.2)).mono ?_
     rintro e w4 ⟨R,m,d,rfl,hr4,hn4⟩
     have n4:New W w4:=((E1.out.1.trans E2.out.2).trans n3).trans hn4
     obtain⟨e1,e2⟩:=HK.out _ n4
     have ALE:=zqH (And.intro (al.next hn4) al.lt)
     obtain⟨c0,z0,g1,g2⟩:=ALE.out.1.facts e1 e2 (by have:=S2.out;omega) (by have:=S2.out;omega) (.slice R m d)
     have E4:=zqH (And.intro hr4 n4)
     have SZ:=zqH ((E1.out.1.trans E2.out.2).trans n3).size
     clear hr4 hn4 n4 al hw3 n3)
  | (go_at_call 143
     have AL0:=AL
     clear AL
     refine(H3.out w2 _ 2 2 _ (E1.out.1.trans E2.out.2) E2.out.1 ((E2.out.2.cell (a:=⟨ub,0,none⟩) (zqB w1 _ E1.out.2) id).trans E1.out.2)).mono ?_
     rintro e w4 ⟨R,m,d,rfl,hr4,hn4⟩
     have n4:New W w4:=(E1.out.1.trans E2.out.2).trans hn4
     obtain⟨e1,e2⟩:=HK.out _ n4
     have ALE:=zqH (And.intro (AL0.out.next hn4) AL0.out.lt)
     obtain⟨c0,z0,g1,g2⟩:=ALE.out.1.facts e1 e2 (by have:=S2.out;omega) (by have:=S2.out;omega) (.slice R m d)
     have E4:=zqH (And.intro hr4 n4)
     have SZ:=zqH (E1.out.1.trans E2.out.2).size
     clear hr4 hn4 n4 AL0)
  | (go_at_call 143
     refine(H3.out w2 _ 2 2 _ (E1.out.1.trans E2.out.2) E2.out.1 ((E2.out.2.cell (a:=⟨ub,0,none⟩) (zqB w1 _ E1.out.2) id).trans E1.out.2)).mono ?_
     rintro e w4 ⟨R,m,d,rfl,hr4,hn4⟩
     have n4:New W w4:=(E1.out.1.trans E2.out.2).trans hn4
     obtain⟨e1,e2⟩:=HK.out _ n4
     have SZ:=zqH (E1.out.1.trans E2.out.2).size
     have E4:=zqH (And.intro hr4 n4)
     clear hr4 hn4 n4))
 · obtain⟨l5,c0,z0,q0,HE⟩:=mul_endB HN.out S2.out HB.out E4.out SZ.out
   obtain⟨WF,hWF⟩:∃WF,WF=w4.alloc (.cells #[.slice R m d] 26):=⟨_,rfl⟩
   rw[<-hWF]at l5 c0 z0 q0 HE ⊢
   clear hWF d1 d2 e1 e2
   go_wp2
   refine bodyPost_ret (by simp[results,Tryz.results60,go_sem,q0];try rfl) rfl ?_
   exact⟨R,m,d,rfl,HE.out⟩
 · clear c0 z0
   obtain⟨l5,c0,z0,q0,HE⟩:=mul_endA HN.out S2.out HB.out ALE.out E4.out SZ.out
   obtain⟨WF,hWF⟩:∃WF,WF=w4.setCell ⟨w2.heap.size,0,none⟩ (.slice R m d):=⟨_,rfl⟩
   rw[<-hWF]at l5 c0 z0 q0 HE ⊢
   clear hWF d1 d2 e1 e2 g1 g2
   go_wp2
   refine bodyPost_ret (by simp[results,Tryz.results60,go_sem,q0];try rfl) rfl ?_
   exact⟨R,m,d,rfl,HE.out⟩
 · clear c0 z0
   obtain⟨l5,c0,z0,q0,HE⟩:=mul_endA HN.out S2.out HB.out ALE.out E4.out SZ.out
   obtain⟨WF,hWF⟩:∃WF,WF=w4.setCell ⟨w1.heap.size,0,none⟩ (.slice R m d):=⟨_,rfl⟩
   rw[<-hWF]at l5 c0 z0 q0 HE ⊢
   clear hWF d1 d2 e1 e2 g1 g2
   go_wp2
   refine bodyPost_ret (by simp[results,Tryz.results60,go_sem,q0];try rfl) rfl ?_
   exact⟨R,m,d,rfl,HE.out⟩
 · clear c0 z0
   obtain⟨l5,c0,z0,q0,HE⟩:=mul_endA HN.out S2.out HB.out ALE.out E4.out SZ.out
   obtain⟨WF,hWF⟩:∃WF,WF=w4.setCell ⟨W.heap.size,0,none⟩ (.slice R m d):=⟨_,rfl⟩
   rw[<-hWF]at l5 c0 z0 q0 HE ⊢
   clear hWF d1 d2 e1 e2 g1 g2
   go_wp2
   refine bodyPost_ret (by simp[results,Tryz.results60,go_sem,q0];try rfl) rfl ?_
   exact⟨R,m,d,rfl,HE.out⟩
theorem dzero_c {Q:Nat->Prop} {w:World} {A:Option Addr} {n c x:Nat} (h:LQ Q w A n c x):Calls Tryz.prog 26 #[.agg #[.slice A n c]] w fun e w'=>e=.returned (.bool (decide (x=0)))/\New w w':=by
 obtain⟨l,h1,h2⟩:=h.nat
 refine(DZero_c h1 (by have:=h.few;omega)).mono ?_
 rintro e w' ⟨rfl,hb⟩
 exact⟨by rw[h2],zao hb⟩
theorem by_n (w:World):Calls Tryz.prog 130 #[.bool false] w fun e w'=>∃ub,e=.returned (.func (.func 191) #[] #[.pointer (some ⟨ub,0,none⟩)])/\New w w'/\w'.cell? ⟨ub,0,none⟩=some (.bool false):=by
 go_enter Tryz.func130,Tryz.ntmps130
 go_wp2
 go_ret
 exact⟨w.heap.size,rfl,Upd.alloc _ _ _,zaa (Ex.alloc_new w _) 0 _ rfl⟩
theorem by1_c {Q Q' Q'':Nat->Prop} {w:World} {A A' A'':Option Addr} {n c n' c' n'' c'' x y z ub:Nat} (h:LQ Q w A n c x) (h':LQ Q' w A' n' c' y) (h'':LQ Q'' w A'' n'' c'' z) (h0:0<z) (hb:x*y<Gn.B ^ 1000) (hub:w.cell? ⟨ub,0,none⟩=some (.bool false)):
 Calls Tryz.prog 191 #[.agg #[.slice A n c],.agg #[.slice A' n' c'],.agg #[.slice A'' n'' c''],.pointer (some ⟨ub,0,none⟩)] w (DecR w (x*y / z)):=by
 obtain⟨W,hW,hnw,hs,l0,l1,l2,hbt⟩:=boxes3 w (.slice A n c) (.slice A' n' c') (.slice A'' n'' c'')
 have hu1:W.cell? ⟨ub,0,none⟩=some (.bool false):=(hnw.cell (a:=⟨ub,0,none⟩) (zqB w _ hub) id).trans hub
 have h63:=dmuldiv_c (h.new hnw) (h'.new hnw) (h''.new hnw) h0 hb
 obtain⟨X,hX⟩:∃X,X=x*y / z:=⟨_,rfl⟩
 rw[<-hX]at h63 ⊢
 have H63:=zqH h63;have HB:=zqH hbt;have HN:=zqH hnw;have S2:=zqH hs
 clear h63 hbt hnw hs hX h h' h'' h0 hb hub
 go_enter Tryz.func191,Tryz.ntmps191
 go_upto_region 1 with fail
 rw[<-hW]
 clear hW
 go_upto_region 5 with(go_at_call 63;refine H63.out.mono ?_;rintro e w2 ⟨R,m,d,rfl,hr2,hn2⟩;have H2:=zqH (And.intro hr2 hn2);clear H63 hr2 hn2)
 obtain⟨W3,hW3⟩:∃W3,W3=w2.alloc (.cells #[.slice R m d] 26):=⟨_,rfl⟩
 rw[<-hW3]
 have n3:New w2 W3:=by rw[hW3];exact Upd.alloc _ _ _
 have l3:W3.cell? ⟨w2.heap.size,0,none⟩=some (.slice R m d):=by rw[hW3];exact zaa (Ex.alloc_new w2 _) 0 _ rfl
 obtain⟨hr2,hn2⟩:=H2.out
 have hs2:=S2.out
 obtain⟨c0,z0,q0,hl,hnw⟩:=zbc (b:=w.heap.size+1+1+1) (HN.out.trans (hn2.trans n3)) (((hn2.trans n3).block _ (by omega) id).trans HB.out) (by omega) ((hr2.new n3).mono (fun b _ hb=>by have hb:W.heap.size<=b:=hb;show w.heap.size+1+1+1<b;omega))
 have QQ:=zqH (And.intro hl hnw)
 clear hl hnw hr2 hn2 n3 hW3
 go_wp2
 refine bodyPost_ret (by simp[results,Tryz.results191,go_sem,q0];try rfl) rfl ?_
 exact⟨R,m,d,rfl,QQ.out⟩
theorem worth_c {Q Q':Nat->Prop} {w:World} {A A':Option Addr} {n c n' c' x y t:Nat} (h:LQ Q w A n c y) (h':LQ Q' w A' n' c' x) (h0:0<y) (ht:t<18446744073709551616) (hb:x*(t*10 ^ 36)<Gn.B ^ 1000):
 Calls Tryz.prog 75 #[.int .u64 (t:Int),.agg #[.slice A n c],.agg #[.slice A' n' c']] w (DecR w (x*(t*10 ^ 36) / y)):=by
 obtain⟨W,hW,hnw,hs,l0,l1,hbt⟩:=boxes2 w (.slice A n c) (.slice A' n' c')
 have hkeep:∀W',New W W'->W'.cell? ⟨w.heap.size,0,none⟩=some (.slice A n c)/\W'.cell? ⟨w.heap.size+1,0,none⟩=some (.slice A' n' c'):=fun W' hn=>⟨(hn.cell (a:=⟨w.heap.size,0,none⟩) (by show w.heap.size<_;omega) id).trans l0,(hn.cell (a:=⟨w.heap.size+1,0,none⟩) (by show w.heap.size+1<_;omega) id).trans l1⟩
 obtain⟨U,hU⟩:∃U,U=t*10 ^ 36:=⟨_,rfl⟩
 have hof:∀W',Calls Tryz.prog 24 #[.int .u64 (t:Int)] W' (DecR W' U):=fun W'=>by rw[hU];exact of_c t ht
 rw[<-hU]at hb ⊢
 have h191:∀W' A1 k1 e1 ub,New W W'->LQ (NB W) W' A1 k1 e1 U->W'.cell? ⟨ub,0,none⟩=some (.bool false)->Calls Tryz.prog 191 #[.agg #[.slice A' n' c'],.agg #[.slice A1 k1 e1],.agg #[.slice A n c],.pointer (some ⟨ub,0,none⟩)] W' (DecR W' (x*U / y)):=fun W' A1 k1 e1 ub hn g1 hu=>
  by1_c (h'.new (hnw.trans hn)) g1 (h.new (hnw.trans hn)) h0 hb hu
 have hz:=dzero_c (h.new hnw)
 have hy0:decide (y=0)=false:=by simp;omega
 rw[hy0]at hz
 obtain⟨X,hX⟩:∃X,X=x*U / y:=⟨_,rfl⟩
 rw[<-hX]at h191 ⊢
 have H3:=zqH h191;have HK:=zqH hkeep;have HB:=zqH hbt;have HN:=zqH hnw;have S2:=zqH hs;have HOF:=zqH hof;have HZ:=zqH hz
 clear h191 hkeep hbt hnw hs hX h h' hb hof hU h0 hy0 hz ht
 go_enter Tryz.func75,Tryz.ntmps75
 go_upto_region 1 with fail
 rw[<-hW]
 clear hW
 go_upto_region 3 with(go_at_call 26;refine HZ.out.mono ?_;rintro e W0 ⟨rfl,hn0⟩;have N0:=zqH hn0;obtain⟨d1,d2⟩:=HK.out _ hn0;clear hn0 HZ l0 l1)
 go_region_held (fun w'=>w'.cell? ⟨w.heap.size,0,none⟩=some (.slice A n c)/\w'.cell? ⟨w.heap.size+1,0,none⟩=some (.slice A' n' c')) (go_keep) (first
  | (go_at_call 130
     refine(by_n _).mono ?_
     rintro e w1 ⟨ub,rfl,hn1,hu1⟩
     have n1:New W w1:=N0.out.trans ((Upd.refl _ W0).drew.trans hn1)
     obtain⟨e1,e2⟩:=HK.out _ n1
     have E1:=zqH (And.intro n1 hu1)
     clear hn1 n1 hu1)
  | (go_at_call 24
     refine(HOF.out w1).mono ?_
     rintro e w2 ⟨A1,k1,f1,rfl,hr2,hn2⟩
     have n2:New W w2:=E1.out.1.trans hn2
     obtain⟨e3,e4⟩:=HK.out _ n2
     have E2:=zqH (And.intro (hr2.lq.mono (Q':=NB W) (fun b _ hb=>Nat.le_trans E1.out.1.size hb)) (And.intro n2 ((hn2.cell (a:=⟨ub,0,none⟩) (zqB w1 _ E1.out.2) id).trans E1.out.2)))
     clear hr2 hn2 n2)
  | (go_at_call 191
     refine(H3.out w2 _ _ _ _ E2.out.2.1 E2.out.1 E2.out.2.2).mono ?_
     rintro e w4 ⟨R,m,d,rfl,hr4,hn4⟩
     have n4:New W w4:=E2.out.2.1.trans hn4
     obtain⟨e5,e6⟩:=HK.out _ n4
     obtain⟨c0,z0,q0,hl,hnw⟩:=zbc (b:=w.heap.size+1+1) (HN.out.trans n4) ((n4.block _ (by have:=S2.out;omega) id).trans HB.out) (by omega) (hr4.mono (fun b _ hb=>by have hb:w2.heap.size<=b:=hb;have:=S2.out;have:=E2.out.2.1.size;show w.heap.size+1+1<b;omega))
     have hst:Upd (fun b=>b=w.heap.size+1+1) w4 (w4.setCell ⟨w.heap.size+1+1,0,none⟩ (.slice R m d)):=Upd.setCell w4 _ rfl
     have hsz4:w.heap.size+1+1<w4.heap.size:=by have:=S2.out;have:=n4.size;omega
     have g1:=(hst.cell (a:=⟨w.heap.size,0,none⟩) (by show w.heap.size<_;omega) (by show ¬w.heap.size=_;omega)).trans e5
     have g2:=(hst.cell (a:=⟨w.heap.size+1,0,none⟩) (by show w.heap.size+1<_;omega) (by show ¬w.heap.size+1=_;omega)).trans e6
     have QQ:=zqH (And.intro q0 (And.intro hl hnw))
     clear hr4 hn4 n4 q0 hl hnw hst hsz4))
 clear c0 z0
 go_wp2
 obtain⟨q0,hl,hnw⟩:=QQ.out
 refine bodyPost_ret (by simp[results,Tryz.results75,go_sem,q0];try rfl) rfl ?_
 exact⟨R,m,d,rfl,hl,hnw⟩
end Go.Proofs.YtbhnjkegkadodaaGreatDoor

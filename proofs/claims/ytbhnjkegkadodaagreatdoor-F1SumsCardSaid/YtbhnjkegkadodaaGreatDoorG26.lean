/- Part of the proof. -/
import Derived.Test.YtbhnjkegkadodaaGreatDoorG24
set_option linter.all false
set_option maxRecDepth 100000
set_option maxHeartbeats 8000000
namespace Gz
open Go Go.RowKit Go.Proofs Gl
def HistRd (br bx:Nat) (t:TypeId) (w:World) (x y:Nat) (e:Ending) (w':World):Prop:=
 ∃R m d A' n' c',e=.returned (.tuple #[])/\LN (NB w) w' R m d x/\w'.heap[bx]?=some (.cells #[.slice R m d,.int .u64 (y:Int)] t (0,0))/\Rd br w' A' n' c' [] 0/\Upd (fun b=>b=br\/b=bx) w w'
theorem rhist {br bx:Nat} {u0 u1:Value} {t:TypeId} {w:World} {A:Option Addr} {n c x y:Nat} (hR:Rd br w A n c (F1.encH x y) 0) (hb:F1.nb x<=255) (hy:y<18446744073709551616) (hn:n<=4000)
 (hx:w.heap[bx]?=some (.cells #[u0,u1] t (0,0))) (hbx:bx≠br) (hA:∀a,A=some a->a.block≠bx/\a.block<w.heap.size):
 Calls Tryz.prog 137 #[.agg #[.pointer none,.pointer (some ⟨br,0,none⟩)],.pointer (some ⟨bx,0,none⟩)] w (HistRd br bx t w x y):=by
 obtain⟨W,hW⟩:=zE (w.alloc (.cells #[.pointer none,.pointer (some ⟨br,0,none⟩)] 288));have d8:New w W:=by rw[hW];exact zU _ _ _
 have a9:=zX w (.cells #[.pointer none,.pointer (some ⟨br,0,none⟩)] 288);rw[<-hW]at a9;have a5:=(zqA.1 hx).1;have d9:=hR.lt;have e9:W.cell? ⟨w.heap.size,0,none⟩=some (.pointer none):=zaa a9 0 _ rfl;have f0:W.cell? ⟨w.heap.size,1,none⟩=some (.pointer (some ⟨br,0,none⟩)):=zaa a9 1 _ rfl;have b9:∀W' lb,New w W'->W'.cell? ⟨lb,0,none⟩=some (.pointer (some ⟨bx,0,none⟩))->Calls Tryz.prog 204 #[.agg #[.pointer none,.pointer (some ⟨br,0,none⟩)],.slice (some ⟨lb,0,none⟩) 1 1] W' (FieldRd br bx 0 #[u0,u1] t W' A (be 8 y) (fun w' v=>∃R m d,v=.slice R m d/\LN (NB W') w' R m d x)):=fun W' lb hn' hl=>
  rdecs (rest:=be 8 y) (hR.upd hn' id (fun _ _ _=>id)) hb hn (by simp[zah]) hl ((hn'.block _ a5 id).trans hx) (by simp) hbx (fun a ha=>(hA a ha).1)
 have c6:∀W5 W6 A5 n5 c5 v,New w W5->Upd (fun b=>b=br\/b=bx) W5 W6->Rd br W6 A5 n5 c5 (be 8 y) 0 → (∀a',A5=some a'->∃a,A=some a/\a'.block=a.block)->W6.heap[bx]?=some (.cells #[v,u1] t (0,0))->∀W7 lb,New W6 W7->W7.cell? ⟨lb,0,none⟩=some (.pointer (some ⟨bx,1,none⟩)) ->
    Calls Tryz.prog 205 #[.agg #[.pointer none,.pointer (some ⟨br,0,none⟩)],.slice (some ⟨lb,0,none⟩) 1 1] W7 (FieldRd br bx 1 #[v,u1] t W7 A5 [] (fun w' v=>v=.int .u64 (y:Int))):=fun W5 W6 A5 n5 c5 v h5 h6 a8 b8 a7 W7 lb h7 hl=>
  rnum1 (rest:=[]) (by rw[List.append_nil];exact a8.upd h7 id (fun _ _ _=>id)) hy (by have:=a8.by_.len;rw[zah]at this;omega) hl ((h7.block _ (zqA.1 a7).1 id).trans a7) (by simp) hbx (fun a' ha' e=>by obtain⟨a,ha,f6⟩:=b8 a' ha';exact(hA a ha).1 (f6▸e))
 have a6:∀W5 W6 i v,W5.heap.size > w.heap.size->Upd (fun b=>b=br\/b=bx) W5 W6->W5.cell? ⟨w.heap.size,i,none⟩=some v->W6.cell? ⟨w.heap.size,i,none⟩=some v:=fun W5 W6 i v hs hu hv=>
  (hu.cell (a:=⟨w.heap.size,i,none⟩) hs (fun e=>e.elim (fun e=>by have e:w.heap.size=br:=e;omega) (fun e=>by have e:w.heap.size=bx:=e;omega))).trans hv
 have e0:w.heap.size<W.heap.size:=by rw[hW,zab];omega
 have H4:=zqH b9;have H5:=zqH c6;have HK:=zqH a6;have HN:=zqH d8;have d0:=zqH e0;have f9:=zqH hW;have e1:=zqH a5;have f3:=zqH d9;clear b9 c6 a6 d8 e0 hR hx hb hy hn hbx hA a9 d9 a5;go_enter Tryz.func137,Tryz.ntmps137;go_wp2;rw[<-hW];clear hW
 go_region_held (fun w'=>w'.cell? ⟨w.heap.size,0,none⟩=some (.pointer none)/\w'.cell? ⟨w.heap.size,1,none⟩=some (.pointer (some ⟨br,0,none⟩))) (go_keep) (
  (go_at_call 204
   obtain⟨W5,b0⟩:=zE ((W.alloc (.cells #[.pointer (some ⟨bx,0,none⟩)] 292)).drew);rw[<-b0];have n5:New W W5:=by rw[b0];exact(zU _ _ _).drew
   have e2:W5.cell? ⟨W.heap.size,0,none⟩=some (.pointer (some ⟨bx,0,none⟩)):=by rw[b0];exact zaa (zX W _) 0 _ rfl
   refine(H4.out W5 _ (HN.out.trans n5) e2).mono ?_
   rintro e W6 ⟨_,A5,k5,c5,rfl,⟨R,m,d,rfl,hr⟩,a7,a8,b8,a2⟩;have s5:w.heap.size<W5.heap.size:=zqL d0.out n5.size;have t0:=HK.out W5 W6 0 _ s5 a2 ((n5.cell (a:=⟨w.heap.size,0,none⟩) d0.out id).trans e9);have t1:=HK.out W5 W6 1 _ s5 a2 ((n5.cell (a:=⟨w.heap.size,1,none⟩) d0.out id).trans f0);have H6:=zqH (H5.out W5 W6 A5 k5 c5 (.slice R m d) (HN.out.trans n5) a2 a8 b8 (by simpa using a7));have HX:=zqH (zN (HN.out.trans n5) (zN a2 hr));have d5:=zqH (zqL s5 a2.size);clear n5 e2 b0 hr a7 a8 b8 a2 s5))
 all_goals go_wp2
 go_region_held (fun w'=>w'.cell? ⟨w.heap.size,0,none⟩=some (.pointer none)/\w'.cell? ⟨w.heap.size,1,none⟩=some (.pointer (some ⟨br,0,none⟩))) (go_keep) (
  (go_at_call 205
   obtain⟨W7,b5⟩:=zE ((W6.alloc (.cells #[.pointer (some ⟨bx,1,none⟩)] 294)).drew);rw[<-b5];have n7:New W6 W7:=by rw[b5];exact(zU _ _ _).drew
   have e3:W7.cell? ⟨W6.heap.size,0,none⟩=some (.pointer (some ⟨bx,1,none⟩)):=by rw[b5];exact zaa (zX W6 _) 0 _ rfl
   refine(H6.out W7 _ n7 e3).mono ?_
   rintro e W8 ⟨_,A9,k9,c9,rfl,rfl,b6,b7,e5,a3⟩;have s7:w.heap.size<W7.heap.size:=zqL d5.out n7.size;have u0:=HK.out W7 W8 0 _ s7 a3 ((n7.cell (a:=⟨w.heap.size,0,none⟩) d5.out id).trans t0);have u1:=HK.out W7 W8 1 _ s7 a3 ((n7.cell (a:=⟨w.heap.size,1,none⟩) d5.out id).trans t1);have HY:=zqH (zN n7 (zN b6 (zN b7 a3)));clear n7 e3 b5 b6 b7 e5 a3 s7))
 all_goals go_wp2
 all_goals go_end0
 obtain⟨e4,a2,hr⟩:=HX.out;obtain⟨n7,b6,b7,a3⟩:=HY.out;refine⟨R,m,d,A9,k9,c9,rfl,?_,by simpa using b6,b7,?_⟩
 · have f4:=e4.size;have h1:=hr.new n7;exact(h1.upd a3 (fun b hb e=>by
    have hb:W5.heap.size<=b:=hb;have:=f3.out;have:=e1.out;rcases e with e|e<;>omega)).mono (fun b _ hb=>zT f4 hb)
 · exact(((e4.mono (fun _ _ h=>h.elim)).trans a2).trans (n7.mono (fun _ _ h=>h.elim))).trans a3
def DecR (w:World) (x:Nat) (e:Ending) (w':World):Prop:=∃R m d,e=.returned (.agg #[.slice R m d])/\LN (NB w) w' R m d x/\New w w'
theorem zbf {w W:World} {b:Nat} {R:Option Addr} {m d x:Nat} (hn:New w W) (hb:W.heap[b]?=some (.cells #[.slice none 0 0] 26 (0,0))) (hwb:w.heap.size<=b) (hr:LN (fun c=>b<c) W R m d x):
 W.cell? ⟨b,0,none⟩=some (.slice none 0 0)/\W.frozen? ⟨b,0,none⟩=false/\(W.setCell ⟨b,0,none⟩ (.slice R m d)).cell? ⟨b,0,none⟩=some (.slice R m d)/\LN (NB w) (W.setCell ⟨b,0,none⟩ (.slice R m d)) R m d x/\New w (W.setCell ⟨b,0,none⟩ (.slice R m d)):=by
 have a1:Upd (fun c=>c=b) W (W.setCell ⟨b,0,none⟩ (.slice R m d)):=Upd.setCell W _ rfl;refine⟨zaa hb 0 _ rfl,zad hb 0,zaa (zac hb (.slice R m d) (i:=0)) 0 _ rfl,?_,hn.then a1 (fun c hc e=>by have e:c=b:=e;omega)⟩;exact(hr.upd a1 (fun c hc e=>by have e:c=b:=e;have hc:b<c:=hc;omega)).mono (fun c _ hc=>by have hc:b<c:=hc;show w.heap.size<=c;omega)
theorem unit_ln (w:World):Calls Tryz.prog 113 #[] w fun e w'=>e=.returned (.slice (some ⟨w.heap.size,0,none⟩) 2 2)/\LN (NB w) w' (some ⟨w.heap.size,0,none⟩) 2 2 (10 ^ 36)/\New w w':=by
 refine(unit_c w).mono ?_
 rintro e w' ⟨rfl,rfl⟩;have hb:=zX w (.cells (unitL.map Gn.u64).toArray 22);have a1:Gn.NatV 22 (w.alloc (.cells (unitL.map Gn.u64).toArray 22)) (some ⟨w.heap.size,0,none⟩) 2 2 unitL:=
  Gn.NatV.of_block hb rfl (zR _) (by unfold maxLen;omega) (fun x hx=>by simp[unitL]at hx;rcases hx with rfl|rfl<;>decide) (fun i h=>by simp only[List.getElem?_toArray,List.getElem?_map,zG h,Option.map_some])
 have:=LN.of (Q:=NB w) a1 (by unfold Gn.Norm unitL;simp) (by rw[val_unit];exact zqL (show 10 ^ 36<Gn.B ^ 2 by decide) (@zbe 2 1000 (by omega))) (fun a e=>by cases e;exact zR _);rw[val_unit]at this;exact⟨rfl,this,zU _ _ _⟩
theorem ofnat_c {Q:Nat->Prop} {w:World} {A:Option Addr} {n c x:Nat} (h:LQ Q w A n c x) (hb:x*10 ^ 36<Gn.B ^ 1000):Calls Tryz.prog 74 #[.slice A n c] w (DecR w (x*10 ^ 36)):=by
 obtain⟨W,hW⟩:=zE (w.alloc (.cells #[.slice none 0 0] 26));have a1:New w W:=by rw[hW];exact zU _ _ _
 have a2:=zX w (.cells #[.slice none 0 0] 26);rw[<-hW]at a2;have hs:W.heap.size=w.heap.size+1:=by rw[hW];exact zab _ _
 obtain⟨U,hU⟩:=zE (10 ^ 36);have hu:=unit_ln W;rw[<-hU]at hu hb ⊢;have H:=zqH (h.new a1);have HB:=zqH a2;have HN:=zqH a1;have HS:=zqH hs;have HU:=zqH hu;have b6:=zqH hb;clear h a2 a1 hs hU hb hu;go_enter Tryz.func74,Tryz.ntmps74
 go_upto_region 1 with fail
 rw[<-hW];clear hW
 go_wp2_with (first
  | (go_at_call 113;refine HU.out.mono ?_;rintro e w1 ⟨rfl,a7,a3⟩;have a5:=nmul (H.out.new a3) a7.lq b6.out;have N1:=zqH a3;clear a7 a3)
  | (go_at_call 29;refine a5.mono ?_;rintro e w2 ⟨R,m,d,rfl,a8,a4⟩;obtain⟨c0,z0,q0,hl,a1⟩:=zbf (HN.out.trans (N1.out.trans a4)) (((N1.out.trans a4).block _ (by have:=HS.out;omega) id).trans HB.out) (zR _) (a8.mono (fun b _ hb=>by have hb:w1.heap.size<=b:=hb;have:=HS.out;have:=N1.out.size;show w.heap.size<b;omega));have QQ:=zqH (zN q0 (zN hl a1));clear a5 a8 a4 q0 hl a1))
 obtain⟨q0,hl,a1⟩:=QQ.out;refine bodyPost_ret (by simp[results,Tryz.results74,go_sem,q0];try rfl) rfl ?_
 exact⟨R,m,d,rfl,hl,a1⟩
theorem of_c {w:World} (x:Nat) (hx:x<18446744073709551616):Calls Tryz.prog 24 #[.int .u64 (x:Int)] w (DecR w (x*10 ^ 36)):=by
 obtain⟨W,hW⟩:=zE (w.alloc (.cells #[.slice none 0 0] 26));have a1:New w W:=by rw[hW];exact zU _ _ _
 have a2:=zX w (.cells #[.slice none 0 0] 26);rw[<-hW]at a2;have hs:W.heap.size=w.heap.size+1:=by rw[hW];exact zab _ _
 have a4:x*10 ^ 36<Gn.B ^ 1000:=by
  have h1:x*10 ^ 36<Gn.B*Gn.B ^ 2:=Nat.mul_lt_mul_of_lt_of_le hx (by decide) (by decide);exact zqL h1 (by rw[<-Nat.pow_succ'];exact @zbe 3 1000 (by omega))
 have h1:=nof x hx W;have h2:∀W' Q A n c,LQ Q W' A n c x->Calls Tryz.prog 74 #[.slice A n c] W' (DecR W' (x*10 ^ 36)):=fun W' Q A n c h=>ofnat_c h a4;obtain⟨X,hX⟩:=zE (x*10 ^ 36);rw[<-hX]at h2 ⊢;have H1:=zqH h1;have H2:=zqH h2;have HB:=zqH a2;have HN:=zqH a1;have HS:=zqH hs;clear h1 h2 a2 a1 hs hX a4 hx;go_enter Tryz.func24,Tryz.ntmps24
 go_upto_region 1 with fail
 rw[<-hW];clear hW
 go_wp2_with (first
  | (go_at_call 30;refine H1.out.mono ?_;rintro e w1 ⟨A,n,c,rfl,a7,a8⟩;have a5:=H2.out w1 _ A n c a7.lq;have N1:=zqH a8;clear H1 a7 a8)
  | (go_at_call 74;refine a5.mono ?_;rintro e w2 ⟨R,m,d,rfl,a9,a3⟩;obtain⟨c0,z0,q0,hl,a1⟩:=zbf (HN.out.trans (N1.out.trans a3)) (((N1.out.trans a3).block _ (by have:=HS.out;omega) id).trans HB.out) (zR _) (a9.mono (fun b _ hb=>by have hb:w1.heap.size<=b:=hb;have:=HS.out;have:=N1.out.size;show w.heap.size<b;omega));have QQ:=zqH (zN q0 (zN hl a1));clear a5 a9 a3 q0 hl a1))
 obtain⟨q0,hl,a1⟩:=QQ.out;refine bodyPost_ret (by simp[results,Tryz.results24,go_sem,q0];try rfl) rfl ?_
 exact⟨R,m,d,rfl,hl,a1⟩
theorem boxes2 (w:World) (v v':Value):∃W,W=((w.alloc (.cells #[v] 26)).alloc (.cells #[v'] 26)).alloc (.cells #[.slice none 0 0] 26)/\New w W/\W.heap.size=w.heap.size+1+1+1/\W.cell? ⟨w.heap.size,0,none⟩=some v/\W.cell? ⟨w.heap.size+1,0,none⟩=some v'/\W.heap[w.heap.size+1+1]?=some (.cells #[.slice none 0 0] 26 (0,0)):=by
 obtain⟨W1,h1⟩:=zE (w.alloc (.cells #[v] 26));obtain⟨W2,h2⟩:=zE (W1.alloc (.cells #[v'] 26));obtain⟨W3,h3⟩:=zE (W2.alloc (.cells #[.slice none 0 0] 26));have s1:W1.heap.size=w.heap.size+1:=by rw[h1];exact zab _ _
 have s2:W2.heap.size=w.heap.size+1+1:=by rw[h2,zab,s1]
 have n1:New w W1:=by rw[h1];exact zU _ _ _
 have n2:New W1 W2:=by rw[h2];exact zU _ _ _
 have n3:New W2 W3:=by rw[h3];exact zU _ _ _
 refine⟨W3,by rw[h3,h2,h1],n1.trans (n2.trans n3),by rw[h3,zab,s2],?_,?_,?_⟩
 · exact zaa ((n3.block _ (by omega) id).trans ((n2.block _ (by omega) id).trans (by rw[h1];exact zX w _))) 0 _ rfl
 · exact zaa ((n3.block _ (by omega) id).trans (by rw[h2,<-s1];exact zX W1 _)) 0 _ rfl
 · rw[h3,<-s2];exact zX W2 _
theorem dadd_c {Q Q':Nat->Prop} {w:World} {A A':Option Addr} {n c n' c' x y:Nat} (h:LQ Q w A n c x) (h':LQ Q' w A' n' c' y) (hb:x+y<Gn.B ^ 1000):Calls Tryz.prog 36 #[.agg #[.slice A n c],.agg #[.slice A' n' c']] w (DecR w (x+y)):=by
 obtain⟨W,hW,a1,hs,c1,c2,a3⟩:=boxes2 w (.slice A n c) (.slice A' n' c');have h1:=nadd (h.new a1) (h'.new a1) hb;have H1:=zqH h1;have HB:=zqH a3;have HN:=zqH a1;have HS:=zqH hs;clear h1 a3 a1 hs h h' hb;go_enter Tryz.func36,Tryz.ntmps36
 go_upto_region 1 with fail
 rw[<-hW];clear hW
 go_wp2_with (go_at_call 28;refine H1.out.mono ?_;rintro e w2 ⟨R,m,d,rfl,a4,a2⟩;obtain⟨c0,z0,q0,hl,a1⟩:=zbf (b:=w.heap.size+1+1) (HN.out.trans a2) ((a2.block _ (by have:=HS.out;omega) id).trans HB.out) (by omega) (a4.mono (fun b _ hb=>by have hb:W.heap.size<=b:=hb;have:=HS.out;show w.heap.size+1+1<b;omega));have QQ:=zqH (zN q0 (zN hl a1));clear H1 a4 a2 q0 hl a1)
 obtain⟨q0,hl,a1⟩:=QQ.out;refine bodyPost_ret (by simp[results,Tryz.results36,go_sem,q0];try rfl) rfl ?_
 exact⟨R,m,d,rfl,hl,a1⟩
def DecE (w:World) (x:Nat) (er:Int) (e:Ending) (w':World):Prop:=∃R m d,e=.returned (.tuple #[.agg #[.slice R m d],.int .i64 er])/\LN (NB w) w' R m d x/\New w w'
theorem dsub_c {Q Q':Nat->Prop} {w:World} {A A':Option Addr} {n c n' c' x y:Nat} (h:LQ Q w A n c x) (h':LQ Q' w A' n' c' y) (hle:y<=x):Calls Tryz.prog 88 #[.agg #[.slice A n c],.agg #[.slice A' n' c']] w (DecE w (x-y) 0):=by
 obtain⟨W,hW,a1,hs,c1,c2,a3⟩:=boxes2 w (.slice A n c) (.slice A' n' c');have h1:=nsub (h.new a1) (h'.new a1) hle;have H1:=zqH h1;have HB:=zqH a3;have HN:=zqH a1;have HS:=zqH hs;clear h1 a3 a1 hs h h' hle;go_enter Tryz.func88,Tryz.ntmps88
 go_upto_region 1 with fail
 rw[<-hW];clear hW
 go_wp2_with (go_at_call 141;refine H1.out.mono ?_;rintro e w2 ⟨R,m,d,rfl,a4,a2⟩;obtain⟨c0,z0,q0,hl,a1⟩:=zbf (b:=w.heap.size+1+1) (HN.out.trans a2) ((a2.block _ (by have:=HS.out;omega) id).trans HB.out) (by omega) (a4.mono (fun b _ hb=>by have hb:W.heap.size<=b:=hb;have:=HS.out;show w.heap.size+1+1<b;omega));have QQ:=zqH (zN q0 (zN hl a1));clear H1 a4 a2 q0 hl a1)
 obtain⟨q0,hl,a1⟩:=QQ.out;refine bodyPost_ret (by simp[results,Tryz.results88,go_sem,q0];try rfl) rfl ?_
 exact⟨R,m,d,rfl,hl,a1⟩
theorem rounder_c (w:World):Calls Tryz.prog 90 #[.slice none 0 0] w fun e w'=>e=.returned (.func (.func 143) #[] #[.pointer (some ⟨w.heap.size,0,none⟩)])/\w'=w.alloc (.cells #[.slice none 0 0] 24):=by
 go_enter Tryz.func90,Tryz.ntmps90
 go_wp2
 go_ret
 exact⟨rfl,rfl⟩
theorem round1_c {Q Q' Q'':Nat->Prop} {w:World} {A A' A'':Option Addr} {n c n' c' n'' c'' x y z ub:Nat} (h:LQ Q w A n c x) (h':LQ Q' w A' n' c' y) (h'':LQ Q'' w A'' n'' c'' z) (h0:0<z) (hb:x*y<Gn.B ^ 1000) (hub:w.cell? ⟨ub,0,none⟩=some (.slice none 0 0)):
 Calls Tryz.prog 143 #[.slice A n c,.slice A' n' c',.slice A'' n'' c'',.pointer (some ⟨ub,0,none⟩)] w (DecE w (x*y / z) 0):=by
 obtain⟨W,hW⟩:=zE (w.alloc (.cells #[.slice none 0 0] 26));have a1:New w W:=by rw[hW];exact zU _ _ _
 have a8:=zX w (.cells #[.slice none 0 0] 26);rw[<-hW]at a8;have hs:W.heap.size=w.heap.size+1:=by rw[hW];exact zab _ _
 have a9:=zqB w _ hub;have a6:=(a1.cell (a:=⟨ub,0,none⟩) a9 id).trans hub;have h1:=nmuldiv (h.new a1) (h'.new a1) (h''.new a1) h0 hb;have b0:x*y / z+0<Gn.B ^ 1000:=Nat.lt_of_le_of_lt (Nat.div_le_self _ _) hb;obtain⟨X,hX⟩:=zE (x*y / z);obtain⟨Y,hY⟩:=zE (x*y % z);unfold DivN at h1;rw[<-hX,<-hY]at h1;rw[<-hX]at b0 ⊢;have H1:=zqH h1;have HB:=zqH a8;have HN:=zqH a1;have HS:=zqH hs;have HQ:=zqH b0;have b7:=zqH (zN a9 a6);clear h1 a8 a1 hs hX hY b0 h h' h'' hb h0 hub a9 a6;go_enter Tryz.func143,Tryz.ntmps143
 go_upto_region 1 with fail
 rw[<-hW];clear hW
 go_upto_region 4 with(go_at_call 144;refine H1.out.mono ?_;rintro e w2 ⟨R,m,d,R',m',d',rfl,a3,a7,a2⟩;have H2:=zqH (zN a3 (zN a7.few a2));clear H1 a3 a7 a2)
 obtain⟨a3,e7,a2⟩:=H2.out;by_cases hm0:0<m'
 · have e6:w2.cell? ⟨ub,0,none⟩=some (.slice none 0 0):=(a2.cell (a:=⟨ub,0,none⟩) (zqL b7.out.1 HN.out.size) id).trans b7.out.2;have b8:=nadd a3.lq (LN.nil (fun _=>False) w2).lq HQ.out;have b9:=zqH b8;have N2:=zqH a2;clear a3 a2 b8
   go_wp2_with (go_at_call 28;refine b9.out.mono ?_;rintro e w3 ⟨R3,m3,d3,rfl,b5,b6⟩;rw[Nat.add_zero]at b5;obtain⟨c0,z0,q0,hl,a1⟩:=zbf (b:=w.heap.size) (HN.out.trans (N2.out.trans b6)) (((N2.out.trans b6).block _ (by have:=HS.out;omega) id).trans HB.out) (zR _) (b5.mono (fun b _ hb=>by have hb:w2.heap.size<=b:=hb;have:=HS.out;have:=N2.out.size;show w.heap.size<b;omega));have QQ:=zqH (zN q0 (zN hl a1));clear b9 b5 b6 q0 hl a1)
   obtain⟨q0,hl,a1⟩:=QQ.out;refine bodyPost_ret (by simp[results,Tryz.results143,go_sem,q0];try rfl) rfl ?_
   exact⟨R3,m3,d3,rfl,hl,a1⟩
 · obtain rfl:m'=0:=by omega
   obtain⟨c0,z0,q0,hl,a1⟩:=zbf (b:=w.heap.size) (HN.out.trans a2) ((a2.block _ (by have:=HS.out;omega) id).trans HB.out) (zR _) (a3.mono (fun b _ hb=>by have hb:W.heap.size<=b:=hb;have:=HS.out;show w.heap.size<b;omega));have QQ:=zqH (zN q0 (zN hl a1));clear q0 hl a1 a3 a2;go_wp2;obtain⟨q0,hl,a1⟩:=QQ.out;refine bodyPost_ret (by simp[results,Tryz.results143,go_sem,q0];try rfl) rfl ?_
   exact⟨R,m,d,rfl,hl,a1⟩
end Gz
namespace Gz
open Go Go.RowKit Go.Proofs Gl Gn
def Zer (w:World) (e:Ending) (w':World):Prop:=e=.returned (.tuple #[.slice none 0 0,.slice none 0 0,.int .i64 11])/\New w w'
theorem ndivmod0 {Q Q':Nat->Prop} {w:World} {A A':Option Addr} {n c n' c' x:Nat} (h:LQ Q w A n c x) (h':LQ Q' w A' n' c' 0):Calls Tryz.prog 140 #[.slice A n c,.slice A' n' c'] w (Zer w):=by
 obtain⟨l,h1,rfl⟩:=h.nat;obtain⟨l',h2,h0⟩:=h'.nat;obtain⟨N,hN⟩:=zE (trimLen l);have hM:trimLen l'=0:=by
  rcases Nat.eq_zero_or_pos (trimLen l') with h|h
  · exact h
  · exfalso
    have hv:Gn.val (trim l')=0:=(by rw[val_trim];exact h0);have hp:=val_lt_len (a:=[]) (by intro b hb;cases hb) (norm_trim l') (by rw[zau];simpa using h);rw[hv]at hp;simp at hp
 have TA:=zbb h1;have TB:=zbb h2;rw[<-hN]at TA;rw[hM]at TB;have HA:=zqH TA;have HB:=zqH TB;clear TA TB h1 h2 h0 hN hM h h';go_enter Tryz.func140,Tryz.ntmps140
 go_wp2_with fail
 refine HA.out.mono ?_
 rintro e w3 ⟨rfl,rfl⟩
 go_wp2_with fail
 refine HB.out.mono ?_
 rintro e w3 ⟨rfl,rfl⟩;go_wp2
 go_ret3
 exact⟨rfl,Upd.refl _ _⟩
theorem nmuldiv0 {Q Q' Q'':Nat->Prop} {w:World} {A A' A'':Option Addr} {n c n' c' n'' c'' x y:Nat} (h:LQ Q w A n c x) (h':LQ Q' w A' n' c' y) (h'':LQ Q'' w A'' n'' c'' 0) (hb:x*y<Gn.B ^ 1000):Calls Tryz.prog 144 #[.slice A n c,.slice A' n' c',.slice A'' n'' c''] w (Zer w):=by
 have H1:=zqH (nmul h h' hb);have H2:=zqH h'';clear h h' h'';go_enter Tryz.func144,Tryz.ntmps144
 go_wp2_with (first
  | (go_at_call 29;refine H1.out.mono ?_;rintro e w1 ⟨R,m,d,rfl,hr,a1⟩;have H3:=zqH (zN hr a1);clear hr a1)
  | (go_at_call 140;refine(ndivmod0 H3.out.1.lq (H2.out.new H3.out.2)).mono ?_;rintro e w2 ⟨rfl,a3⟩))
 go_ret3
 exact⟨rfl,H3.out.2.trans a3⟩
theorem round1_0 {Q Q' Q'':Nat->Prop} {w:World} {A A' A'':Option Addr} {n c n' c' n'' c'' x y ub:Nat} (h:LQ Q w A n c x) (h':LQ Q' w A' n' c' y) (h'':LQ Q'' w A'' n'' c'' 0) (hb:x*y<Gn.B ^ 1000):
 Calls Tryz.prog 143 #[.slice A n c,.slice A' n' c',.slice A'' n'' c'',.pointer (some ⟨ub,0,none⟩)] w (DecE w 0 21):=by
 obtain⟨W,hW⟩:=zE (w.alloc (.cells #[.slice none 0 0] 26));have a1:New w W:=by rw[hW];exact zU _ _ _
 have a2:=zX w (.cells #[.slice none 0 0] 26);rw[<-hW]at a2;have hs:W.heap.size=w.heap.size+1:=by rw[hW];exact zab _ _
 have H1:=zqH (nmuldiv0 (h.new a1) (h'.new a1) (h''.new a1) hb);have HB:=zqH a2;have HN:=zqH a1;have HS:=zqH hs;clear a2 a1 hs h h' h'' hb;go_enter Tryz.func143,Tryz.ntmps143
 go_upto_region 1 with fail
 rw[<-hW];clear hW
 go_upto_region 3 with(go_at_call 144;refine H1.out.mono ?_;rintro e w2 ⟨rfl,a3⟩;obtain⟨c0,z0,q0,hl,a1⟩:=zbf (b:=w.heap.size) (HN.out.trans a3) ((a3.block _ (by have:=HS.out;omega) id).trans HB.out) (zR _) (LN.nil _ w2);have QQ:=zqH (zN q0 (zN hl a1));clear q0 hl a1 a3 H1)
 go_wp2
 obtain⟨q0,hl,a1⟩:=QQ.out;refine bodyPost_ret (by simp[results,Tryz.results143,go_sem,q0];try rfl) rfl ?_
 exact⟨none,0,0,rfl,hl,a1⟩
def erz (z:Nat):Int:=if z=0 then 21 else 0
theorem erz_pos {z:Nat} (h:0<z):erz z=0:=if_neg (by omega)
theorem round1_any {Q Q' Q'':Nat->Prop} {w:World} {A A' A'':Option Addr} {n c n' c' n'' c'' x y z ub:Nat} (h:LQ Q w A n c x) (h':LQ Q' w A' n' c' y) (h'':LQ Q'' w A'' n'' c'' z) (hb:x*y<Gn.B ^ 1000) (hub:w.cell? ⟨ub,0,none⟩=some (.slice none 0 0)):
 Calls Tryz.prog 143 #[.slice A n c,.slice A' n' c',.slice A'' n'' c'',.pointer (some ⟨ub,0,none⟩)] w (DecE w (x*y / z) (erz z)):=by
 rcases Nat.eq_zero_or_pos z with h0|h0
 · subst h0;rw[Nat.div_zero];exact round1_0 h h' h'' hb
 · rw[erz_pos h0];exact round1_c h h' h'' h0 hb hub
theorem nsub0 {Q Q':Nat->Prop} {w:World} {A A':Option Addr} {n c n' c' x y:Nat} (h:LQ Q w A n c x) (h':LQ Q' w A' n' c' y) (hlt:x<y):Calls Tryz.prog 141 #[.slice A n c,.slice A' n' c'] w fun e w'=>e=.returned (.tuple #[.slice none 0 0,.int .i64 10])/\New w w':=by
 have HC:=ncmp h h';rw[show cmpI x y = -1 from cmpI_lt (by omega)]at HC;have H:=zqH HC;clear HC h h' hlt;go_enter Tryz.func141,Tryz.ntmps141
 go_wp2_with (go_at_call 31;refine H.out.mono ?_;rintro e w' ⟨rfl,q,rfl⟩)
 go_ret2
 exact⟨by simp,(Upd.refl _ _).drewN q⟩
theorem dsub0 {Q Q':Nat->Prop} {w:World} {A A':Option Addr} {n c n' c' x y:Nat} (h:LQ Q w A n c x) (h':LQ Q' w A' n' c' y) (hlt:x<y):Calls Tryz.prog 88 #[.agg #[.slice A n c],.agg #[.slice A' n' c']] w (DecE w 0 20):=by
 obtain⟨W,hW,a1,hs,c1,c2,a3⟩:=boxes2 w (.slice A n c) (.slice A' n' c');have h1:=nsub0 (h.new a1) (h'.new a1) hlt;have H1:=zqH h1;have HB:=zqH a3;have HN:=zqH a1;have HS:=zqH hs;clear h1 a3 a1 hs h h' hlt;go_enter Tryz.func88,Tryz.ntmps88
 go_upto_region 1 with fail
 rw[<-hW];clear hW
 go_wp2_with (go_at_call 141;refine H1.out.mono ?_;rintro e w2 ⟨rfl,a2⟩;obtain⟨c0,z0,q0,hl,a1⟩:=zbf (b:=w.heap.size+1+1) (HN.out.trans a2) ((a2.block _ (by have:=HS.out;omega) id).trans HB.out) (by omega) (LN.nil _ w2);have QQ:=zqH (zN q0 (zN hl a1));clear q0 hl a1 a2)
 obtain⟨q0,hl,a1⟩:=QQ.out;refine bodyPost_ret (by simp[results,Tryz.results88,go_sem,q0];try rfl) rfl ?_
 exact⟨none,0,0,rfl,hl,a1⟩
theorem dsub_any {Q Q':Nat->Prop} {w:World} {A A':Option Addr} {n c n' c' x y:Nat} (h:LQ Q w A n c x) (h':LQ Q' w A' n' c' y):∃k,Calls Tryz.prog 88 #[.agg #[.slice A n c],.agg #[.slice A' n' c']] w (DecE w (x-y) k):=by
 rcases Nat.lt_or_ge x y with hl|hl
 · exact⟨20,by rw[Nat.sub_eq_zero_of_le (by omega)];exact dsub0 h h' hl⟩
 · exact⟨0,dsub_c h h' hl⟩
end Gz
namespace Gz
open Go Go.RowKit Go.Proofs Gl
theorem over_any {Q:Nat->Prop} {w:World} {A:Option Addr} {n c x t:Nat} (h:LQ Q w A n c x) (ht:t<18446744073709551616):
 Calls Tryz.prog 39 #[.agg #[.slice A n c],.int .u64 (t:Int)] w (DecE w (x / t) (erz t)):=by
 obtain⟨W1,a4⟩:=zE (w.alloc (.cells #[.slice A n c] 26));obtain⟨W,hW⟩:=zE (W1.alloc (.cells #[.slice none 0 0] 26));have s1:W1.heap.size=w.heap.size+1:=by rw[a4];exact zab _ _
 have s2:W.heap.size=w.heap.size+1+1:=by rw[hW,zab,s1]
 have n1:New w W1:=by rw[a4];exact zU _ _ _
 have n2:New W1 W:=by rw[hW];exact zU _ _ _
 have a1:New w W:=n1.trans n2;have b1:W.heap[w.heap.size]?=some (.cells #[.slice A n c] 26 (0,0)):=(n2.block _ (by omega) id).trans (by rw[a4];exact zX w _);have b5:W.heap[w.heap.size+1]?=some (.cells #[.slice none 0 0] 26 (0,0)):=by rw[hW,<-s1];exact zX W1 _
 have l0:W.cell? ⟨w.heap.size,0,none⟩=some (.slice A n c):=zaa b1 0 _ rfl;have a2:∀W',New W W'->W'.cell? ⟨w.heap.size,0,none⟩=some (.slice A n c):=fun W' hn=>(hn.cell (a:=⟨w.heap.size,0,none⟩) (by show w.heap.size<_;omega) id).trans l0;have hx:=h.lt;have b6:x*1<Gn.B ^ 1000:=by rw[Nat.mul_one];exact zqL hx (@zbe _ 1000 h.few)
 have a3:∀W' A1 k1 e1 A2 k2 e2 ub,New W W'->LQ (NB W) W' A1 k1 e1 1->LQ (NB W) W' A2 k2 e2 t->W'.cell? ⟨ub,0,none⟩=some (.slice none 0 0)->Calls Tryz.prog 143 #[.slice A n c,.slice A1 k1 e1,.slice A2 k2 e2,.pointer (some ⟨ub,0,none⟩)] W' (DecE W' (x / t) (erz t)):=fun W' A1 k1 e1 A2 k2 e2 ub hn g1 g2 hu=>by
  have:=round1_any (h.new (a1.trans hn)) g1 g2 b6 hu
  rwa [Nat.mul_one]at this
 obtain⟨ez,c5⟩:=zE (erz t);rw[<-c5]at a3 ⊢;have H3:=zqH a3;have HK:=zqH a2;have HB:=zqH b5;have HN:=zqH a1;have S2:=zqH s2;have HT:=zqH ht;clear a3 a2 b5 a1 s1 s2 n1 n2 b1 hx b6 h ht c5;go_enter Tryz.func39,Tryz.ntmps39
 go_upto_region 1 with fail
 rw[<-a4,<-hW];clear a4 hW
 go_region_held (fun w'=>w'.cell? ⟨w.heap.size,0,none⟩=some (.slice A n c)) (go_keep) (first
  | (go_at_call 90
     refine(rounder_c _).mono ?_
     rintro e w1 ⟨rfl,a7⟩;have n1:New W w1:=(by rw[a7];exact(Upd.refl _ W).drew.trans (zU _ _ _));have b7:w1.cell? ⟨W.drew.heap.size,0,none⟩=some (.slice none 0 0):=(by rw[a7];exact zaa (zX W.drew _) 0 _ rfl);have d1:=HK.out _ n1;have E1:=zqH (zN n1 b7);clear a7 n1 b7)
  | (go_at_call_of 30 (Value.int IntKind.u64 1)
     refine(nof 1 (by decide) w1).mono ?_
     rintro e w2 ⟨A1,k1,e1,rfl,d5,a8⟩;have d2:=HK.out _ (E1.out.1.trans a8);have E2:=zqH (zN d5 a8);clear d5 a8)
  | (go_at_call_of 30 (Value.int IntKind.u64 (t:Int))
     refine(nof t HT.out w2).mono ?_
     rintro e w3 ⟨A2,k2,e2,rfl,d8,a9⟩;have d3:=HK.out _ ((E1.out.1.trans E2.out.2).trans a9);have E3:=zqH (zN d8 a9);clear d8 a9)
  | (go_at_call 143
     refine(H3.out w3 A1 k1 e1 A2 k2 e2 _ ((E1.out.1.trans E2.out.2).trans E3.out.2) ((E2.out.1.lq.mono (fun b _ hb=>zT E1.out.1.size hb)).new E3.out.2) (E3.out.1.lq.mono (fun b _ hb=>zT (E1.out.1.trans E2.out.2).size hb)) (((E2.out.2.trans E3.out.2).cell (a:=⟨W.drew.heap.size,0,none⟩) (zqB w1 _ E1.out.2) id).trans E1.out.2)).mono ?_
     rintro e w4 ⟨R,m,d,rfl,d9,e0⟩;have n4:New W w4:=((E1.out.1.trans E2.out.2).trans E3.out.2).trans e0;have d4:=HK.out _ n4;obtain⟨c0,z0,q0,hl,a1⟩:=zbf (b:=w.heap.size+1) (HN.out.trans n4) ((n4.block _ (by have:=S2.out;omega) id).trans HB.out) (by omega) (d9.mono (fun b _ hb=>by have hb:w3.heap.size<=b:=hb;have:=S2.out;have:=((E1.out.1.trans E2.out.2).trans E3.out.2).size;show w.heap.size+1<b;omega));have QQ:=zqH (zN q0 (zN hl a1));clear d9 e0 n4 q0 hl a1))
 clear c0 z0;go_wp2;obtain⟨q0,hl,a1⟩:=QQ.out;refine bodyPost_ret (by simp[results,Tryz.results39,go_sem,q0];try rfl) rfl ?_
 exact⟨R,m,d,rfl,hl,a1⟩
theorem over_c {Q:Nat->Prop} {w:World} {A:Option Addr} {n c x t:Nat} (h:LQ Q w A n c x) (h0:0<t) (ht:t<18446744073709551616):
 Calls Tryz.prog 39 #[.agg #[.slice A n c],.int .u64 (t:Int)] w (DecE w (x / t) 0):=by
 have:=over_any h ht
 rwa [erz_pos h0]at this
theorem boxes3 (w:World) (v v' v'':Value):∃W,W=(((w.alloc (.cells #[v] 26)).alloc (.cells #[v'] 26)).alloc (.cells #[v''] 26)).alloc (.cells #[.slice none 0 0] 26)/\New w W/\W.heap.size=w.heap.size+1+1+1+1/\W.cell? ⟨w.heap.size,0,none⟩=some v/\W.cell? ⟨w.heap.size+1,0,none⟩=some v'/\W.cell? ⟨w.heap.size+1+1,0,none⟩=some v''/\W.heap[w.heap.size+1+1+1]?=some (.cells #[.slice none 0 0] 26 (0,0)):=by
 obtain⟨W1,h1⟩:=zE (w.alloc (.cells #[v] 26));obtain⟨W2,h2⟩:=zE (W1.alloc (.cells #[v'] 26));obtain⟨W3,h3⟩:=zE (W2.alloc (.cells #[v''] 26));obtain⟨W4,h4⟩:=zE (W3.alloc (.cells #[.slice none 0 0] 26));have s1:W1.heap.size=w.heap.size+1:=by rw[h1];exact zab _ _
 have s2:W2.heap.size=w.heap.size+1+1:=by rw[h2,zab,s1]
 have s3:W3.heap.size=w.heap.size+1+1+1:=by rw[h3,zab,s2]
 have n1:New w W1:=by rw[h1];exact zU _ _ _
 have n2:New W1 W2:=by rw[h2];exact zU _ _ _
 have n3:New W2 W3:=by rw[h3];exact zU _ _ _
 have n4:New W3 W4:=by rw[h4];exact zU _ _ _
 refine⟨W4,by rw[h4,h3,h2,h1],n1.trans (n2.trans (n3.trans n4)),by rw[h4,zab,s3],?_,?_,?_,?_⟩
 · exact zaa (((n3.trans n4).block _ (by omega) id).trans ((n2.block _ (by omega) id).trans (by rw[h1];exact zX w _))) 0 _ rfl
 · exact zaa (((n3.trans n4).block _ (by omega) id).trans (by rw[h2,<-s1];exact zX W1 _)) 0 _ rfl
 · exact zaa ((n4.block _ (by omega) id).trans (by rw[h3,<-s2];exact zX W2 _)) 0 _ rfl
 · rw[h4,<-s3];exact zX W3 _
theorem dmuldiv_any {Q Q' Q'':Nat->Prop} {w:World} {A A' A'':Option Addr} {n c n' c' n'' c'' x y z:Nat} (h:LQ Q w A n c x) (h':LQ Q' w A' n' c' y) (h'':LQ Q'' w A'' n'' c'' z) (hb:x*y<Gn.B ^ 1000):
 Calls Tryz.prog 63 #[.agg #[.slice A n c],.agg #[.slice A' n' c'],.agg #[.slice A'' n'' c'']] w (DecE w (x*y / z) (erz z)):=by
 obtain⟨W,hW,a1,hs,l0,l1,l2,a8⟩:=boxes3 w (.slice A n c) (.slice A' n' c') (.slice A'' n'' c'');have a2:∀W',New W W'->W'.cell? ⟨w.heap.size,0,none⟩=some (.slice A n c)/\W'.cell? ⟨w.heap.size+1,0,none⟩=some (.slice A' n' c')/\W'.cell? ⟨w.heap.size+1+1,0,none⟩=some (.slice A'' n'' c''):=fun W' hn=>⟨(hn.cell (a:=⟨w.heap.size,0,none⟩) (by show w.heap.size<_;omega) id).trans l0,(hn.cell (a:=⟨w.heap.size+1,0,none⟩) (by show w.heap.size+1<_;omega) id).trans l1,(hn.cell (a:=⟨w.heap.size+1+1,0,none⟩) (by show w.heap.size+1+1<_;omega) id).trans l2⟩
 have a3:∀W' ub,New W W'->W'.cell? ⟨ub,0,none⟩=some (.slice none 0 0)->Calls Tryz.prog 143 #[.slice A n c,.slice A' n' c',.slice A'' n'' c'',.pointer (some ⟨ub,0,none⟩)] W' (DecE W' (x*y / z) (erz z)):=fun W' ub hn hu=>
  round1_any (h.new (a1.trans hn)) (h'.new (a1.trans hn)) (h''.new (a1.trans hn)) hb hu
 obtain⟨X,hX⟩:=zE (x*y / z);obtain⟨ez,a9⟩:=zE (erz z);rw[<-hX,<-a9]at a3 ⊢;have H3:=zqH a3;have HK:=zqH a2;have HB:=zqH a8;have HN:=zqH a1;have S2:=zqH hs;clear a3 a2 a8 a1 hs hX a9 h h' h'' hb;go_enter Tryz.func63,Tryz.ntmps63
 go_upto_region 1 with fail
 rw[<-hW];clear hW
 go_region_held (fun w'=>w'.cell? ⟨w.heap.size,0,none⟩=some (.slice A n c)/\w'.cell? ⟨w.heap.size+1,0,none⟩=some (.slice A' n' c')/\w'.cell? ⟨w.heap.size+1+1,0,none⟩=some (.slice A'' n'' c'')) (go_keep) (first
  | (go_at_call 90
     refine(rounder_c _).mono ?_
     rintro e w1 ⟨rfl,a5⟩;have n1:New W w1:=(by rw[a5];exact(Upd.refl _ W).drew.trans (zU _ _ _));have a6:w1.cell? ⟨W.drew.heap.size,0,none⟩=some (.slice none 0 0):=(by rw[a5];exact zaa (zX W.drew _) 0 _ rfl);obtain⟨d1,d2,d3⟩:=HK.out _ n1;have E1:=zqH (zN n1 a6);clear a5 n1 a6)
  | (go_at_call 143
     refine(H3.out w1 _ E1.out.1 E1.out.2).mono ?_
     rintro e w4 ⟨R,m,d,rfl,b0,b5⟩;have n4:New W w4:=E1.out.1.trans b5;obtain⟨e1,e2,e3⟩:=HK.out _ n4;obtain⟨c0,z0,q0,hl,a1⟩:=zbf (b:=w.heap.size+1+1+1) (HN.out.trans n4) ((n4.block _ (by have:=S2.out;omega) id).trans HB.out) (by omega) (b0.mono (fun b _ hb=>by have hb:w1.heap.size<=b:=hb;have:=S2.out;have:=E1.out.1.size;show w.heap.size+1+1+1<b;omega));have a4:Upd (fun b=>b=w.heap.size+1+1+1) w4 (w4.setCell ⟨w.heap.size+1+1+1,0,none⟩ (.slice R m d)):=Upd.setCell w4 _ rfl;have a7:w.heap.size+1+1+1<w4.heap.size:=(by have:=S2.out;have:=n4.size;omega);have g1:=(a4.cell (a:=⟨w.heap.size,0,none⟩) (by show w.heap.size<_;omega) (by show ¬w.heap.size=_;omega)).trans e1;have g2:=(a4.cell (a:=⟨w.heap.size+1,0,none⟩) (by show w.heap.size+1<_;omega) (by show ¬w.heap.size+1=_;omega)).trans e2;have g3:=(a4.cell (a:=⟨w.heap.size+1+1,0,none⟩) (by show w.heap.size+1+1<_;omega) (by show ¬w.heap.size+1+1=_;omega)).trans e3;have QQ:=zqH (zN q0 (zN hl a1));clear b0 b5 n4 q0 hl a1 a4 a7))
 clear c0 z0;go_wp2;obtain⟨q0,hl,a1⟩:=QQ.out;refine bodyPost_ret (by simp[results,Tryz.results63,go_sem,q0];try rfl) rfl ?_
 exact⟨R,m,d,rfl,hl,a1⟩
theorem dmuldiv_c {Q Q' Q'':Nat->Prop} {w:World} {A A' A'':Option Addr} {n c n' c' n'' c'' x y z:Nat} (h:LQ Q w A n c x) (h':LQ Q' w A' n' c' y) (h'':LQ Q'' w A'' n'' c'' z) (h0:0<z) (hb:x*y<Gn.B ^ 1000):
 Calls Tryz.prog 63 #[.agg #[.slice A n c],.agg #[.slice A' n' c'],.agg #[.slice A'' n'' c'']] w (DecE w (x*y / z) 0):=by
 have:=dmuldiv_any h h' h'' hb
 rwa [erz_pos h0]at this
theorem dcmp_c {Q Q':Nat->Prop} {w:World} {A A':Option Addr} {n c n' c' x y:Nat} (h:LQ Q w A n c x) (h':LQ Q' w A' n' c' y):Calls Tryz.prog 37 #[.agg #[.slice A n c],.agg #[.slice A' n' c']] w fun e w'=>e=.returned (.int .i64 (cmpI x y))/\New w w':=by
 obtain⟨W1,a1⟩:=zE (w.alloc (.cells #[.slice A n c] 26));obtain⟨W,hW⟩:=zE (W1.alloc (.cells #[.slice A' n' c'] 26));have s1:W1.heap.size=w.heap.size+1:=by rw[a1];exact zab _ _
 have n1:New w W1:=by rw[a1];exact zU _ _ _
 have n2:New W1 W:=by rw[hW];exact zU _ _ _
 have a2:New w W:=n1.trans n2;have l0:W.cell? ⟨w.heap.size,0,none⟩=some (.slice A n c):=zaa ((n2.block _ (by omega) id).trans (by rw[a1];exact zX w _)) 0 _ rfl;have l1:W.cell? ⟨w.heap.size+1,0,none⟩=some (.slice A' n' c'):=zaa (by rw[hW,<-s1];exact zX W1 _) 0 _ rfl;have H1:=zqH (ncmp (h.new a2) (h'.new a2));have HN:=zqH a2;obtain⟨z,hz⟩:=zE (cmpI (x:Int) (y:Int));rw[<-hz]at H1 ⊢;clear hz n1 n2 a2 h h' s1;go_enter Tryz.func37,Tryz.ntmps37
 go_upto_region 1 with fail
 rw[<-a1,<-hW];clear a1 hW
 go_wp2_with (go_at_call 31;refine H1.out.mono ?_;rintro e w2 ⟨rfl,q,hq⟩;have HQ:=zqH hq;clear hq)
 go_ret
 exact⟨rfl,by rw[HQ.out];exact HN.out.drewN q⟩
theorem times_c {Q:Nat->Prop} {w:World} {A:Option Addr} {n c x t:Nat} (h:LQ Q w A n c x) (ht:t<18446744073709551616) (hb:x*t<Gn.B ^ 1000):
 Calls Tryz.prog 40 #[.agg #[.slice A n c],.int .u64 (t:Int)] w (DecR w (x*t)):=by
 obtain⟨W1,a3⟩:=zE (w.alloc (.cells #[.slice A n c] 26));obtain⟨W,hW⟩:=zE (W1.alloc (.cells #[.slice none 0 0] 26));have s1:W1.heap.size=w.heap.size+1:=by rw[a3];exact zab _ _
 have s2:W.heap.size=w.heap.size+1+1:=by rw[hW,zab,s1]
 have n1:New w W1:=by rw[a3];exact zU _ _ _
 have n2:New W1 W:=by rw[hW];exact zU _ _ _
 have a1:New w W:=n1.trans n2;have b1:W.heap[w.heap.size]?=some (.cells #[.slice A n c] 26 (0,0)):=(n2.block _ (by omega) id).trans (by rw[a3];exact zX w _);have a5:W.heap[w.heap.size+1]?=some (.cells #[.slice none 0 0] 26 (0,0)):=by rw[hW,<-s1];exact zX W1 _
 have l0:W.cell? ⟨w.heap.size,0,none⟩=some (.slice A n c):=zaa b1 0 _ rfl;have a2:∀W',New W W'->W'.cell? ⟨w.heap.size,0,none⟩=some (.slice A n c):=fun W' hn=>(hn.cell (a:=⟨w.heap.size,0,none⟩) (by show w.heap.size<_;omega) id).trans l0;have a4:∀W' A1 k1 e1,New W W'->LQ (NB W) W' A1 k1 e1 t->Calls Tryz.prog 29 #[.slice A n c,.slice A1 k1 e1] W' (NumR W' (x*t)):=fun W' A1 k1 e1 hn g1=>nmul (h.new (a1.trans hn)) g1 hb;obtain⟨X,hX⟩:=zE (x*t);rw[<-hX]at a4 ⊢;have H3:=zqH a4;have HK:=zqH a2;have HB:=zqH a5;have HN:=zqH a1;have S2:=zqH s2;have HT:=zqH ht;clear a4 a2 a5 a1 s1 s2 n1 n2 b1 hX h hb ht;go_enter Tryz.func40,Tryz.ntmps40
 go_upto_region 1 with fail
 rw[<-a3,<-hW];clear a3 hW
 go_region_held (fun w'=>w'.cell? ⟨w.heap.size,0,none⟩=some (.slice A n c)) (go_keep) (first
  | (go_at_call 30
     refine(nof t HT.out _).mono ?_
     rintro e w2 ⟨A1,k1,e1,rfl,b0,b5⟩;have n2:New W w2:=(Upd.refl _ W).drew.trans b5;have d2:=HK.out _ n2;have E2:=zqH (zN b0 n2);clear b0 b5 n2)
  | (go_at_call 29
     refine(H3.out w2 A1 k1 e1 E2.out.2 E2.out.1.lq).mono ?_
     rintro e w4 ⟨R,m,d,rfl,b6,b7⟩;have n4:New W w4:=E2.out.2.trans b7;have d4:=HK.out _ n4;obtain⟨c0,z0,q0,hl,a1⟩:=zbf (b:=w.heap.size+1) (HN.out.trans n4) ((n4.block _ (by have:=S2.out;omega) id).trans HB.out) (by omega) (b6.mono (fun b _ hb=>by have hb:w2.heap.size<=b:=hb;have:=S2.out;have:=E2.out.2.size;show w.heap.size+1<b;omega));have QQ:=zqH (zN q0 (zN hl a1));clear b6 b7 n4 q0 hl a1))
 clear c0 z0;go_wp2;obtain⟨q0,hl,a1⟩:=QQ.out;refine bodyPost_ret (by simp[results,Tryz.results40,go_sem,q0];try rfl) rfl ?_
 exact⟨R,m,d,rfl,hl,a1⟩
theorem trunc_c {Q:Nat->Prop} {w:World} {A:Option Addr} {n c x:Nat} (h:LQ Q w A n c x):
 Calls Tryz.prog 86 #[.agg #[.slice A n c]] w fun e w'=>∃R m d R' m' d',e=.returned (.tuple #[.slice R m d,.agg #[.slice R' m' d']])/\LN (NB w) w' R m d (x / 10 ^ 36)/\LN (NB w) w' R' m' d' (x % 10 ^ 36)/\New w w':=by
 obtain⟨W1,a4⟩:=zE (w.alloc (.cells #[.slice A n c] 26));obtain⟨W,hW⟩:=zE (W1.alloc (.cells #[.slice none 0 0] 26));have s1:W1.heap.size=w.heap.size+1:=by rw[a4];exact zab _ _
 have s2:W.heap.size=w.heap.size+1+1:=by rw[hW,zab,s1]
 have n1:New w W1:=by rw[a4];exact zU _ _ _
 have n2:New W1 W:=by rw[hW];exact zU _ _ _
 have a1:New w W:=n1.trans n2;have b1:W.heap[w.heap.size]?=some (.cells #[.slice A n c] 26 (0,0)):=(n2.block _ (by omega) id).trans (by rw[a4];exact zX w _);have a7:W.heap[w.heap.size+1]?=some (.cells #[.slice none 0 0] 26 (0,0)):=by rw[hW,<-s1];exact zX W1 _
 have l0:W.cell? ⟨w.heap.size,0,none⟩=some (.slice A n c):=zaa b1 0 _ rfl;have a3:∀W',New W W'->W'.cell? ⟨w.heap.size,0,none⟩=some (.slice A n c):=fun W' hn=>(hn.cell (a:=⟨w.heap.size,0,none⟩) (by show w.heap.size<_;omega) id).trans l0;obtain⟨U,hU⟩:=zE (10 ^ 36);have a2:=fun W'=>unit_ln W';rw[<-hU]at a2 ⊢;have a8:0<U:=by rw[hU];decide
 have a5:∀W' A1 k1 e1,New W W'->LQ (NB W) W' A1 k1 e1 U->Calls Tryz.prog 140 #[.slice A n c,.slice A1 k1 e1] W' (DivN W' x U):=fun W' A1 k1 e1 hn g1=>ndivmod (h.new (a1.trans hn)) g1 a8;have H3:=zqH a5;have HK:=zqH a3;have HB:=zqH a7;have HN:=zqH a1;have S2:=zqH s2;have d6:=zqH a2;obtain⟨X,hX⟩:=zE (x / U);obtain⟨Y,hY⟩:=zE (x % U);unfold DivN at H3;rw[<-hX,<-hY]at H3 ⊢;clear a5 a3 a7 a1 s1 s2 n1 n2 b1 h hU a8 a2 hX hY;go_enter Tryz.func86,Tryz.ntmps86
 go_upto_region 1 with fail
 rw[<-a4,<-hW];clear a4 hW
 go_region_held (fun w'=>w'.cell? ⟨w.heap.size,0,none⟩=some (.slice A n c)) (go_keep) (first
  | (go_at_call 113
     refine(d6.out _).mono ?_
     rintro e w2 ⟨rfl,b6,b7⟩;have n2:New W w2:=(Upd.refl _ W).drew.trans b7;have d2:=HK.out _ n2;have E2:=zqH (zN b6 n2);clear b6 b7 n2)
  | (go_at_call 140
     refine(H3.out w2 _ 2 2 E2.out.2 E2.out.1.lq).mono ?_
     rintro e w4 ⟨R,m,d,R',m',d',rfl,b8,a6,b9⟩;have n4:New W w4:=E2.out.2.trans b9;have d4:=HK.out _ n4;have HH:=zqH (zN (b8.mono (Q':=fun b=>w.heap.size+1<b) (fun b _ hb=>by have hb:w2.heap.size<=b:=hb;have:=S2.out;have:=E2.out.2.size;show w.heap.size+1<b;omega)) n4);obtain⟨c0,z0,q0,hl,a1⟩:=zbf (b:=w.heap.size+1) (HN.out.trans n4) ((n4.block _ (by have:=S2.out;omega) id).trans HB.out) (by omega) (a6.mono (fun b _ hb=>by have hb:w2.heap.size<=b:=hb;have:=S2.out;have:=E2.out.2.size;show w.heap.size+1<b;omega));have QQ:=zqH (zN q0 (zN hl a1));clear b8 a6 b9 n4 q0 hl a1))
 go_wp2
 obtain⟨q0,hl,a1⟩:=QQ.out;refine bodyPost_ret (by simp[results,Tryz.results86,go_sem,q0];try rfl) rfl ?_
 refine⟨R,m,d,R',m',d',rfl,?_,hl,a1⟩;exact(HH.out.1.upd (Upd.setCell (S:=fun c=>c=w.heap.size+1) w4 _ rfl) (fun b hb e=>by have hb:w.heap.size+1<b:=hb;have e:b=w.heap.size+1:=e;omega)).mono (fun b _ hb=>by have hb:w.heap.size+1<b:=hb;show w.heap.size<=b;omega)
theorem minus_any {Q Q':Nat->Prop} {w:World} {A A':Option Addr} {n c n' c' x y:Nat} (h:LQ Q w A n c x) (h':LQ Q' w A' n' c' y):Calls Tryz.prog 61 #[.agg #[.slice A n c],.agg #[.slice A' n' c']] w (DecR w (x-y)):=by
 obtain⟨W,hW,a1,hs,c1,c2,a5⟩:=boxes2 w (.slice A n c) (.slice A' n' c');obtain⟨k,h1⟩:=dsub_any (h.new a1) (h'.new a1);have H1:=zqH h1;have HB:=zqH a5;have HN:=zqH a1;have HS:=zqH hs;clear h1 a5 a1 hs h h';go_enter Tryz.func61,Tryz.ntmps61
 go_upto_region 1 with fail
 rw[<-hW];clear hW
 go_upto_region 2 with(go_at_call 88;refine H1.out.mono ?_;rintro e w2 ⟨R,m,d,rfl,a3,a2⟩;have H2:=zqH (zN a3 a2);clear H1 a3 a2)
 obtain⟨a3,a2⟩:=H2.out;obtain⟨w3,a4⟩:=zE (w2.alloc (.cells #[.slice R m d] 26));rw[<-a4];have n3:New w2 w3:=by rw[a4];exact zU _ _ _
 have l3:w3.cell? ⟨w2.heap.size,0,none⟩=some (.slice R m d):=zaa (by rw[a4];exact zX w2 _) 0 _ rfl;obtain⟨c0,z0,q0,hl,a1⟩:=zbf (b:=w.heap.size+1+1) (HN.out.trans (a2.trans n3)) (((a2.trans n3).block _ (by have:=HS.out;omega) id).trans HB.out) (by omega) ((a3.new n3).mono (fun b _ hb=>by have hb:W.heap.size<=b:=hb;have:=HS.out;show w.heap.size+1+1<b;omega));have QQ:=zqH (zN q0 (zN hl a1));clear q0 hl a1 a3 a2 n3 a4;go_wp2;obtain⟨q0,hl,a1⟩:=QQ.out;refine bodyPost_ret (by simp[results,Tryz.results61,go_sem,q0];try rfl) rfl ?_
 exact⟨R,m,d,rfl,hl,a1⟩
theorem rounder_n (w:World):Calls Tryz.prog 90 #[.slice none 0 0] w fun e w'=>∃ub,e=.returned (.func (.func 143) #[] #[.pointer (some ⟨ub,0,none⟩)])/\New w w'/\w'.cell? ⟨ub,0,none⟩=some (.slice none 0 0):=by
 refine(rounder_c w).mono ?_
 rintro e w' ⟨rfl,rfl⟩;exact⟨_,rfl,zU _ _ _,zaa (zX w _) 0 _ rfl⟩
def AL5 (W:World) (b:Nat) (w:World):Prop:=w.heap[b]?=some (.cells #[.slice none 0 0] 26 (0,0))/\W.heap.size<=b
theorem AL5.next {W w w':World} {b:Nat} (h:AL5 W b w) (hn:New w w'):AL5 W b w':=⟨(hn.block b (zqA.1 h.1).1 id).trans h.1,h.2⟩
theorem AL5.lt {W w:World} {b:Nat} (h:AL5 W b w):b<w.heap.size:=(zqA.1 h.1).1
theorem AL5.make {W w w':World} (h:w'=w.alloc (.cells #[.slice none 0 0] 26)) (hs:W.heap.size<=w.heap.size):AL5 W w.heap.size w'/\New w w':=⟨⟨by rw[h];exact zX w _,hs⟩,by rw[h];exact zU _ _ _⟩
theorem AL5.facts {W w:World} {b a a':Nat} (h:AL5 W b w) {u u':Value} (e1:w.cell? ⟨a,0,none⟩=some u) (e2:w.cell? ⟨a',0,none⟩=some u') (h1:a<W.heap.size) (h2:a'<W.heap.size) (v:Value):
 w.cell? ⟨b,0,none⟩=some (.slice none 0 0)/\w.frozen? ⟨b,0,none⟩=false/\(w.setCell ⟨b,0,none⟩ v).cell? ⟨a,0,none⟩=some u/\(w.setCell ⟨b,0,none⟩ v).cell? ⟨a',0,none⟩=some u':=by
 have a1:Upd (fun x=>x=b) w (w.setCell ⟨b,0,none⟩ v):=Upd.setCell w _ rfl;have:=h.2;exact⟨zaa h.1 0 _ rfl,zad h.1 0,(a1.cell (a:=⟨a,0,none⟩) (zqB w _ e1) (by show ¬a=b;omega)).trans e1,(a1.cell (a:=⟨a',0,none⟩) (zqB w _ e2) (by show ¬a'=b;omega)).trans e2⟩
def MulEnd (w WF:World) (b5:Nat) (R:Option Addr) (m d X:Nat):Prop:=WF.cell? ⟨b5,0,none⟩=some (.slice R m d)/\WF.cell? ⟨w.heap.size+1+1,0,none⟩=some (.slice none 0 0)/\WF.frozen? ⟨w.heap.size+1+1,0,none⟩=false/\(WF.setCell ⟨w.heap.size+1+1,0,none⟩ (.slice R m d)).cell? ⟨w.heap.size+1+1,0,none⟩=some (.slice R m d)/\Hid (LN (NB w) (WF.setCell ⟨w.heap.size+1+1,0,none⟩ (.slice R m d)) R m d X/\New w (WF.setCell ⟨w.heap.size+1+1,0,none⟩ (.slice R m d)))
theorem mul_endA {w W w3 w4:World} {b:Nat} {R:Option Addr} {m d X:Nat} (hn:New w W) (hs:W.heap.size=w.heap.size+1+1+1) (hb:W.heap[w.heap.size+1+1]?=some (.cells #[.slice none 0 0] 26 (0,0))) (al:AL5 W b w4/\b<w3.heap.size) (h4:LN (NB w3) w4 R m d X/\New W w4) (hz:W.heap.size<=w3.heap.size):
 MulEnd w (w4.setCell ⟨b,0,none⟩ (.slice R m d)) b R m d X:=by
 obtain⟨⟨a1,a2⟩,a3⟩:=al;obtain⟨a8,n4⟩:=h4;have a4:Upd (fun x=>x=b) w4 (w4.setCell ⟨b,0,none⟩ (.slice R m d)):=Upd.setCell w4 _ rfl;have a6:w4.heap[w.heap.size+1+1]?=some (.cells #[.slice none 0 0] 26 (0,0)):=(n4.block _ (by omega) id).trans hb;have b0:=n4.size;have n5:New w (w4.setCell ⟨b,0,none⟩ (.slice R m d)):=(hn.trans n4).then a4 (fun x hx e=>by have e:x=b:=e;omega);have a7:LN (fun x=>w.heap.size+1+1<x) (w4.setCell ⟨b,0,none⟩ (.slice R m d)) R m d X:=(a8.upd a4 (fun x hx e=>by have e:x=b:=e;have hx:w3.heap.size<=x:=hx;omega)).mono (fun x _ hx=>by have hx:w3.heap.size<=x:=hx;show w.heap.size+1+1<x;omega);obtain⟨c0,z0,q0,hl,a9⟩:=zbf (b:=w.heap.size+1+1) n5 ((a4.block _ (by omega) (by omega)).trans a6) (by omega) a7;exact⟨zaa (zac a1 (.slice R m d) (i:=0)) 0 _ rfl,c0,z0,q0,zqH ⟨hl,a9⟩⟩
theorem mul_endB {w W w3 w4:World} {R:Option Addr} {m d X:Nat} (hn:New w W) (hs:W.heap.size=w.heap.size+1+1+1) (hb:W.heap[w.heap.size+1+1]?=some (.cells #[.slice none 0 0] 26 (0,0))) (h4:LN (NB w3) w4 R m d X/\New W w4) (hz:W.heap.size<=w3.heap.size):
 MulEnd w (w4.alloc (.cells #[.slice R m d] 26)) w4.heap.size R m d X:=by
 obtain⟨a3,n4⟩:=h4;have a1:New w4 (w4.alloc (.cells #[.slice R m d] 26)):=zU _ _ _;have a6:=n4.size;have a2:w4.heap[w.heap.size+1+1]?=some (.cells #[.slice none 0 0] 26 (0,0)):=(n4.block _ (by omega) id).trans hb;obtain⟨c0,z0,q0,hl,a4⟩:=zbf (b:=w.heap.size+1+1) (hn.trans (n4.trans a1)) ((a1.block _ (by omega) id).trans a2) (by omega) ((a3.new a1).mono (fun x _ hx=>by have hx:w3.heap.size<=x:=hx;show w.heap.size+1+1<x;omega));exact⟨zaa (zX w4 _) 0 _ rfl,c0,z0,q0,zqH ⟨hl,a4⟩⟩
theorem dmul_c {Q Q':Nat->Prop} {w:World} {A A':Option Addr} {n c n' c' x y:Nat} (h:LQ Q w A n c x) (h':LQ Q' w A' n' c' y) (hb:x*y<Gn.B ^ 1000):
 Calls Tryz.prog 60 #[.agg #[.slice A n c],.agg #[.slice A' n' c']] w (DecR w (x*y / 10 ^ 36)):=by
 obtain⟨W,hW,d0,hs,l0,l1,f3⟩:=boxes2 w (.slice A n c) (.slice A' n' c');have b6:∀W',New W W'->W'.cell? ⟨w.heap.size,0,none⟩=some (.slice A n c)/\W'.cell? ⟨w.heap.size+1,0,none⟩=some (.slice A' n' c'):=fun W' hn=>⟨(hn.cell (a:=⟨w.heap.size,0,none⟩) (by show w.heap.size<_;omega) id).trans l0,(hn.cell (a:=⟨w.heap.size+1,0,none⟩) (by show w.heap.size+1<_;omega) id).trans l1⟩
 obtain⟨U,hU⟩:=zE (10 ^ 36);have a7:=fun W'=>unit_ln W';rw[<-hU]at a7 ⊢;have e8:0<U:=by rw[hU];decide
 have b7:∀W' A1 k1 e1 ub,New W W'->LQ (NB W) W' A1 k1 e1 U->W'.cell? ⟨ub,0,none⟩=some (.slice none 0 0)->Calls Tryz.prog 143 #[.slice A n c,.slice A' n' c',.slice A1 k1 e1,.pointer (some ⟨ub,0,none⟩)] W' (DecE W' (x*y / U) 0):=fun W' A1 k1 e1 ub hn g1 hu=>
  round1_c (h.new (d0.trans hn)) (h'.new (d0.trans hn)) g1 e8 hb hu
 obtain⟨X,hX⟩:=zE (x*y / U);rw[<-hX]at b7 ⊢;have H3:=zqH b7;have HK:=zqH b6;have HB:=zqH f3;have HN:=zqH d0;have S2:=zqH hs;have e9:=zqH a7;clear b7 b6 f3 d0 hs hX h h' hb a7 hU e8;go_enter Tryz.func60,Tryz.ntmps60
 go_upto_region 1 with fail
 rw[<-hW];clear hW
 go_region_held (fun w'=>w'.cell? ⟨w.heap.size,0,none⟩=some (.slice A n c)/\w'.cell? ⟨w.heap.size+1,0,none⟩=some (.slice A' n' c')) (go_keep) (first
  | (go_at_call 90
     obtain⟨w0,a8⟩:=zE (W.alloc (.cells #[.slice none 0 0] 26));rw[<-a8];obtain⟨al,n0⟩:=AL5.make (W:=W) a8 (zR _);refine(rounder_n _).mono ?_
     rintro e w1 ⟨ub,rfl,b0,c5⟩;have n1:New W w1:=n0.trans ((Upd.refl _ w0).drew.trans b0);obtain⟨d1,d2⟩:=HK.out _ n1;have E1:=zqH (zN n1 c5);have f0:=zqH (al.next ((Upd.refl _ w0).drew.trans b0));clear b0 n1 c5 al n0 a8)
  | (go_at_call 90
     refine(rounder_n _).mono ?_
     rintro e w1 ⟨ub,rfl,b0,c5⟩;have n1:New W w1:=(Upd.refl _ W).drew.trans b0;obtain⟨d1,d2⟩:=HK.out _ n1;have E1:=zqH (zN n1 c5);clear b0 n1 c5)
  | (go_at_call 113
     obtain⟨w0,a8⟩:=zE (w1.alloc (.cells #[.slice none 0 0] 26));rw[<-a8];obtain⟨al,n0⟩:=AL5.make (W:=W) a8 E1.out.1.size;refine(e9.out w0).mono ?_
     rintro e w2 ⟨rfl,c6,a4⟩;obtain⟨f1,f2⟩:=HK.out _ (E1.out.1.trans (n0.trans a4));have E2:=zqH (zN (c6.lq.mono (Q':=NB W) (fun b _ hb=>zT E1.out.1.size (zT n0.size hb))) (n0.trans a4));have AL:=zqH (al.next a4);clear c6 a4 n0 al a8)
  | (go_at_call 113
     refine(e9.out w1).mono ?_
     rintro e w2 ⟨rfl,c6,a4⟩;obtain⟨f1,f2⟩:=HK.out _ (E1.out.1.trans a4);have E2:=zqH (zN (c6.lq.mono (Q':=NB W) (fun b _ hb=>zT E1.out.1.size hb)) a4)
     first
      | (have AL:=zqH (f0.out.next a4);clear f0)
      | skip
     clear c6 a4)
  | (go_at_call 143
     obtain⟨w3,e3⟩:=zE (w2.alloc (.cells #[.slice none 0 0] 26));rw[<-e3];obtain⟨al,n3⟩:=AL5.make (W:=W) e3 (E1.out.1.trans E2.out.2).size;refine(H3.out w3 _ 2 2 _ ((E1.out.1.trans E2.out.2).trans n3) (E2.out.1.new n3) (((E2.out.2.trans n3).cell (a:=⟨ub,0,none⟩) (zqB w1 _ E1.out.2) id).trans E1.out.2)).mono ?_
     rintro e w4 ⟨R,m,d,rfl,a6,a3⟩;have n4:New W w4:=((E1.out.1.trans E2.out.2).trans n3).trans a3;obtain⟨e1,e2⟩:=HK.out _ n4;have a9:=zqH (zN (al.next a3) al.lt);obtain⟨c0,z0,g1,g2⟩:=a9.out.1.facts e1 e2 (by have:=S2.out;omega) (by have:=S2.out;omega) (.slice R m d);have E4:=zqH (zN a6 n4);have SZ:=zqH ((E1.out.1.trans E2.out.2).trans n3).size;clear a6 a3 n4 al e3 n3)
  | (go_at_call 143
     have e0:=AL;clear AL;refine(H3.out w2 _ 2 2 _ (E1.out.1.trans E2.out.2) E2.out.1 ((E2.out.2.cell (a:=⟨ub,0,none⟩) (zqB w1 _ E1.out.2) id).trans E1.out.2)).mono ?_
     rintro e w4 ⟨R,m,d,rfl,a6,a3⟩;have n4:New W w4:=(E1.out.1.trans E2.out.2).trans a3;obtain⟨e1,e2⟩:=HK.out _ n4;have a9:=zqH (zN (e0.out.next a3) e0.out.lt);obtain⟨c0,z0,g1,g2⟩:=a9.out.1.facts e1 e2 (by have:=S2.out;omega) (by have:=S2.out;omega) (.slice R m d);have E4:=zqH (zN a6 n4);have SZ:=zqH (E1.out.1.trans E2.out.2).size;clear a6 a3 n4 e0)
  | (go_at_call 143
     refine(H3.out w2 _ 2 2 _ (E1.out.1.trans E2.out.2) E2.out.1 ((E2.out.2.cell (a:=⟨ub,0,none⟩) (zqB w1 _ E1.out.2) id).trans E1.out.2)).mono ?_
     rintro e w4 ⟨R,m,d,rfl,a6,a3⟩;have n4:New W w4:=(E1.out.1.trans E2.out.2).trans a3;obtain⟨e1,e2⟩:=HK.out _ n4;have SZ:=zqH (E1.out.1.trans E2.out.2).size;have E4:=zqH (zN a6 n4);clear a6 a3 n4))
 · obtain⟨l5,c0,z0,q0,HE⟩:=mul_endB HN.out S2.out HB.out E4.out SZ.out;obtain⟨WF,a1⟩:=zE (w4.alloc (.cells #[.slice R m d] 26));rw[<-a1]at l5 c0 z0 q0 HE ⊢;clear a1 d1 d2 e1 e2;go_wp2;refine bodyPost_ret (by simp[results,Tryz.results60,go_sem,q0];try rfl) rfl ?_
   exact⟨R,m,d,rfl,HE.out⟩
 · clear c0 z0;obtain⟨l5,c0,z0,q0,HE⟩:=mul_endA HN.out S2.out HB.out a9.out E4.out SZ.out;obtain⟨WF,a1⟩:=zE (w4.setCell ⟨w2.heap.size,0,none⟩ (.slice R m d));rw[<-a1]at l5 c0 z0 q0 HE ⊢;clear a1 d1 d2 e1 e2 g1 g2;go_wp2;refine bodyPost_ret (by simp[results,Tryz.results60,go_sem,q0];try rfl) rfl ?_
   exact⟨R,m,d,rfl,HE.out⟩
 · clear c0 z0;obtain⟨l5,c0,z0,q0,HE⟩:=mul_endA HN.out S2.out HB.out a9.out E4.out SZ.out;obtain⟨WF,a1⟩:=zE (w4.setCell ⟨w1.heap.size,0,none⟩ (.slice R m d));rw[<-a1]at l5 c0 z0 q0 HE ⊢;clear a1 d1 d2 e1 e2 g1 g2;go_wp2;refine bodyPost_ret (by simp[results,Tryz.results60,go_sem,q0];try rfl) rfl ?_
   exact⟨R,m,d,rfl,HE.out⟩
 · clear c0 z0;obtain⟨l5,c0,z0,q0,HE⟩:=mul_endA HN.out S2.out HB.out a9.out E4.out SZ.out;obtain⟨WF,a1⟩:=zE (w4.setCell ⟨W.heap.size,0,none⟩ (.slice R m d));rw[<-a1]at l5 c0 z0 q0 HE ⊢;clear a1 d1 d2 e1 e2 g1 g2;go_wp2;refine bodyPost_ret (by simp[results,Tryz.results60,go_sem,q0];try rfl) rfl ?_
   exact⟨R,m,d,rfl,HE.out⟩
theorem dzero_c {Q:Nat->Prop} {w:World} {A:Option Addr} {n c x:Nat} (h:LQ Q w A n c x):Calls Tryz.prog 26 #[.agg #[.slice A n c]] w fun e w'=>e=.returned (.bool (decide (x=0)))/\New w w':=by
 obtain⟨l,h1,h2⟩:=h.nat;refine(DZero_c h1 (by have:=h.few;omega)).mono ?_
 rintro e w' ⟨rfl,hb⟩;exact⟨by rw[h2],zas hb⟩
theorem by_n (w:World):Calls Tryz.prog 130 #[.bool false] w fun e w'=>∃ub,e=.returned (.func (.func 191) #[] #[.pointer (some ⟨ub,0,none⟩)])/\New w w'/\w'.cell? ⟨ub,0,none⟩=some (.bool false):=by
 go_enter Tryz.func130,Tryz.ntmps130
 go_wp2
 go_ret
 exact⟨w.heap.size,rfl,zU _ _ _,zaa (zX w _) 0 _ rfl⟩
theorem by1_c {Q Q' Q'':Nat->Prop} {w:World} {A A' A'':Option Addr} {n c n' c' n'' c'' x y z ub:Nat} (h:LQ Q w A n c x) (h':LQ Q' w A' n' c' y) (h'':LQ Q'' w A'' n'' c'' z) (h0:0<z) (hb:x*y<Gn.B ^ 1000) (hub:w.cell? ⟨ub,0,none⟩=some (.bool false)):
 Calls Tryz.prog 191 #[.agg #[.slice A n c],.agg #[.slice A' n' c'],.agg #[.slice A'' n'' c''],.pointer (some ⟨ub,0,none⟩)] w (DecR w (x*y / z)):=by
 obtain⟨W,hW,a1,hs,l0,l1,l2,a7⟩:=boxes3 w (.slice A n c) (.slice A' n' c') (.slice A'' n'' c'');have b7:W.cell? ⟨ub,0,none⟩=some (.bool false):=(a1.cell (a:=⟨ub,0,none⟩) (zqB w _ hub) id).trans hub;have a5:=dmuldiv_c (h.new a1) (h'.new a1) (h''.new a1) h0 hb;obtain⟨X,hX⟩:=zE (x*y / z);rw[<-hX]at a5 ⊢;have a6:=zqH a5;have HB:=zqH a7;have HN:=zqH a1;have S2:=zqH hs;clear a5 a7 a1 hs hX h h' h'' h0 hb hub;go_enter Tryz.func191,Tryz.ntmps191
 go_upto_region 1 with fail
 rw[<-hW];clear hW
 go_upto_region 5 with(go_at_call 63;refine a6.out.mono ?_;rintro e w2 ⟨R,m,d,rfl,a3,a2⟩;have H2:=zqH (zN a3 a2);clear a6 a3 a2)
 obtain⟨W3,a4⟩:=zE (w2.alloc (.cells #[.slice R m d] 26));rw[<-a4];have n3:New w2 W3:=by rw[a4];exact zU _ _ _
 have l3:W3.cell? ⟨w2.heap.size,0,none⟩=some (.slice R m d):=by rw[a4];exact zaa (zX w2 _) 0 _ rfl
 obtain⟨a3,a2⟩:=H2.out;have d0:=S2.out;obtain⟨c0,z0,q0,hl,a1⟩:=zbf (b:=w.heap.size+1+1+1) (HN.out.trans (a2.trans n3)) (((a2.trans n3).block _ (by omega) id).trans HB.out) (by omega) ((a3.new n3).mono (fun b _ hb=>by have hb:W.heap.size<=b:=hb;show w.heap.size+1+1+1<b;omega));have QQ:=zqH (zN hl a1);clear hl a1 a3 a2 n3 a4;go_wp2;refine bodyPost_ret (by simp[results,Tryz.results191,go_sem,q0];try rfl) rfl ?_
 exact⟨R,m,d,rfl,QQ.out⟩
theorem worth_c {Q Q':Nat->Prop} {w:World} {A A':Option Addr} {n c n' c' x y t:Nat} (h:LQ Q w A n c y) (h':LQ Q' w A' n' c' x) (h0:0<y) (ht:t<18446744073709551616) (hb:x*(t*10 ^ 36)<Gn.B ^ 1000):
 Calls Tryz.prog 75 #[.int .u64 (t:Int),.agg #[.slice A n c],.agg #[.slice A' n' c']] w (DecR w (x*(t*10 ^ 36) / y)):=by
 obtain⟨W,hW,a1,hs,l0,l1,b5⟩:=boxes2 w (.slice A n c) (.slice A' n' c');have a2:∀W',New W W'->W'.cell? ⟨w.heap.size,0,none⟩=some (.slice A n c)/\W'.cell? ⟨w.heap.size+1,0,none⟩=some (.slice A' n' c'):=fun W' hn=>⟨(hn.cell (a:=⟨w.heap.size,0,none⟩) (by show w.heap.size<_;omega) id).trans l0,(hn.cell (a:=⟨w.heap.size+1,0,none⟩) (by show w.heap.size+1<_;omega) id).trans l1⟩
 obtain⟨U,hU⟩:=zE (t*10 ^ 36);have a7:∀W',Calls Tryz.prog 24 #[.int .u64 (t:Int)] W' (DecR W' U):=fun W'=>by rw[hU];exact of_c t ht
 rw[<-hU]at hb ⊢;have a3:∀W' A1 k1 e1 ub,New W W'->LQ (NB W) W' A1 k1 e1 U->W'.cell? ⟨ub,0,none⟩=some (.bool false)->Calls Tryz.prog 191 #[.agg #[.slice A' n' c'],.agg #[.slice A1 k1 e1],.agg #[.slice A n c],.pointer (some ⟨ub,0,none⟩)] W' (DecR W' (x*U / y)):=fun W' A1 k1 e1 ub hn g1 hu=>
  by1_c (h'.new (a1.trans hn)) g1 (h.new (a1.trans hn)) h0 hb hu
 have hz:=dzero_c (h.new a1);have a8:decide (y=0)=false:=by simp;omega
 rw[a8]at hz;obtain⟨X,hX⟩:=zE (x*U / y);rw[<-hX]at a3 ⊢;have H3:=zqH a3;have HK:=zqH a2;have HB:=zqH b5;have HN:=zqH a1;have S2:=zqH hs;have e8:=zqH a7;have HZ:=zqH hz;clear a3 a2 b5 a1 hs hX h h' hb a7 hU h0 a8 hz ht;go_enter Tryz.func75,Tryz.ntmps75
 go_upto_region 1 with fail
 rw[<-hW];clear hW
 go_upto_region 3 with(go_at_call 26;refine HZ.out.mono ?_;rintro e W0 ⟨rfl,a5⟩;have N0:=zqH a5;obtain⟨d1,d2⟩:=HK.out _ a5;clear a5 HZ l0 l1)
 go_region_held (fun w'=>w'.cell? ⟨w.heap.size,0,none⟩=some (.slice A n c)/\w'.cell? ⟨w.heap.size+1,0,none⟩=some (.slice A' n' c')) (go_keep) (first
  | (go_at_call 130
     refine(by_n _).mono ?_
     rintro e w1 ⟨ub,rfl,b7,b8⟩;have n1:New W w1:=N0.out.trans ((Upd.refl _ W0).drew.trans b7);obtain⟨e1,e2⟩:=HK.out _ n1;have E1:=zqH (zN n1 b8);clear b7 n1 b8)
  | (go_at_call 24
     refine(e8.out w1).mono ?_
     rintro e w2 ⟨A1,k1,f1,rfl,b9,a6⟩;have n2:New W w2:=E1.out.1.trans a6;obtain⟨e3,e4⟩:=HK.out _ n2;have E2:=zqH (zN (b9.lq.mono (Q':=NB W) (fun b _ hb=>zT E1.out.1.size hb)) (zN n2 ((a6.cell (a:=⟨ub,0,none⟩) (zqB w1 _ E1.out.2) id).trans E1.out.2)));clear b9 a6 n2)
  | (go_at_call 191
     refine(H3.out w2 _ _ _ _ E2.out.2.1 E2.out.1 E2.out.2.2).mono ?_
     rintro e w4 ⟨R,m,d,rfl,c5,c6⟩;have n4:New W w4:=E2.out.2.1.trans c6;obtain⟨e5,e6⟩:=HK.out _ n4;obtain⟨c0,z0,q0,hl,a1⟩:=zbf (b:=w.heap.size+1+1) (HN.out.trans n4) ((n4.block _ (by have:=S2.out;omega) id).trans HB.out) (by omega) (c5.mono (fun b _ hb=>by have hb:w2.heap.size<=b:=hb;have:=S2.out;have:=E2.out.2.1.size;show w.heap.size+1+1<b;omega));have a4:Upd (fun b=>b=w.heap.size+1+1) w4 (w4.setCell ⟨w.heap.size+1+1,0,none⟩ (.slice R m d)):=Upd.setCell w4 _ rfl;have b0:w.heap.size+1+1<w4.heap.size:=(by have:=S2.out;have:=n4.size;omega);have g1:=(a4.cell (a:=⟨w.heap.size,0,none⟩) (by show w.heap.size<_;omega) (by show ¬w.heap.size=_;omega)).trans e5;have g2:=(a4.cell (a:=⟨w.heap.size+1,0,none⟩) (by show w.heap.size+1<_;omega) (by show ¬w.heap.size+1=_;omega)).trans e6;have QQ:=zqH (zN q0 (zN hl a1));clear c5 c6 n4 q0 hl a1 a4 b0))
 clear c0 z0;go_wp2;obtain⟨q0,hl,a1⟩:=QQ.out;refine bodyPost_ret (by simp[results,Tryz.results75,go_sem,q0];try rfl) rfl ?_
 exact⟨R,m,d,rfl,hl,a1⟩
end Gz

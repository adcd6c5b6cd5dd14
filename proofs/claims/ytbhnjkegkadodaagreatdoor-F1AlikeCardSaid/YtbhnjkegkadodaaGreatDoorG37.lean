/- Part of the proof. -/
import Derived.Test.YtbhnjkegkadodaaGreatDoorG28
set_option linter.all false
set_option maxRecDepth 100000
set_option maxHeartbeats 8000000
namespace Go.Proofs.YtbhnjkegkadodaaGreatDoor
open Go Go.RowKit Go.Proofs Gl
def CutRd (br bx:Nat) (t:TypeId) (w:World) (y z:Nat) (e:Ending) (w':World):Prop:=
 ∃A' n' c',e=.returned (.tuple #[])/\w'.heap[bx]?=some (.cells #[.int .u64 (y:Int),.int .u64 (z:Int)] t (0,0))/\Rd br w' A' n' c' [] 0/\Upd (fun b=>b=br\/b=bx) w w'
theorem rnum2 {br bx lb:Nat} {u0 u1:Value} {t:TypeId} {w:World} {A:Option Addr} {n c y z:Nat} (hR:Rd br w A n c (be 8 y ++ be 8 z) 0) (hy:y<18446744073709551616) (hz:z<18446744073709551616) (hn:n<=1073741824)
 (hl:w.heap[lb]?=some (.cells #[.pointer (some ⟨bx,0,none⟩),.pointer (some ⟨bx,1,none⟩)] 294 (0,0))) (hx:w.heap[bx]?=some (.cells #[u0,u1] t (0,0))) (hbx:bx≠br) (hlb:lb≠br/\lb≠bx) (hA:∀a,A=some a->a.block≠bx):
 Calls Tryz.prog 205 #[.agg #[.pointer none,.pointer (some ⟨br,0,none⟩)],.slice (some ⟨lb,0,none⟩) 2 2] w (CutRd br bx t w y z):=by
 obtain⟨W,hW⟩:∃W,W=w.alloc (.cells #[.pointer none,.pointer (some ⟨br,0,none⟩)] 288):=⟨_,rfl⟩
 have hnw:New w W:=by rw[hW];exact Upd.alloc _ _ _
 have hbt:=Ex.alloc_new w (.cells #[.pointer none,.pointer (some ⟨br,0,none⟩)] 288)
 rw[<-hW]at hbt
 have hbl:=hR.lt
 have hbxl:=(zqA.1 hx).1
 have hll:=(zqA.1 hl).1
 have hx1:=(hnw.block _ hbxl id).trans hx
 have hl1:=(hnw.block _ hll id).trans hl
 have hWs:W.heap.size=w.heap.size+1:=by rw[hW];exact zad _ _
 have hkeep:∀w6,Upd (fun b=>b=br\/b=bx) W w6->w6.heap[lb]?=some (.cells #[.pointer (some ⟨bx,0,none⟩),.pointer (some ⟨bx,1,none⟩)] 294 (0,0))/\w6.heap[w.heap.size]?=some (.cells #[.pointer none,.pointer (some ⟨br,0,none⟩)] 288 (0,0)):=fun w6 hu=>
  ⟨(hu.block _ (by omega) (fun e=>e.elim hlb.1 hlb.2)).trans hl1,(hu.block _ (by omega) (fun e=>e.elim (fun e=>by omega) (fun e=>by omega))).trans hbt⟩
 have h1:=rU64' (hR.upd hnw id (fun _ _ _=>id)) hy hn
 have h2:∀w6 A6 n6 c6,Rd br w6 A6 n6 c6 (be 8 z) 0->Calls Tryz.prog 244 #[.pointer (some ⟨br,0,none⟩)] w6 _:=fun w6 A6 n6 c6 hR6=>rU64' (rest:=[]) (by rw[List.append_nil];exact hR6) hz (by have:=hR6.by_.len;rw[zah]at this;omega)
 have H1:=zqH h1;have H2:=zqH h2;have HK:=zqH hkeep;have HN:=zqH hnw;have HX:=zqH hx1;have HA:=zqH hA;have HBX:=zqH (And.intro hbx hbxl);have HWS:=zqH hWs
 clear h1 h2 hkeep hR hy hz hn hl hx hx1 hbt hA hl1 hWs hbl hbx hlb hbxl hll hnw
 go_enter Tryz.func205,Tryz.ntmps205
 go_wp2
 rw[<-hW]
 clear hW
 go_loopw [8] (fun i wr=>(i=.int .i64 0/\wr=W)\/(i=.int .i64 1/\Hid (∃A1 n1 c1,Rd br wr A1 n1 c1 (be 8 z) 0/\wr.heap[bx]?=some (.cells #[.int .u64 (y:Int),u1] t (0,0))/\(∀a',A1=some a'->∃a,A=some a/\a'.block=a.block)/\Upd (fun b=>b=br\/b=bx) W wr))\/(i=.int .i64 2/\Hid (CutRd br bx t w y z (.returned (.tuple #[])) wr))) (fun i _=>2-(intOf i).toNat)
 case atStart=>exact .inl ⟨rfl,rfl⟩
 case round=>
  rcases hrel with⟨rfl,rfl⟩|⟨rfl,hw⟩|⟨rfl,hw⟩
  · obtain⟨kl,kt⟩:=HK.out _ (Upd.refl _ _)
    have e0:=zaa kl 0 _ rfl;have t0:=zaa kt 0 _ rfl;have t1:=zaa kt 1 _ rfl
    clear kl kt
    go_wp2_with (go_at_call 244
                 refine H1.out.mono ?_
                 rintro e w2 ⟨rfl,A',n',c',hR2,hu2,haw⟩
                 have hx2:=(hu2.block bx (zqL HBX.out.2 HN.out.size) HBX.out.1).trans HX.out
                 have q1:=zaa hx2 0 _ rfl
                 have q2:=zac hx2 0
                 have HR2:=zqH (And.intro hR2 (And.intro haw hu2));have HX2:=zqH hx2
                 clear hR2 haw hu2 hx2)
    obtain⟨hR2,haw,hu2⟩:=HR2.out
    have hset:Upd (fun b=>b=bx) w2 (w2.setCell ⟨bx,0,none⟩ (.int .u64 (y:Int))):=Upd.setCell w2 _ rfl
    have hset2:=zab HX2.out (.int .u64 (y:Int)) (i:=0)
    simp only[List.setIfInBounds_toArray,List.set_cons_zero]at hset2
    refine⟨.inr (.inl ⟨rfl,zqH ⟨A',n',c',hR2.upd hset (fun e=>HBX.out.1 e.symm) (fun a' ha' h0 e=>?_),hset2,haw,(hu2.mono (fun b _ h=>.inl h)).trans (hset.mono (fun b _ h=>.inr h))⟩⟩),by simp[intOf]⟩
    obtain⟨a,ha,hab⟩:=haw a' ha'
    exact HA.out a ha (hab▸e)
  · obtain⟨A1,n1,c1,hR1,hx1,haw1,hu1⟩:=hw.out
    obtain⟨kl,kt⟩:=HK.out _ hu1
    have e1:=zaa kl 1 _ rfl;have t0:=zaa kt 0 _ rfl;have t1:=zaa kt 1 _ rfl
    have H3:=zqH (H2.out wr A1 n1 c1 hR1)
    have HX1:=zqH hx1;have HW1:=zqH (And.intro haw1 hu1)
    clear kl kt hR1 hx1 haw1 hu1
    go_wp2_with (go_at_call 244
                 refine H3.out.mono ?_
                 rintro e w2 ⟨rfl,A',n',c',hR2,hu2,haw⟩
                 have hx2:=(hu2.block bx (zqA.1 HX1.out).1 HBX.out.1).trans HX1.out
                 have q1:=zaa hx2 1 _ rfl
                 have q2:=zac hx2 1
                 have HR2:=zqH (And.intro hR2 (And.intro haw hu2));have HX2:=zqH hx2
                 clear hR2 haw hu2 hx2)
    obtain⟨hR2,haw,hu2⟩:=HR2.out
    have hset:Upd (fun b=>b=bx) w2 (w2.setCell ⟨bx,1,none⟩ (.int .u64 (z:Int))):=Upd.setCell w2 _ rfl
    have hset2:=zab HX2.out (.int .u64 (z:Int)) (i:=1)
    simp only[List.setIfInBounds_toArray,List.set_cons_zero,List.set_cons_succ]at hset2
    refine⟨.inr (.inr ⟨rfl,zqH ⟨A',n',c',rfl,hset2,hR2.upd hset (fun e=>HBX.out.1 e.symm) (fun a' ha' h0 e=>?_),?_⟩⟩),by simp[intOf]⟩
    · obtain⟨a,ha,hab⟩:=haw a' ha'
      obtain⟨a2,ha2,hab2⟩:=HW1.out.1 a ha
      exact HA.out a2 ha2 (hab2▸hab▸e)
    · exact(((HN.out.mono (fun _ _ h=>h.elim)).trans HW1.out.2).trans (hu2.mono (fun b _ h=>.inl h))).trans (hset.mono (fun b _ h=>.inr h))
  · go_wp2
    go_end0
    exact hw.out
theorem rcut {br bx:Nat} {u0 u1:Value} {t:TypeId} {w:World} {A:Option Addr} {n c y z:Nat} (hR:Rd br w A n c (F1.encC y z) 0) (hy:y<18446744073709551616) (hz:z<18446744073709551616) (hn:n<=4000)
 (hx:w.heap[bx]?=some (.cells #[u0,u1] t (0,0))) (hbx:bx≠br) (hA:∀a,A=some a->a.block≠bx/\a.block<w.heap.size):
 Calls Tryz.prog 146 #[.agg #[.pointer none,.pointer (some ⟨br,0,none⟩)],.pointer (some ⟨bx,0,none⟩)] w (CutRd br bx t w y z):=by
 obtain⟨W,hW⟩:∃W,W=w.alloc (.cells #[.pointer none,.pointer (some ⟨br,0,none⟩)] 288):=⟨_,rfl⟩
 have hnw:New w W:=by rw[hW];exact Upd.alloc _ _ _
 have hbt:=Ex.alloc_new w (.cells #[.pointer none,.pointer (some ⟨br,0,none⟩)] 288)
 rw[<-hW]at hbt
 have hbxl:=(zqA.1 hx).1
 have hbl:=hR.lt
 have ht0:W.cell? ⟨w.heap.size,0,none⟩=some (.pointer none):=zaa hbt 0 _ rfl
 have ht1:W.cell? ⟨w.heap.size,1,none⟩=some (.pointer (some ⟨br,0,none⟩)):=zaa hbt 1 _ rfl
 have h205:∀W7 lb,New w W7->w.heap.size<=lb->W7.heap[lb]?=some (.cells #[.pointer (some ⟨bx,0,none⟩),.pointer (some ⟨bx,1,none⟩)] 294 (0,0))->Calls Tryz.prog 205 #[.agg #[.pointer none,.pointer (some ⟨br,0,none⟩)],.slice (some ⟨lb,0,none⟩) 2 2] W7 (CutRd br bx t W7 y z):=fun W7 lb h7 hlb hl=>
  rnum2 (hR.upd h7 id (fun _ _ _=>id)) hy hz (by omega) hl ((h7.block _ hbxl id).trans hx) hbx ⟨by omega,by omega⟩ (fun a ha=>(hA a ha).1)
 have hkeep:∀W5 W6 i v,W5.heap.size > w.heap.size->Upd (fun b=>b=br\/b=bx) W5 W6->W5.cell? ⟨w.heap.size,i,none⟩=some v->W6.cell? ⟨w.heap.size,i,none⟩=some v:=fun W5 W6 i v hs hu hv=>
  (hu.cell (a:=⟨w.heap.size,i,none⟩) hs (fun e=>e.elim (fun e=>by have e:w.heap.size=br:=e;omega) (fun e=>by have e:w.heap.size=bx:=e;omega))).trans hv
 have hWs:w.heap.size<W.heap.size:=by rw[hW,zad];omega
 have H5:=zqH h205;have HK:=zqH hkeep;have HN:=zqH hnw;have HWS:=zqH hWs
 clear h205 hkeep hnw hWs hR hx hy hz hn hbx hA hbt hbl hbxl
 go_enter Tryz.func146,Tryz.ntmps146
 go_wp2
 rw[<-hW]
 clear hW
 go_region_held (fun w'=>w'.cell? ⟨w.heap.size,0,none⟩=some (.pointer none)/\w'.cell? ⟨w.heap.size,1,none⟩=some (.pointer (some ⟨br,0,none⟩))) (go_keep) (
  (go_at_call 205
   obtain⟨W7,hW7⟩:∃W7,W7=(W.alloc (.cells #[.pointer (some ⟨bx,0,none⟩),.pointer (some ⟨bx,1,none⟩)] 294)).drew:=⟨_,rfl⟩
   rw[<-hW7]
   have n7:New W W7:=by rw[hW7];exact(Upd.alloc _ _ _).drew
   have hl7:W7.heap[W.heap.size]?=some (.cells #[.pointer (some ⟨bx,0,none⟩),.pointer (some ⟨bx,1,none⟩)] 294 (0,0)):=by rw[hW7];exact Ex.alloc_new W _
   refine(H5.out W7 W.heap.size (HN.out.trans n7) (Nat.le_of_lt HWS.out) hl7).mono ?_
   rintro e W8 ⟨A9,k9,c9,rfl,hx8,hR8,hu8⟩
   have s7:w.heap.size<W7.heap.size:=zqL HWS.out n7.size
   have u0:=HK.out W7 W8 0 _ s7 hu8 ((n7.cell (a:=⟨w.heap.size,0,none⟩) HWS.out id).trans ht0)
   have u1:=HK.out W7 W8 1 _ s7 hu8 ((n7.cell (a:=⟨w.heap.size,1,none⟩) HWS.out id).trans ht1)
   have HY:=zqH (And.intro n7 (And.intro hx8 (And.intro hR8 hu8)))
   clear n7 hl7 hW7 hx8 hR8 hu8 s7))
 all_goals go_wp2
 all_goals go_end0
 obtain⟨n7,hx8,hR8,hu8⟩:=HY.out
 exact⟨A9,k9,c9,rfl,hx8,hR8,((HN.out.mono (fun _ _ h=>h.elim)).trans (n7.mono (fun _ _ h=>h.elim))).trans hu8⟩
def CutR (w:World) (y z:Nat) (e:Ending) (w':World):Prop:=e=.returned (.tuple #[.agg #[.int .u64 (y:Int),.int .u64 (z:Int)],.int .i64 0])/\New w w'
theorem get_cut1 {w:World} {cb:Nat} {A:Option Addr} {n c y z:Nat} (h:By w A n c (F1.encC y z)) (hy:y<18446744073709551616) (hz:z<18446744073709551616) (hcb:w.cell? ⟨cb,0,none⟩=some (.func (.func 146) #[] #[])):
 Calls Tryz.prog 235 #[.slice A n c,.pointer (some ⟨cb,0,none⟩)] w (CutR w y z):=by
 obtain⟨W1,hW1⟩:∃W1,W1=w.alloc (.cells #[.int .u64 0,.int .u64 0] 127):=⟨_,rfl⟩
 obtain⟨W2,hW2⟩:∃W2,W2=W1.alloc (.cells #[.int .u64 0,.int .u64 0] 127):=⟨_,rfl⟩
 obtain⟨W3,hW3⟩:∃W3,W3=W2.alloc (.cells #[.int .u64 0,.int .u64 0] 127):=⟨_,rfl⟩
 obtain⟨hn,hs,b0,b1,b2⟩:=alloc3 hW1 hW2 hW3
 have hlen:=h.len
 have hln:n=16:=by rw[<-hlen];simp[F1.encC,zah]
 have hcl:=zqB w _ hcb
 have hcb3:=(hn.cell (a:=⟨cb,0,none⟩) hcl id).trans hcb
 have hnr:=newReader (h.new hn) (by omega)
 have HNR:=zqH hnr;have HN:=zqH hn;have HS:=zqH hs;have HB:=zqH (And.intro b0 (And.intro b1 b2));have H:=zqH h;have HY:=zqH hy;have HZ:=zqH hz;have HLN:=zqH hln
 clear hnr hn hs b0 b1 b2 h hy hz hlen hcb hln
 go_enter Tryz.func235,Tryz.ntmps235
 go_upto_region 2 with fail
 rw[<-hW1,<-hW2,<-hW3]
 clear hW1 hW2 hW3
 go_upto_region 3 with(go_at_call 231;refine HNR.out.mono ?_;rintro e w4 ⟨br,A4,c4,rfl,hR4,hn4,hbr,hA4⟩;have H4:=zqH (And.intro hR4 (And.intro hn4 (And.intro hbr hA4)));clear HNR hR4 hn4 hbr hA4)
 obtain⟨hR4,hn4,hbr,hA4⟩:=H4.out
 obtain⟨W5,hW5⟩:∃W5,W5=w4.alloc (.cells #[.pointer none,.pointer (some ⟨br,0,none⟩)] 288):=⟨_,rfl⟩
 have n5:New w4 W5:=by rw[hW5];exact Upd.alloc _ _ _
 have hs3:=HS.out
 have hs4:=hn4.size
 have hs5:W5.heap.size=w4.heap.size+1:=by rw[hW5];exact zad _ _
 have hbt:=Ex.alloc_new w4 (.cells #[.pointer none,.pointer (some ⟨br,0,none⟩)] 288)
 rw[<-hW5]at hbt
 have n35:New W3 W5:=hn4.trans n5
 have k0:W5.heap[w.heap.size]?=_:=(n35.block _ (by omega) id).trans HB.out.1
 have k1:W5.heap[w.heap.size+1]?=_:=(n35.block _ (by omega) id).trans HB.out.2.1
 have k2:W5.heap[w.heap.size+1+1]?=_:=(n35.block _ (by omega) id).trans HB.out.2.2
 have hcb5:=(n35.cell (a:=⟨cb,0,none⟩) (by show cb<_;have:cb<w.heap.size:=hcl;omega) id).trans hcb3
 have q0:W5.cell? ⟨w4.heap.size,0,none⟩=some (.pointer none):=zaa hbt 0 _ rfl
 have q1:W5.cell? ⟨w4.heap.size,1,none⟩=some (.pointer (some ⟨br,0,none⟩)):=zaa hbt 1 _ rfl
 have hbrl:=hR4.lt
 have h137:=rcut (hR4.upd n5 id (fun _ _ _=>id)) HY.out HZ.out (by have:=HLN.out;omega) k1 (by omega) (fun a ha=>by have h1:=hA4 a ha;have h2:=hR4.by_.sl.lt ha (by have:=HLN.out;omega);omega)
 have H1:=zqH h137;have N5:=zqH (HN.out.trans n35);have K:=zqH (And.intro k0 k2);have HCB5:=zqH hcb5;have Q1:=zqH q1
 clear h137 n5 n35 k0 k1 k2 hbt hR4 hn4 hA4 hcb3
 rw[<-hW5]
 clear hW5
 go_upto_region 4 with(go_at_call 146;refine H1.out.mono ?_;rintro e w6 ⟨A6,n6,c6,rfl,hx6,hR6,hu6⟩;have H6:=zqH (And.intro hx6 (And.intro hR6 hu6));clear H1 hx6 hR6 hu6)
 obtain⟨hx6,hR6,hu6⟩:=H6.out
 have hcl':cb<w.heap.size:=hcl
 have hcb6:w6.cell? ⟨cb,0,none⟩=some (.func (.func 146) #[] #[]):=(hu6.cell (a:=⟨cb,0,none⟩) (by show cb<_;omega) (fun e=>e.elim (fun e=>by have e:cb=br:=e;omega) (fun e=>by have e:cb=w.heap.size+1:=e;omega))).trans HCB5.out
 have t1:w6.cell? ⟨w4.heap.size,1,none⟩=some (.pointer (some ⟨br,0,none⟩)):=(hu6.cell (a:=⟨w4.heap.size,1,none⟩) (by show w4.heap.size<_;omega) (fun e=>e.elim (fun e=>by have e:w4.heap.size=br:=e;omega) (fun e=>by have e:w4.heap.size=w.heap.size+1:=e;omega))).trans Q1.out
 have x0:w6.cell? ⟨w.heap.size+1,0,none⟩=some (.int .u64 (y:Int)):=zaa hx6 0 _ rfl
 have x1:w6.cell? ⟨w.heap.size+1,1,none⟩=some (.int .u64 (z:Int)):=zaa hx6 1 _ rfl
 have hn6:n6=0:=by have:=hR6.by_.len;simpa using this.symm
 subst hn6
 have hs6:=hu6.size
 have hbr6:=hR6.lt
 have h232:∀W',New w6 W'->Calls Tryz.prog 232 #[.pointer (some ⟨br,0,none⟩)] W' fun e w'=>e=.returned (.int .i64 0)/\Upd (fun b=>b=br) W' w':=fun W' hn'=>(rEnd (hR6.upd hn' id (fun _ _ _=>id))).mono (fun e w' h=>⟨by rw[h.1];rfl,h.2⟩)
 have h202:∀W' cb',Upd (fun b=>b=br) w6 W'->W'.cell? ⟨cb',0,none⟩=some (.func (.func 146) #[] #[])->Calls Tryz.prog 211 #[.agg #[.int .u64 (y:Int),.int .u64 (z:Int)],.pointer (some ⟨cb',0,none⟩)] W' (ByR W' (F1.encC y z)):=fun W' cb' hu' hc'=>put_c1 HY.out HZ.out hc'
 have hfin:∀W',Upd (fun b=>b=br) w6 W'->By W' A n c (F1.encC y z)/\W'.heap[w.heap.size]?=some (.cells #[.int .u64 0,.int .u64 0] 127 (0,0))/\New w W':=fun W' hu'=>by
  have hall:Upd (fun b=>b=br\/b=w.heap.size+1) w W':=((N5.out.mono (fun _ _ h=>h.elim)).trans hu6).trans (hu'.mono (fun b _ h=>.inl h))
  have hnw:New w W':=hall.mono (fun b hb h=>by omega)
  refine⟨H.out.new hnw,?_,hnw⟩
  · exact(hu'.block _ (by omega) (by omega)).trans ((hu6.block _ (by omega) (fun e=>by omega)).trans K.out.1)
 have H232:=zqH h232;have H202:=zqH h202;have HFIN:=zqH hfin
 have hcell:∀W',Upd (fun b=>b=br) w6 W'->W'.cell? ⟨w4.heap.size,1,none⟩=some (.pointer (some ⟨br,0,none⟩))/\W'.cell? ⟨cb,0,none⟩=some (.func (.func 146) #[] #[])/\W'.cell? ⟨w.heap.size+1,0,none⟩=some (.int .u64 (y:Int))/\W'.cell? ⟨w.heap.size+1,1,none⟩=some (.int .u64 (z:Int)):=fun W' hu'=>
  ⟨(hu'.cell (a:=⟨w4.heap.size,1,none⟩) (by show w4.heap.size<_;omega) (by show ¬w4.heap.size=br;omega)).trans t1,(hu'.cell (a:=⟨cb,0,none⟩) (by show cb<_;omega) (by show ¬cb=br;omega)).trans hcb6,
   (hu'.cell (a:=⟨w.heap.size+1,0,none⟩) (by show w.heap.size+1<_;omega) (by show ¬w.heap.size+1=br;omega)).trans x0,(hu'.cell (a:=⟨w.heap.size+1,1,none⟩) (by show w.heap.size+1<_;omega) (by show ¬w.heap.size+1=br;omega)).trans x1⟩
 have HCE:=zqH hcell
 clear h232 h202 hfin hcell hx6 hR6 hu6 q0 q1
 go_region_held (fun w'=>w'.cell? ⟨w4.heap.size,1,none⟩=some (.pointer (some ⟨br,0,none⟩))/\w'.cell? ⟨cb,0,none⟩=some (.func (.func 146) #[] #[])/\w'.cell? ⟨w.heap.size+1,0,none⟩=some (.int .u64 (y:Int))/\w'.cell? ⟨w.heap.size+1,1,none⟩=some (.int .u64 (z:Int))) (go_keep) (first
  | (go_at_call 232
     refine(H232.out _ ((Upd.refl _ w6).drew)).mono ?_
     rintro e w7 ⟨rfl,hu7⟩
     have hv7:Upd (fun b=>b=br) w6 w7:=(Upd.refl _ w6).drew.trans hu7
     obtain⟨f0,f1,f2,f3⟩:=HCE.out _ hv7
     have HV7:=zqH hv7
     clear hu7 hv7)
  | (go_at_call 145
     refine(putter_cut _).mono ?_
     rintro e w8 ⟨rfl,hw8⟩
     have n8:New w7 w8:=by rw[hw8];exact Upd.alloc _ _ _
     have hcb8:w8.cell? ⟨w7.heap.size,0,none⟩=some (.func (.func 146) #[] #[]):=by rw[hw8];exact zaa (Ex.alloc_new w7 _) 0 _ rfl
     have hv8:Upd (fun b=>b=br) w6 w8:=HV7.out.trans (n8.mono (fun _ _ h=>h.elim))
     obtain⟨g0,g1,g2,g3⟩:=HCE.out _ hv8
     have HV8:=zqH (And.intro hv8 hcb8)
     clear hw8 n8 hcb8 hv8)
  | (go_at_call 211
     refine(H202.out w8 _ HV8.out.1 HV8.out.2).mono ?_
     rintro e w9 ⟨A9,n9,c9,rfl,hb9,hn9,hat9⟩
     have hv9:Upd (fun b=>b=br) w6 w9:=HV8.out.1.trans (hn9.mono (fun _ _ h=>h.elim))
     obtain⟨r0,r1,r2,r3⟩:=HCE.out _ hv9
     have HV9:=zqH (And.intro hv9 hb9)
     clear hb9 hn9 hat9 hv9)
  | (go_at_call 178
     refine(equal_c HV9.out.2 (HFIN.out _ HV9.out.1).1).mono ?_
     rintro e w10 ⟨rfl,rfl⟩
     rw[decide_eq_true rfl]))
 obtain⟨-,hb0,hnw⟩:=HFIN.out _ HV9.out.1
 have hb1:=zab hb0 (.int .u64 (y:Int)) (i:=0)
 have hb2:=zab hb1 (.int .u64 (z:Int)) (i:=1)
 have c0:=zaa hb0 0 _ rfl
 have z0:=zac hb0 0
 have c1:(w10.setCell ⟨w.heap.size,0,none⟩ (.int .u64 (y:Int))).cell? ⟨w.heap.size,1,none⟩=some (.int .u64 0):=zaa hb1 1 _ rfl
 have z1:(w10.setCell ⟨w.heap.size,0,none⟩ (.int .u64 (y:Int))).frozen? ⟨w.heap.size,1,none⟩=false:=zac hb1 1
 have q0:((w10.setCell ⟨w.heap.size,0,none⟩ (.int .u64 (y:Int))).setCell ⟨w.heap.size,1,none⟩ (.int .u64 (z:Int))).cell? ⟨w.heap.size,0,none⟩=some (.int .u64 (y:Int)):=zaa hb2 0 _ rfl
 have q1:((w10.setCell ⟨w.heap.size,0,none⟩ (.int .u64 (y:Int))).setCell ⟨w.heap.size,1,none⟩ (.int .u64 (z:Int))).cell? ⟨w.heap.size,1,none⟩=some (.int .u64 (z:Int)):=zaa hb2 1 _ rfl
 have HNW:=zqH hnw;have QQ:=zqH (And.intro q0 q1)
 clear hb0 hb1 hb2 hnw q0 q1
 all_goals go_wp2
 obtain⟨q0,q1⟩:=QQ.out
 refine bodyPost_ret (by simp[results,Tryz.results235,go_sem,q0,q1];try rfl) rfl ?_
 have hset:Upd (fun b=>b=w.heap.size) w10 ((w10.setCell ⟨w.heap.size,0,none⟩ (.int .u64 (y:Int))).setCell ⟨w.heap.size,1,none⟩ (.int .u64 (z:Int))):=(Upd.setCell (S:=fun b=>b=w.heap.size) w10 _ rfl).trans (Upd.setCell _ _ rfl)
 exact⟨rfl,HNW.out.then hset (fun b hb e=>by have e:b=w.heap.size:=e;omega)⟩
theorem getter_cut (w:World):Calls Tryz.prog 179 #[.func (.func 146) #[] #[]] w fun e w'=>e=.returned (.func (.func 235) #[] #[.pointer (some ⟨w.heap.size,0,none⟩)])/\w'=w.alloc (.cells #[.func (.func 146) #[] #[]] 223):=by
 go_enter Tryz.func179,Tryz.ntmps179
 go_wp2
 go_ret
 exact⟨rfl,rfl⟩
theorem rcut_c {w:World} {A:Option Addr} {n c y z:Nat} (h:By w A n c (F1.encC y z)) (hy:y<18446744073709551616) (hz:z<18446744073709551616):
 Calls Tryz.prog 119 #[.slice A n c] w (CutR w y z):=by
 obtain⟨W1,hW1⟩:∃W1,W1=w.alloc (.cells #[.int .u64 0,.int .u64 0] 127):=⟨_,rfl⟩
 have n1:New w W1:=by rw[hW1];exact Upd.alloc _ _ _
 have b1:=Ex.alloc_new w (.cells #[.int .u64 0,.int .u64 0] 127)
 rw[<-hW1]at b1
 have s1:W1.heap.size=w.heap.size+1:=by rw[hW1];exact zad _ _
 have h230:∀W cb,New w W->W.cell? ⟨cb,0,none⟩=some (.func (.func 146) #[] #[])->Calls Tryz.prog 235 #[.slice A n c,.pointer (some ⟨cb,0,none⟩)] W (CutR W y z):=fun W cb hn hc=>get_cut1 (h.new hn) hy hz hc
 have H2:=zqH h230;have N1:=zqH n1;have B1:=zqH b1;have S1:=zqH s1
 clear h230 n1 b1 s1 h hy hz
 go_enter Tryz.func119,Tryz.ntmps119
 go_upto_region 1 with fail
 rw[<-hW1]
 clear hW1
 go_wp2_with (first
  | (go_at_call 179
     refine(getter_cut _).mono ?_
     rintro e W2 ⟨rfl,hW2⟩
     have n2:New W1 W2:=by rw[hW2];exact Upd.alloc _ _ _
     have hcb:W2.cell? ⟨W1.heap.size,0,none⟩=some (.func (.func 146) #[] #[]):=by rw[hW2];exact zaa (Ex.alloc_new W1 _) 0 _ rfl
     have HCB:=zqH hcb;have N2:=zqH n2
     clear hW2 hcb n2)
  | (go_at_call 235
     refine(H2.out W2 _ (N1.out.trans N2.out) HCB.out).mono ?_
     rintro e W3 ⟨rfl,hn3⟩
     have hb3:W3.heap[w.heap.size]?=_:=((N2.out.trans hn3).block _ (by have:=S1.out;omega) id).trans B1.out
     have hb4:=zab hb3 (.int .u64 (y:Int)) (i:=0)
     have hb5:=zab hb4 (.int .u64 (z:Int)) (i:=1)
     have c0:=zaa hb3 0 _ rfl
     have z0:=zac hb3 0
     have c1:(W3.setCell ⟨w.heap.size,0,none⟩ (.int .u64 (y:Int))).cell? ⟨w.heap.size,1,none⟩=some (.int .u64 0):=zaa hb4 1 _ rfl
     have z1:(W3.setCell ⟨w.heap.size,0,none⟩ (.int .u64 (y:Int))).frozen? ⟨w.heap.size,1,none⟩=false:=zac hb4 1
     have q0:((W3.setCell ⟨w.heap.size,0,none⟩ (.int .u64 (y:Int))).setCell ⟨w.heap.size,1,none⟩ (.int .u64 (z:Int))).cell? ⟨w.heap.size,0,none⟩=some (.int .u64 (y:Int)):=zaa hb5 0 _ rfl
     have q1:((W3.setCell ⟨w.heap.size,0,none⟩ (.int .u64 (y:Int))).setCell ⟨w.heap.size,1,none⟩ (.int .u64 (z:Int))).cell? ⟨w.heap.size,1,none⟩=some (.int .u64 (z:Int)):=zaa hb5 1 _ rfl
     have HR3:=zqH hn3;have QQ:=zqH (And.intro q0 q1)
     clear hn3 hb3 hb4 hb5 q0 q1))
 obtain⟨q0,q1⟩:=QQ.out
 have hn3:=HR3.out
 refine bodyPost_ret (by simp[results,Tryz.results119,go_sem,q0,q1];try rfl) rfl ?_
 have hset:Upd (fun b=>b=w.heap.size) W3 ((W3.setCell ⟨w.heap.size,0,none⟩ (.int .u64 (y:Int))).setCell ⟨w.heap.size,1,none⟩ (.int .u64 (z:Int))):=(Upd.setCell (S:=fun b=>b=w.heap.size) W3 _ rfl).trans (Upd.setCell _ _ rfl)
 have hnw:New w W3:=(N1.out.trans N2.out).trans hn3
 have hs1:=S1.out
 have hs2:=N2.out.size
 exact⟨rfl,hnw.then hset (fun b hb e=>by have e:b=w.heap.size:=e;omega)⟩
end Go.Proofs.YtbhnjkegkadodaaGreatDoor

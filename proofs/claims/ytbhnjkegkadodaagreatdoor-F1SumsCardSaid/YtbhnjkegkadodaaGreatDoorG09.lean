/- Part of the proof. -/
import Derived.Test.YtbhnjkegkadodaaGreatDoorG07
import Derived.Test.YtbhnjkegkadodaaGreatDoorG08
import Derived.Lib.ItoaMem
set_option linter.all false
set_option maxRecDepth 100000
set_option maxHeartbeats 8000000
namespace Gz
open Go Go.RowKit Go.Proofs Gl
theorem zas {w w':World} (h:Below w.heap.size w w'):New w w':=⟨h.os,h.output,h.tape,h.size,fun c hc _=>h.block c hc⟩
structure LQ (Q:Nat->Prop) (w:World) (A:Option Addr) (n c x:Nat):Prop where
 nat:∃l,Gn.NatV 22 w A n c l/\Gn.val l=x
 few:n<=1000
 at_:∀a,A=some a → 0<n->Q a.block
structure LN (Q:Nat->Prop) (w:World) (A:Option Addr) (n c x:Nat):Prop where
 nat:∃l,Gn.NatV 22 w A n c l/\Gn.Norm l/\Gn.val l=x
 few:n<=1000
 at_:∀a,A=some a → 0<n->Q a.block
end Gz
namespace Gz
open Go Go.RowKit Go.Proofs Gl
section
variable {Q Q' T:Nat->Prop} {w w':World} {A:Option Addr} {n c x y:Nat}
theorem LN.lq (h:LN Q w A n c x):LQ Q w A n c x:=⟨let ⟨l,h1,h2,h3⟩:=h.nat;⟨l,h1,h3⟩,h.few,h.at_⟩
theorem natv_upd {l:List Nat} (h:Gn.NatV 22 w A n c l) (hu:Upd T w w') (hd:∀a,A=some a → 0<n->¬T a.block):Gn.NatV 22 w' A n c l:=
 ⟨h.len,h.le,h.max,h.lim,fun h0=>by
   obtain⟨b,off,e,cs,f,t',hh,hc⟩:=h.row h0;exact⟨b,off,e,cs,f,t',(hu.block b (zqA.1 hh).1 (hd _ e h0)).trans hh,hc⟩⟩
theorem natv_lt {l:List Nat} (h:Gn.NatV 22 w A n c l) {a:Addr} (e:A=some a) (h0:0<n):a.block<w.heap.size:=by
 obtain⟨b,off,e2,hr⟩:=h.row h0;rw[e]at e2;injection e2 with e2;subst e2
 exact hr.lt
theorem LQ.upd (h:LQ Q w A n c x) (hu:Upd T w w') (hd:∀b,Q b->¬T b):LQ Q w' A n c x:=
 ⟨let ⟨l,h1,h2⟩:=h.nat;⟨l,natv_upd h1 hu (fun a e h0=>hd _ (h.at_ a e h0)),h2⟩,h.few,h.at_⟩
theorem LN.upd (h:LN Q w A n c x) (hu:Upd T w w') (hd:∀b,Q b->¬T b):LN Q w' A n c x:=
 ⟨let ⟨l,h1,h2,h3⟩:=h.nat;⟨l,natv_upd h1 hu (fun a e h0=>hd _ (h.at_ a e h0)),h2,h3⟩,h.few,h.at_⟩
theorem LQ.new (h:LQ Q w A n c x) (hu:New w w'):LQ Q w' A n c x:=h.upd hu (fun _ _=>id)
theorem LN.new (h:LN Q w A n c x) (hu:New w w'):LN Q w' A n c x:=h.upd hu (fun _ _=>id)
theorem LQ.mono (h:LQ Q w A n c x) (hd:∀b,b<w.heap.size->Q b->Q' b):LQ Q' w A n c x:=
 ⟨h.nat,h.few,fun a e h0=>by obtain⟨l,h1,_⟩:=h.nat;exact hd _ (natv_lt h1 e h0) (h.at_ a e h0)⟩
theorem LN.mono (h:LN Q w A n c x) (hd:∀b,b<w.heap.size->Q b->Q' b):LN Q' w A n c x:=
 ⟨h.nat,h.few,fun a e h0=>by obtain⟨l,h1,_⟩:=h.nat;exact hd _ (natv_lt h1 e h0) (h.at_ a e h0)⟩
theorem LN.nil (Q:Nat->Prop) (w:World):LN Q w none 0 0 0:=⟨⟨[],Gn.NatV.nil _ _,Gn.Norm.nil,rfl⟩,by omega,fun a e=>by cases e⟩
theorem LN.of {l:List Nat} (h:Gn.NatV 22 w A n c l) (hn:Gn.Norm l) (hb:Gn.val l<Gn.B ^ 1000) (hq:∀a,A=some a->Q a.block):LN Q w A n c (Gn.val l):=
 ⟨⟨l,h,hn,rfl⟩,by rw[<-h.len];exact hn.len_le hb,fun a e _=>hq a e⟩
end
end Gz
namespace Gz
open Go Go.RowKit Go.Proofs Gl
abbrev NB (w:World):Nat->Prop:=fun b=>w.heap.size<=b
def NumR (w:World) (x:Nat) (e:Ending) (w':World):Prop:=∃A n c,e=.returned (.slice A n c)/\LN (NB w) w' A n c x/\New w w'
theorem zbe {a b:Nat} (h:a<=b):Gn.B ^ a<=Gn.B ^ b:=Nat.pow_le_pow_right Gn.B_pos h
theorem LQ.lt {Q:Nat->Prop} {w:World} {A:Option Addr} {n c x:Nat} (h:LQ Q w A n c x):x<Gn.B ^ n:=by
 obtain⟨l,h1,rfl⟩:=h.nat;have:=Gn.val_lt h1.lim
 rwa [h1.len]at this
end Gz
namespace Gz
open Go Go.RowKit Go.Proofs Gl
section
variable {Q Q' Q'':Nat->Prop} {w:World} {A A' A'':Option Addr} {n c n' c' n'' c'' x y z:Nat}
theorem nadd (h:LQ Q w A n c x) (h':LQ Q' w A' n' c' y) (hb:x+y<Gn.B ^ 1000):Calls Tryz.prog 28 #[.slice A n c,.slice A' n' c'] w (NumR w (x+y)):=by
 obtain⟨l,h1,rfl⟩:=h.nat;obtain⟨l',h2,rfl⟩:=h'.nat;refine(Add_c h1 h2 (by have:=h.few;omega) (by have:=h'.few;omega)).mono ?_
 rintro e w' ⟨R,m,d,r,rfl,hr,hn,hv,hw,hR⟩;exact⟨R,m,d,rfl,by rw[<-hv];exact LN.of hr hn (by rw[hv];exact hb) hR,zas hw⟩
theorem nmul (h:LQ Q w A n c x) (h':LQ Q' w A' n' c' y) (hb:x*y<Gn.B ^ 1000):Calls Tryz.prog 29 #[.slice A n c,.slice A' n' c'] w (NumR w (x*y)):=by
 obtain⟨l,h1,rfl⟩:=h.nat;obtain⟨l',h2,rfl⟩:=h'.nat;refine(Mul_c h1 h2 (by have:=h.few;omega) (by have:=h'.few;omega)).mono ?_
 rintro e w' ⟨R,m,d,r,rfl,hr,hn,hv,hw,hR⟩;exact⟨R,m,d,rfl,by rw[<-hv];exact LN.of hr hn (by rw[hv];exact hb) hR,zas hw⟩
theorem nof (x:Nat) (h1:x<18446744073709551616) (w:World):Calls Tryz.prog 30 #[.int .u64 (x:Int)] w (NumR w x):=by
 refine(Of_c (x:Int) (by omega) (by omega) w).mono ?_
 rintro e w' ⟨R,m,d,rfl,hr,hw,hR⟩;rw[Int.toNat_natCast]at hr;have hv:=val_ofL x;refine⟨R,m,d,rfl,?_,zas hw⟩;have:=LN.of (Q:=NB w) hr (Norm.ofL x) (by rw[hv];exact zqL h1 (by rw[show(18446744073709551616:Nat)=Gn.B ^ 1 by rw[Nat.pow_one];rfl];exact @zbe 1 1000 (by omega))) hR
 rwa [hv]at this
theorem ncmp (h:LQ Q w A n c x) (h':LQ Q' w A' n' c' y):Calls Tryz.prog 31 #[.slice A n c,.slice A' n' c'] w fun e w'=>e=.returned (.int .i64 (cmpI x y))/\∃q,w'=w.drewN q:=by
 obtain⟨l,h1,rfl⟩:=h.nat;obtain⟨l',h2,rfl⟩:=h'.nat;exact Cmp_c h1 h2
theorem nsub (h:LQ Q w A n c x) (h':LQ Q' w A' n' c' y) (hle:y<=x):Calls Tryz.prog 141 #[.slice A n c,.slice A' n' c'] w fun e w'=>∃R m d,e=.returned (.tuple #[.slice R m d,.int .i64 0])/\LN (NB w) w' R m d (x-y)/\New w w':=by
 have hx:=h.lt;have hf:=h.few;obtain⟨l,h1,rfl⟩:=h.nat;obtain⟨l',h2,rfl⟩:=h'.nat;refine(Sub_c h1 h2 (by omega) hle).mono ?_
 rintro e w' ⟨R,m,d,r,rfl,hr,hn,hv,hw,hR⟩;have a1:Gn.val r=Gn.val l-Gn.val l':=by omega
 exact⟨R,m,d,rfl,by rw[<-a1];exact LN.of hr hn (Nat.lt_of_le_of_lt (by omega) (zqL hx (@zbe n 1000 hf))) hR,zas hw⟩
def DivN (w:World) (x y:Nat) (e:Ending) (w':World):Prop:=∃R m d R' m' d',e=.returned (.tuple #[.slice R m d,.slice R' m' d',.int .i64 0])/\LN (NB w) w' R m d (x / y)/\LN (NB w) w' R' m' d' (x % y)/\New w w'
theorem divn_of {e:Ending} {w':World} (h:DivR w x y e w') (hb:x<Gn.B ^ 1000):DivN w x y e w':=by
 obtain⟨R,m,d,l,R',m',d',l',rfl,h1,h2,h3,h4,h5,h6,h7,h8,h9⟩:=h;refine⟨R,m,d,R',m',d',rfl,?_,?_,zas h7⟩
 · rw[<-h3];exact LN.of h1 h2 (by rw[h3];exact Nat.lt_of_le_of_lt (Nat.div_le_self _ _) hb) h8
 · rw[<-h6];exact LN.of h4 h5 (by rw[h6];exact Nat.lt_of_le_of_lt (Nat.mod_le _ _) hb) h9
theorem ndivmod (h:LQ Q w A n c x) (h':LQ Q' w A' n' c' y) (h0:0<y):Calls Tryz.prog 140 #[.slice A n c,.slice A' n' c'] w (DivN w x y):=by
 have hx:=h.lt;have hf:=h.few;obtain⟨l,h1,rfl⟩:=h.nat;obtain⟨l',h2,rfl⟩:=h'.nat;exact(DivMod_c h1 h2 h0 (by omega)).mono fun e w' hd=>divn_of hd (zqL hx (@zbe n 1000 hf))
theorem nmuldiv (h:LQ Q w A n c x) (h':LQ Q' w A' n' c' y) (h'':LQ Q'' w A'' n'' c'' z) (h0:0<z) (hb:x*y<Gn.B ^ 1000):Calls Tryz.prog 144 #[.slice A n c,.slice A' n' c',.slice A'' n'' c''] w (DivN w (x*y) z):=by
 have hf:=h.few;have a1:=h'.few;obtain⟨l,h1,rfl⟩:=h.nat;obtain⟨l',h2,rfl⟩:=h'.nat;obtain⟨a4,h3,rfl⟩:=h''.nat;exact(MulDiv_c h1 h2 h3 h0 (by omega)).mono fun e w' hd=>divn_of hd hb
theorem nsmall (h:LQ Q w A n c x):Calls Tryz.prog 151 #[.slice A n c] w fun e w'=>e=.returned (.tuple #[.int .u64 ((if x<Gn.B then x else 0:Nat):Int),.bool (decide (x<Gn.B))])/\w=w':=by
 obtain⟨l,h1,rfl⟩:=h.nat;exact Small_c h1
end
end Gz
namespace Gz
open Go Go.RowKit Go.Proofs Gl
def pow10s:List Value:=Lib.pow10Tab.map fun z=>Value.int .u64 z
def Laid3 (w:World):Prop:=∃t,w.heap[3]?=some (.cells pow10s.toArray t (0,0))
theorem glob3:Tryz.prog.globalNamed "internal/strconv.uint64pow10" = some 3:=by kernel_rfl
theorem Laid3.tab {w:World} (h:Laid3 w):Lib.TabIs Tryz.prog w "internal/strconv.uint64pow10" .u64 Lib.pow10Tab:=by
 obtain⟨t,h⟩:=h;unfold Lib.TabIs World.var?;rw[glob3,Option.bind_some,h];rfl
theorem Laid3.new {w w':World} (h:Laid3 w) (hn:New w w'):Laid3 w':=by
 obtain⟨t,h⟩:=h;exact⟨t,(hn.block 3 (zqA.1 h).1 id).trans h⟩
end Gz

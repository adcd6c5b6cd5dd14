/- A part of the proof of the statement of this seat: no condition. -/
import Derived.Test.YtbhnjkegkadodaaGreatDoorQ0b
import Derived.Test.YtbhnjkegkadodaaGreatDoorQ16
import Derived.Test.YtbhnjkegkadodaaGreatDoorQ11
set_option linter.unusedVariables false
set_option linter.unusedSimpArgs false
set_option maxRecDepth 100000
set_option maxHeartbeats 8000000
namespace F1
open Gl
def st (i r:Nat):Sta:=if i=0 then⟨[(0,0,2)],[]⟩ else⟨[(0,0,1),(i,r,1)],[]⟩
theorem st_c (i r:Nat):(st i r).c=[]:=by unfold st;split<;>rfl
theorem hist0 (i r:Nat):(hist (st i r) 0).1=0:=by
 unfold st
 split
 · rfl
 · rfl
theorem hist_last (i r:Nat) (h:i=0->r=0):(hist (st i r) i).1=r:=by
 unfold st
 split
 · rename_i e;subst e;rw[h rfl];rfl
 · rename_i e
   unfold hist findR
   have:((0:Nat) == i)=false:=by simp;omega
   simp[List.find?,this]
theorem put_st (i r x:Nat):putR (st i r).h (i+1,x,1)=(st i r).h ++ [(i+1,x,1)]:=by
 unfold putR st
 split
 · rename_i e;subst e;simp
 · rename_i e
   have h1:(0:Nat)<i+1:=by omega
   simp
theorem close_st (i r n g:Nat) (hn:0<n) (h:i=0->r=0):close (st i r) (i+1) n g=st (i+1) (r+g / n):=by
 unfold close
 rw[Nat.add_sub_cancel,hist_last i r h,if_neg (by omega),put_st]
 unfold free
 by_cases hi:i=0
 · subst hi
   have:r=0:=h rfl
   subst this
   simp[st,hist,findR,List.find?,putR]
 · have e0:((0:Nat) == i)=false:=by simp;omega
   have e1:(i == i)=true:=by simp
   have hs:(st i r).h=[(0,0,1),(i,r,1)]:=by unfold st;rw[if_neg hi]
   have hh:hist { (st i r) with h:=(st i r).h ++ [(i+1,r+g / n,1)] } i=(r,1):=by
    unfold hist findR;rw[hs];simp[List.find?,e0]
   rw[hh]
   have e2:(i+1 == i)=false:=by simp
   simp[delR,hs,st,hi,e0]
theorem exact_le (s r n G U:Nat) (h:r*n<=G):s*r / U*n*U<=s*G:=by
 have h1:s*r / U*U<=s*r:=Nat.div_mul_le_self _ _
 calc s*r / U*n*U=s*r / U*U*n:=by rw[Nat.mul_right_comm]
  _<=s*r*n:=Nat.mul_le_mul_right _ h1
  _=s*(r*n):=by rw[Nat.mul_assoc]
  _<=s*G:=Nat.mul_le_mul_left _ h
theorem exact_lt (s r n G U k:Nat) (hU:0<U) (hn:0<n) (h:G<r*n+k*n+1) (hk:0<k):s*G<s*r / U*n*U+(s*k+U)*n:=by
 have h1:s*r<s*r / U*U+U:=by
  have:=Nat.div_add_mod (s*r) U
  have h2:=Nat.mod_lt (s*r) hU
  have h3:U*(s*r / U)=s*r / U*U:=Nat.mul_comm _ _
  omega
 have h4:s*G<=s*(r*n+k*n):=Nat.mul_le_mul_left _ (by omega)
 have h5:s*(r*n+k*n)=s*r*n+s*k*n:=by rw[Nat.mul_add,<-Nat.mul_assoc,<-Nat.mul_assoc]
 have h6:s*r*n<(s*r / U*U+U)*n:=Nat.mul_lt_mul_of_pos_right h1 hn
 have h7:s*r / U*n*U=s*r / U*U*n:=by rw[Nat.mul_right_comm]
 have h8:(s*k+U)*n=s*k*n+U*n:=Nat.add_mul _ _ _
 have h9:(s*r / U*U+U)*n=s*r / U*U*n+U*n:=Nat.add_mul _ _ _
 omega
theorem sum_step (r n G g k:Nat) (hn:0<n) (h1:r*n<=G) (h2:G<=r*n+k*n):(r+g / n)*n<=G+g/\G+g<=(r+g / n)*n+(k+1)*n:=by
 have h3:=Nat.div_add_mod g n
 have h4:=Nat.mod_lt g hn
 have h5:n*(g / n)=g / n*n:=Nat.mul_comm _ _
 rw[Nat.add_mul,Nat.add_mul]
 omega
end F1
namespace Go.Proofs.YtbhnjkegkadodaaGreatDoor
theorem nb_of_B {x k:Nat} (h:x<Gn.B ^ k):F1.nb x<=8*k:=F1.nb_le (by
 have:Gn.B=256 ^ 8:=by decide
 rw[this,<-Nat.pow_mul]at h;exact h)
theorem okay_st {i r:Nat} (hi:i<=1000) (hr:r<Gn.B ^ 30):Okay (F1.st i r):=by
 have hb:=nb_of_B hr
 unfold F1.st
 split
 · refine⟨⟨fun x hx=>?_,fun x hx=>by cases hx⟩,fun x hx=>?_,by simp⟩
   · simp at hx;subst hx;show 0<_;decide
   · simp at hx;subst hx;exact⟨by show F1.nb 0<=255;decide,by show 2<_;decide⟩
 · refine⟨⟨fun x hx=>?_,fun x hx=>by cases hx⟩,fun x hx=>?_,by simp⟩
   · simp at hx;rcases hx with rfl|rfl
     · show 0<_;decide
     · show i<_;omega
   · simp at hx;rcases hx with rfl|rfl
     · exact⟨by show F1.nb 0<=255;decide,by show 1<_;decide⟩
     · exact⟨by show F1.nb r<=255;omega,by show 1<_;decide⟩
theorem okay_put {i r x:Nat} (hi:i<=1000) (hr:r<Gn.B ^ 30) (hx:x<Gn.B ^ 30):Okay { F1.st i r with h:=F1.putR (F1.st i r).h (i+1,x,1) }:=by
 have h0:=okay_st hi hr
 have hb:=nb_of_B hx
 rw[F1.put_st]
 refine⟨⟨fun y hy=>?_,h0.fine.c⟩,fun y hy=>?_,?_⟩
 · rcases List.mem_append.1 hy with hy|hy
   · exact h0.fine.h y hy
   · simp at hy;subst hy;show i+1<_;omega
 · rcases List.mem_append.1 hy with hy|hy
   · exact h0.fit y hy
   · simp at hy;subst hy;exact⟨by show F1.nb x<=255;omega,by show 1<_;decide⟩
 · show((F1.st i r).h ++ _).length+(F1.st i r).c.length<=_
   rw[F1.st_c]
   unfold F1.st
   split<;>simp
end Go.Proofs.YtbhnjkegkadodaaGreatDoor
namespace Go.Proofs.YtbhnjkegkadodaaGreatDoor
open Go Go.RowKit Go.Proofs Gl
section
variable {F:Nat->Prop} {bs n i r sh:Nat} {R R3 A1 A7:Option Addr} {m d m3 d3 n1 c1 n7 c7:Nat} {w:World}
theorem start0 (h:SF F bs w []):
 Calls Tryz.prog 13 #[.pointer (some ⟨bs,0,none⟩),.int .u64 16,.agg #[.int .u64 0,.int .u64 (n:Int),.slice R m d,.bool false,.int .u64 0,.bool false,.int .u64 0,.slice none 0 0,.slice none 0 0,.slice none 0 0]] w (StartR F bs w (F1.ents (F1.refer ⟨[],[]⟩ 0)) (.agg #[.int .u64 0,.int .u64 (n:Int),.slice R m d,.bool false,.int .u64 0,.bool false,.int .u64 1,.slice none 0 0,.slice none 0 0,.slice none 0 0])):=
 start_c (S:=⟨[],[]⟩) ⟨0,n,R,m,d,false,0,false,0,none,0,0,none,0,0,none,0,0⟩ ⟨⟨fun x hx=>(by cases hx),fun x hx=>(by cases hx)⟩,fun x hx=>(by cases hx),(by simp)⟩ h (by decide)
theorem pow3 {x:Nat} (hs:x<Gn.B ^ 3) (hn:n<18446744073709551616):x*(n*10 ^ 36)<Gn.B ^ 1000:=by
 have h1:n*10 ^ 36<Gn.B ^ 3:=by
  have:n*10 ^ 36<18446744073709551616*10 ^ 36:=Nat.mul_lt_mul_of_pos_right hn (by decide)
  exact Nat.lt_of_lt_of_le this (by decide)
 have h2:x*(n*10 ^ 36)<Gn.B ^ 3*Gn.B ^ 3:=Nat.mul_lt_mul'' hs h1
 rw[<-Nat.pow_add]at h2
 exact Nat.lt_of_lt_of_le h2 (@pow_le 6 1000 (by omega))
theorem okay1:Okay (F1.refer ⟨[],[]⟩ 0):=by
 refine⟨⟨fun x hx=>?_,fun x hx=>(by cases hx)⟩,fun x hx=>?_,by decide⟩
 · have:x=(0,0,1):=by simpa[F1.refer,F1.putR,F1.hist,F1.findR] using hx
   subst this;show 0<_;decide
 · have:x=(0,0,1):=by simpa[F1.refer,F1.putR,F1.hist,F1.findR] using hx
   subst this;exact⟨by show F1.nb 0<=255;decide,by show 1<_;decide⟩
theorem hold0 {Q Q':Nat->Prop} (h:SF F bs w (F1.ents (F1.refer ⟨[],[]⟩ 0))) (hy:LQ Q w R m d (n*10 ^ 36)) (hx:LQ Q' w A1 n1 c1 sh) (hn0:0<n) (hn:n<18446744073709551616) (hs:sh<Gn.B ^ 3):
 Calls Tryz.prog 25 #[.pointer (some ⟨bs,0,none⟩),.int .u64 16,.agg #[.int .u64 0,.int .u64 (n:Int),.slice R m d,.bool false,.int .u64 0,.bool false,.int .u64 1,.slice none 0 0,.slice none 0 0,.slice none 0 0],.agg #[.slice A1 n1 c1,.int .u64 0,.slice none 0 0]] w fun e w'=>∃R3 m3 d3,e=.returned (.agg #[.slice A1 n1 c1,.int .u64 0,.slice R3 m3 d3])/\∃F',SF F' bs w' (F1.ents (F1.st 0 0))/\Step F F' bs w w'/\LN (fun b=>Off F' bs b/\w.heap.size<=b) w' R3 m3 d3 sh:=by
 have:=hold_c (S:=F1.refer ⟨[],[]⟩ 0) (x:=sh) (y:=n*10 ^ 36) (dp:=0) (As:=none) (ns:=0) (cs:=0) ⟨0,n,R,m,d,false,0,false,1,none,0,0,none,0,0,none,0,0⟩ okay1 h hy hx (Nat.mul_pos hn0 (by decide)) hn (pow3 hs hn) (show 0<1 by decide) (show 1<18446744073709551616 by decide) (show(F1.hist (F1.refer ⟨[],[]⟩ 0) 0).2+1<18446744073709551616 by decide)
 rw[Nat.mul_div_cancel _ (Nat.mul_pos hn0 (by decide))]at this
 exact this
theorem claim_st (h:SF F bs w (F1.ents (F1.st i r))) (hy:LQ (fun b=>b≠bs) w R3 m3 d3 sh) (hi:i<=1000) (hr:r<Gn.B ^ 30) (hir:i=0->r=0) (hs:sh<Gn.B ^ 3):
 Calls Tryz.prog 19 #[.pointer (some ⟨bs,0,none⟩),.int .u64 16,.agg #[.int .u64 0,.int .u64 (n:Int),.slice R m d,.bool false,.int .u64 0,.bool false,.int .u64 ((i:Int)+1),.slice A7 n7 c7,.slice none 0 0,.slice none 0 0],.agg #[.slice A1 n1 c1,.int .u64 0,.slice R3 m3 d3]] w (ClaimR F bs w (F1.ents (F1.st i r)) (sh*r / 10 ^ 36) 0):=by
 have hb:sh*r<Gn.B ^ 1000:=by
  have:=Nat.mul_lt_mul'' hs hr
  rw[<-Nat.pow_add]at this
  exact Nat.lt_of_lt_of_le this (@pow_le 33 1000 (by omega))
 have e1:=F1.hist0 i r
 have e2:=F1.hist_last i r hir
 have:=claim_none (S:=F1.st i r) (y:=sh) (dp:=0) (Ad:=A1) (nd:=n1) (cd:=c1) (As:=R3) (ns:=m3) (cs:=d3) ⟨0,n,R,m,d,false,0,false,i+1,A7,n7,c7,none,0,0,none,0,0⟩ (okay_st hi hr) (F1.st_c i r) h hy (Nat.succ_pos i) (show i+1<_ by omega) (by decide) (by rw[e1];exact Nat.zero_le _) (by rw[e1];show sh*((F1.hist (F1.st i r) i).1-0)<_;rw[e2,Nat.sub_zero];exact hb)
 rw[e1]at this
 have e3:(F1.hist (F1.st i r) (i+1-1)).1-0=r:=by rw[Nat.add_sub_cancel,e2,Nat.sub_zero]
 have this:Calls Tryz.prog 19 _ w (ClaimR F bs w (F1.ents (F1.st i r)) (sh*((F1.hist (F1.st i r) (i+1-1)).1-0) / 10 ^ 36) 0):=this
 rw[e3]at this
 exact this
theorem close_stc {Q:Nat->Prop} {g:Nat} (h:SF F bs w (F1.ents (F1.st i r))) (hcur:LQ Q w A7 n7 c7 g) (hn0:0<n) (hn:n<18446744073709551616) (hi:i<=999) (hr:r<Gn.B ^ 30) (hr2:r+g / n<Gn.B ^ 30) (hir:i=0->r=0):
 Calls Tryz.prog 27 #[.pointer (some ⟨bs,0,none⟩),.int .u64 16,.agg #[.int .u64 0,.int .u64 (n:Int),.slice R m d,.bool false,.int .u64 0,.bool false,.int .u64 ((i:Int)+1),.slice A7 n7 c7,.slice none 0 0,.slice none 0 0]] w (StartR F bs w (F1.ents (F1.st (i+1) (r+g / n))) (.tuple #[.agg #[.int .u64 0,.int .u64 (n:Int),.slice R m d,.bool false,.int .u64 0,.bool false,.int .u64 (((i+1:Nat):Int)+1),.slice none 0 0,.slice none 0 0,.slice none 0 0],.agg #[.slice none 0 0]])):=by
 have e2:=F1.hist_last i r hir
 have e3:(F1.hist (F1.st i r) (i+1-1)).1=r:=by rw[Nat.add_sub_cancel,e2]
 have:=close_c (S:=F1.st i r) (cur:=g) ⟨0,n,R,m,d,false,0,false,i+1,A7,n7,c7,none,0,0,none,0,0⟩ (okay_st (by omega) hr) h hcur hn0 hn (Nat.succ_pos i) (show i+1+1<_ by omega) (by show(F1.hist (F1.st i r) (i+1-1)).1+g / n<_;rw[e3];exact hr2) (by show Okay { F1.st i r with h:=F1.putR (F1.st i r).h (i+1,(F1.hist (F1.st i r) (i+1-1)).1+g / n,1) };rw[e3];exact okay_put (by omega) hr hr2)
 have e4:F1.close (F1.st i r) (i+1) n g=F1.st (i+1) (r+g / n):=F1.close_st i r n g hn0 hir
 have this:Calls Tryz.prog 27 _ w (StartR F bs w (F1.ents (F1.close (F1.st i r) (i+1) n g)) _):=this
 rw[e4]at this
 exact this
end
end Go.Proofs.YtbhnjkegkadodaaGreatDoor
namespace Go.Proofs.YtbhnjkegkadodaaGreatDoor
open Go Go.RowKit Go.Proofs Gl
def PQ (F:Nat->Prop) (bs b9 b10 b11:Nat):Nat->Prop:=fun b=>¬F b/\b≠bs/\b≠b9/\b≠b10/\b≠b11
structure LS (w0:World) (F:Nat->Prop) (bs b9 b10 b11:Nat) (L:List Ent) (c9 c10 c11:Array Value) (W:World):Prop where
 sf:SF F bs W L
 new:New w0 W
 k9:W.heap[b9]?=some (.cells c9 28 (0,0))
 k10:W.heap[b10]?=some (.cells c10 55 (0,0))
 k11:W.heap[b11]?=some (.cells c11 26 (0,0))
 d1:b9≠b10
 d2:b9≠b11
 d3:b10≠b11
 o9:¬F b9/\b9≠bs
 o10:¬F b10/\b10≠bs
 o11:¬F b11/\b11≠bs
 gF:∀b,F b->w0.heap.size<=b
 gs:w0.heap.size<=bs
 g9:w0.heap.size<=b9
 g10:w0.heap.size<=b10
 g11:w0.heap.size<=b11
end Go.Proofs.YtbhnjkegkadodaaGreatDoor
namespace Go.Proofs.YtbhnjkegkadodaaGreatDoor
open Go Go.RowKit Go.Proofs Gl
section
variable {w0 W W':World} {F F' T:Nat->Prop} {bs b9 b10 b11 n c x:Nat} {L L':List Ent} {c9 c10 c11 c9' c11':Array Value} {A:Option Addr}
theorem LS.l9 (h:LS w0 F bs b9 b10 b11 L c9 c10 c11 W):b9<W.heap.size:=(Array.getElem?_eq_some_iff.1 h.k9).1
theorem LS.l10 (h:LS w0 F bs b9 b10 b11 L c9 c10 c11 W):b10<W.heap.size:=(Array.getElem?_eq_some_iff.1 h.k10).1
theorem LS.l11 (h:LS w0 F bs b9 b10 b11 L c9 c10 c11 W):b11<W.heap.size:=(Array.getElem?_eq_some_iff.1 h.k11).1
theorem LS.step (h:LS w0 F bs b9 b10 b11 L c9 c10 c11 W) (st:Step F F' bs W W') (hs:SF F' bs W' L'):LS w0 F' bs b9 b10 b11 L' c9 c10 c11 W':=by
 have off:∀b,b<W.heap.size->¬F b/\b≠bs->¬F' b/\b≠bs:=fun b hb ho=>⟨fun hf=>(st.sub b hf).elim ho.1 (fun h=>by omega),ho.2⟩
 exact⟨hs,h.new.then st.upd (fun b hb hh=>hh.elim (fun hf=>by have:=h.gF b hf;omega) (fun e=>by have:=h.gs;omega)),(st.block h.l9 h.o9.1 h.o9.2).trans h.k9,(st.block h.l10 h.o10.1 h.o10.2).trans h.k10,(st.block h.l11 h.o11.1 h.o11.2).trans h.k11,
  h.d1,h.d2,h.d3,off _ h.l9 h.o9,off _ h.l10 h.o10,off _ h.l11 h.o11,fun b hb=>(st.sub b hb).elim (h.gF b) (fun hh=>Nat.le_trans h.new.size hh),h.gs,h.g9,h.g10,h.g11⟩
theorem LS.nw (h:LS w0 F bs b9 b10 b11 L c9 c10 c11 W) (hu:New W W'):LS w0 F bs b9 b10 b11 L c9 c10 c11 W':=h.step (Step.of_new hu) (h.sf.new hu)
theorem LS.bsd (h:LS w0 F bs b9 b10 b11 L c9 c10 c11 W) (hu:Upd (fun b=>b=bs) W W') (hs:SF F bs W' L):LS w0 F bs b9 b10 b11 L c9 c10 c11 W':=h.step ⟨fun b hb=>.inl hb,hu.mono (fun _ _ e=>.inr e)⟩ hs
theorem LS.set9 (h:LS w0 F bs b9 b10 b11 L c9 c10 c11 W) (hu:Upd (fun b=>b=b9) W W') (hk:W'.heap[b9]?=some (.cells c9' 28 (0,0))):LS w0 F bs b9 b10 b11 L c9' c10 c11 W':=
 ⟨h.sf.upd_off hu (fun b hb e=>h.o9.1 ((show b=b9 from e)▸hb)) (fun e=>h.o9.2 e.symm),h.new.then hu (fun b hb e=>by have e:b=b9:=e;have:=h.g9;omega),hk,(hu.block _ h.l10 (Ne.symm h.d1)).trans h.k10,(hu.block _ h.l11 (Ne.symm h.d2)).trans h.k11,h.d1,h.d2,h.d3,h.o9,h.o10,h.o11,h.gF,h.gs,h.g9,h.g10,h.g11⟩
theorem LS.set11 (h:LS w0 F bs b9 b10 b11 L c9 c10 c11 W) (hu:Upd (fun b=>b=b11) W W') (hk:W'.heap[b11]?=some (.cells c11' 26 (0,0))):LS w0 F bs b9 b10 b11 L c9 c10 c11' W':=
 ⟨h.sf.upd_off hu (fun b hb e=>h.o11.1 ((show b=b11 from e)▸hb)) (fun e=>h.o11.2 e.symm),h.new.then hu (fun b hb e=>by have e:b=b11:=e;have:=h.g11;omega),(hu.block _ h.l9 h.d2).trans h.k9,(hu.block _ h.l10 h.d3).trans h.k10,hk,h.d1,h.d2,h.d3,h.o9,h.o10,h.o11,h.gF,h.gs,h.g9,h.g10,h.g11⟩
theorem LN.pq_step (hl:LN (PQ F bs b9 b10 b11) W A n c x) (st:Step F F' bs W W'):LN (PQ F' bs b9 b10 b11) W' A n c x:=
 ((hl.mono (Q':=fun b=>PQ F bs b9 b10 b11 b/\b<W.heap.size) (fun b hb hq=>⟨hq,hb⟩)).upd st.upd (fun b hq h=>h.elim hq.1.1 hq.1.2.1)).mono (fun b _ hq=>⟨fun hf=>(st.sub b hf).elim hq.1.1 (fun h=>by omega),hq.1.2⟩)
theorem LN.pq_new (hl:LN (PQ F bs b9 b10 b11) W A n c x) (hu:New W W'):LN (PQ F bs b9 b10 b11) W' A n c x:=hl.pq_step (Step.of_new hu)
theorem LN.pq_bs (hl:LN (PQ F bs b9 b10 b11) W A n c x) (hu:Upd (fun b=>b=bs) W W'):LN (PQ F bs b9 b10 b11) W' A n c x:=hl.upd hu (fun b hq e=>hq.2.1 e)
theorem LN.pq_9 (hl:LN (PQ F bs b9 b10 b11) W A n c x) (hu:Upd (fun b=>b=b9) W W'):LN (PQ F bs b9 b10 b11) W' A n c x:=hl.upd hu (fun b hq e=>hq.2.2.1 e)
theorem LN.pq_11 (hl:LN (PQ F bs b9 b10 b11) W A n c x) (hu:Upd (fun b=>b=b11) W W'):LN (PQ F bs b9 b10 b11) W' A n c x:=hl.upd hu (fun b hq e=>hq.2.2.2.2 e)
theorem LN.pq_of (hl:LN (NB W) W' A n c x) (h:LS w0 F bs b9 b10 b11 L c9 c10 c11 W):LN (PQ F bs b9 b10 b11) W' A n c x:=hl.mono (fun b _ hb=>by
 have hb:W.heap.size<=b:=hb
 have h1:=h.l9;have h2:=h.l10;have h3:=h.l11;have h4:=h.sf.bs_lt
 exact⟨fun hf=>by have:=(h.sf.lt hf).1;omega,by omega,by omega,by omega,by omega⟩)
end
end Go.Proofs.YtbhnjkegkadodaaGreatDoor
namespace F1
open Gl
structure Bnd (sh n r i G U X:Nat):Prop where
 b1:sh*G<Gn.B ^ 1000
 b2:X*n<Gn.B ^ 1000
 b3:X*n*U<Gn.B ^ 1000
 b4:sh*i<Gn.B ^ 1000
 b5:sh*i+U<Gn.B ^ 1000
 b6:(sh*i+U)*n<Gn.B ^ 1000
 b7:X*n*U+(sh*i+U)*n<Gn.B ^ 1000
 le:X*n*U<=sh*G
 lt:sh*G<X*n*U+(sh*i+U)*n
theorem bnd_of {sh n r i G:Nat} (hs:sh<Gn.B ^ 3) (hn0:0<n) (hn:n<18446744073709551616) (hi0:0<i) (hi:i<=1000) (hG:G<Gn.B ^ 30) (h1:r*n<=G) (h2:G<=r*n+i*n):
 Bnd sh n r i G (1*10 ^ 36) (sh*r / 10 ^ 36):=by
 have e:1*10 ^ 36=10 ^ 36:=Nat.one_mul _
 rw[e]
 obtain⟨U,hU⟩:∃U,U=10 ^ 36:=⟨_,rfl⟩
 rw[<-hU]
 have hU0:0<U:=by rw[hU];decide
 have hUb:U<Gn.B ^ 2:=by rw[hU];decide
 have hn1:n<Gn.B ^ 1:=hn
 have hi1:i<Gn.B ^ 1:=Nat.lt_of_le_of_lt hi (by decide)
 have le:=exact_le sh r n G U h1
 have lt:=exact_lt sh r n G U i hU0 hn0 (by omega) hi0
 have hsG:sh*G<Gn.B ^ 33:=by have:=Nat.mul_lt_mul'' hs hG;rwa [<-Nat.pow_add]at this
 have hsi:sh*i<Gn.B ^ 4:=by have:=Nat.mul_lt_mul'' hs hi1;rwa [<-Nat.pow_add]at this
 have hsiU:sh*i+U<Gn.B ^ 5:=by
  have h1:Gn.B ^ 4+Gn.B ^ 2<Gn.B ^ 5:=by decide
  omega
 have hsiUn:(sh*i+U)*n<Gn.B ^ 6:=by have:=Nat.mul_lt_mul'' hsiU hn1;rwa [<-Nat.pow_add]at this
 have hX:sh*r / U*n<=sh*r / U*n*U:=Nat.le_mul_of_pos_right _ hU0
 have p1:Gn.B ^ 33+Gn.B ^ 6<=Gn.B ^ 1000:=by
  have h1:Gn.B ^ 33+Gn.B ^ 6<=Gn.B ^ 34:=by decide
  exact Nat.le_trans h1 (@Go.Proofs.YtbhnjkegkadodaaGreatDoor.pow_le 34 1000 (by omega))
 have p4:Gn.B ^ 4<=Gn.B ^ 1000:=@Go.Proofs.YtbhnjkegkadodaaGreatDoor.pow_le 4 1000 (by omega)
 have p5:Gn.B ^ 5<=Gn.B ^ 1000:=@Go.Proofs.YtbhnjkegkadodaaGreatDoor.pow_le 5 1000 (by omega)
 have p6:Gn.B ^ 6<=Gn.B ^ 1000:=@Go.Proofs.YtbhnjkegkadodaaGreatDoor.pow_le 6 1000 (by omega)
 have p33:Gn.B ^ 33<=Gn.B ^ 1000:=@Go.Proofs.YtbhnjkegkadodaaGreatDoor.pow_le 33 1000 (by omega)
 have b1:=Nat.lt_of_lt_of_le hsG p33
 have b3:=Nat.lt_of_le_of_lt le b1
 exact⟨b1,Nat.lt_of_le_of_lt hX b3,b3,Nat.lt_of_lt_of_le hsi p4,Nat.lt_of_lt_of_le hsiU p5,Nat.lt_of_lt_of_le hsiUn p6,Nat.lt_of_lt_of_le (Nat.add_lt_add (Nat.lt_of_le_of_lt le hsG) hsiUn) p1,le,lt⟩
end F1

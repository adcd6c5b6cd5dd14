/- Part of the proof. -/
import Derived.Test.YtbhnjkegkadodaaGreatDoorLwI
import Derived.Test.YtbhnjkegkadodaaGreatDoorG38
set_option linter.all false
set_option maxRecDepth 100000
set_option maxHeartbeats 8000000
namespace Go.Proofs.YtbhnjkegkadodaaGreatDoor
open Go Go.RowKit Go.Proofs Gl
section
variable {F:Nat->Prop} {bs q r M N n x m d dp:Nat} {R A1 As:Option Addr} {n1 c1 ns cs:Nat} {S:F1.Sta} {w:World}
theorem pow5 {a b:Nat} (ha:a<Gn.B ^ 30) (hb:b<Gn.B ^ 30):a*b<Gn.B ^ 1000:=by
 have h:=Nat.mul_lt_mul'' ha hb
 rw[<-Nat.pow_add]at h
 exact zqL h (@zbj 60 1000 (by omega))
theorem hold_led {Q Q':Nat->Prop} (hl:F1.Led S q r M N) (h:SF F bs w (F1.ents S)) (hy:LQ Q w R m d (n*10 ^ 36)) (hx:LQ Q' w A1 n1 c1 x) (hn0:0<n) (hn:n<18446744073709551616) (hxb:x<Gn.B ^ 30) (hq:q<=100000) (hr:r<Gn.B ^ 30) (hM:M<=100000) (hN:N<=100000):
 Calls Tryz.prog 25 #[.pointer (some ⟨bs,0,none⟩),.int .u64 16,.agg #[.int .u64 0,.int .u64 (n:Int),.slice R m d,.bool false,.int .u64 0,.bool false,.int .u64 ((q:Int)+1),.slice none 0 0,.slice none 0 0,.slice none 0 0],.agg #[.slice A1 n1 c1,.int .u64 (dp:Int),.slice As ns cs]] w fun e w'=>∃R3 m3 d3,e=.returned (.agg #[.slice A1 n1 c1,.int .u64 (q:Int),.slice R3 m3 d3])/\∃F',SF F' bs w' (F1.ents (F1.refer S q))/\Step F F' bs w w'/\LN (fun b=>Off F' bs b/\w.heap.size<=b) w' R3 m3 d3 x:=by
 have hnb:n*10 ^ 36<Gn.B ^ 30:=by
  have:n*10 ^ 36<18446744073709551616*10 ^ 36:=Nat.mul_lt_mul_of_pos_right hn (by decide)
  exact zqL this (by decide)
 have hh:=(hl.hist_le q).2
 have:=hold_c (S:=S) (x:=x) (y:=n*10 ^ 36) (dp:=dp) (As:=As) (ns:=ns) (cs:=cs) ⟨0,n,R,m,d,false,0,false,q+1,none,0,0,none,0,0,none,0,0⟩ (okay_led hl (by omega) hr (by omega) hN) h hy hx (Nat.mul_pos hn0 (by decide)) hn (pow5 hxb hnb) (Nat.succ_pos q) (show q+1<18446744073709551616 by omega) (by show(F1.hist S (q+1-1)).2+1<_;rw[Nat.add_sub_cancel];omega)
 rw[Nat.mul_div_cancel _ (Nat.mul_pos hn0 (by decide))]at this
 exact this
theorem LN.po_hold {W W':World} {F0 F':Nat->Prop} {L:List Ent} {own:List Blk} (hl:LN (fun b=>Off F' bs b/\W.heap.size<=b) W' R m d x) (h:LG w F0 F bs L own W):LN (PO F' bs own) W' R m d x:=
 hl.mono (fun b _ hq=>⟨hq.1,fun y hy e=>by have:=h.lt hy;have:=hq.2;omega⟩)
end
end Go.Proofs.YtbhnjkegkadodaaGreatDoor
namespace Go.Proofs.YtbhnjkegkadodaaGreatDoor
open Go Go.RowKit Go.Proofs Gl
theorem Giv.new {w w':World} {Ag:Option Addr} {ng:Nat} (h:Giv w Ag ng) (hn:New w w'):Giv w' Ag ng:=fun j hj=>by
 obtain⟨b,off,A,n,c,e,hc,hl⟩:=h j hj
 exact⟨b,off,A,n,c,e,(hn.cell (a:=⟨b,off+j,none⟩) (zqB w _ hc) id).trans hc,fun h4=>let ⟨g,hg⟩:=hl h4;⟨g,(hg.new hn).mono (fun b _ hb=>zqL hb hn.size)⟩⟩
def Short (w:World) (Ag:Option Addr) (ng:Nat):Prop:=ng<=20/\∃gs:List Nat,gs.length=ng/\Gs w Ag gs
theorem lshort_yes {w:World} {Ag:Option Addr} {ng cg:Nat} (hg:Giv w Ag ng) (h:Short w Ag ng):Calls Tryz.prog 38 #[.slice Ag ng cg] w fun e w'=>e=.returned (.bool true)/\w=w':=
 (lshort_c hg).mono fun e w' ⟨⟨b,he,hb⟩,hw⟩=>⟨by rw[he,hb.2 h],hw.symm⟩
theorem lshort_no {w:World} {Ag:Option Addr} {ng cg:Nat} (hg:Giv w Ag ng) (h:¬Short w Ag ng):Calls Tryz.prog 38 #[.slice Ag ng cg] w fun e w'=>e=.returned (.bool false)/\w=w':=
 (lshort_c hg).mono fun e w' ⟨⟨b,he,hb⟩,hw⟩=>⟨by
   cases b with
   | false=>exact he
   | true=>exact absurd (hb.1 rfl) h,hw.symm⟩
theorem led0:F1.Led (F1.refer ⟨[],[]⟩ 0) 0 0 1 1:=by
 have e:(F1.refer ⟨[],[]⟩ 0).h=[(0,0,1)]:=by simp[F1.refer,F1.putR,F1.hist,F1.findR]
 refine⟨fun x hx=>?_,fun x hx=>(by cases hx),by rw[e];decide,by rw[F1.hist_refer,if_pos rfl];exact⟨rfl,by decide⟩,by rw[F1.hist_refer,if_pos rfl];rfl⟩
 rw[e]at hx
 have:x=(0,0,1):=by simpa using hx
 subst this;decide
theorem start_led {F:Nat->Prop} {bs n m d:Nat} {R:Option Addr} {w:World} (h:SF F bs w []):
 Calls Tryz.prog 13 #[.pointer (some ⟨bs,0,none⟩),.int .u64 16,.agg #[.int .u64 0,.int .u64 (n:Int),.slice R m d,.bool false,.int .u64 0,.bool false,.int .u64 0,.slice none 0 0,.slice none 0 0,.slice none 0 0]] w (StartR F bs w (F1.ents (F1.refer ⟨[],[]⟩ 0)) (.agg #[.int .u64 0,.int .u64 (n:Int),.slice R m d,.bool false,.int .u64 0,.bool false,.int .u64 1,.slice none 0 0,.slice none 0 0,.slice none 0 0])):=
 start_c (S:=⟨[],[]⟩) ⟨0,n,R,m,d,false,0,false,0,none,0,0,none,0,0,none,0,0⟩ ⟨⟨fun x hx=>(by cases hx),fun x hx=>(by cases hx)⟩,fun x hx=>(by cases hx),(by simp)⟩ h (by decide)
end Go.Proofs.YtbhnjkegkadodaaGreatDoor
namespace Go.Proofs.YtbhnjkegkadodaaGreatDoor
open Go Go.RowKit Go.Proofs Gl
section
variable {F:Nat->Prop} {bs q r M N n x m d dp:Nat} {R A1 As:Option Addr} {n1 c1 ns cs:Nat} {S:F1.Sta} {w:World}
theorem hold_v {Q Q':Nat->Prop} (qv dv rv:Int) (h1:qv=(q:Int)+1) (h2:dv=(dp:Int)) (h3:rv=(q:Int)) (hl:F1.Led S q r M N) (h:SF F bs w (F1.ents S)) (hy:LQ Q w R m d (n*10 ^ 36)) (hx:LQ Q' w A1 n1 c1 x) (hn0:0<n) (hn:n<18446744073709551616) (hxb:x<Gn.B ^ 30) (hb:q<=100000/\r<Gn.B ^ 30/\M<=100000/\N<=100000):
 Calls Tryz.prog 25 #[.pointer (some ⟨bs,0,none⟩),.int .u64 16,.agg #[.int .u64 0,.int .u64 (n:Int),.slice R m d,.bool false,.int .u64 0,.bool false,.int .u64 qv,.slice none 0 0,.slice none 0 0,.slice none 0 0],.agg #[.slice A1 n1 c1,.int .u64 dv,.slice As ns cs]] w fun e w'=>∃R3 m3 d3,e=.returned (.agg #[.slice A1 n1 c1,.int .u64 rv,.slice R3 m3 d3])/\∃F',SF F' bs w' (F1.ents (F1.refer S q))/\Step F F' bs w w'/\LN (fun b=>Off F' bs b/\w.heap.size<=b) w' R3 m3 d3 x:=by
 subst h1 h2 h3
 exact hold_led hl h hy hx hn0 hn hxb hb.1 hb.2.1 hb.2.2.1 hb.2.2.2
theorem pay_v {w0:World} {ng cg q2:Nat} {Ag:Option Addr} {gs:List Nat} (qv rv:Int) (h1:qv=(q:Int)+1) (h2:q2=q+ng) (h3:rv=(q2:Int)+1) (h0:New w0 w) (hF0:∀b,F b->w0.heap.size<=b) (hb0:w0.heap.size<=bs) (hgs:Gs w0 Ag gs) (hlen:gs.length=ng) (hng:ng<=20) (hl:F1.Led S q r M N) (h:SF F bs w (F1.ents S)) (hn0:0<n) (hn:n<18446744073709551616) (hb:q<=1000/\1<=M/\M<=1000/\N<=1000) (hr:r+ng*Gn.B ^ 4<Gn.B ^ 30):
 Calls Tryz.prog 41 #[.pointer (some ⟨bs,0,none⟩),.agg #[.int .u64 0,.int .u64 (n:Int),.slice R m d,.bool false,.int .u64 0,.bool false,.int .u64 qv,.slice none 0 0,.slice none 0 0,.slice none 0 0],.slice Ag ng cg] w fun e w'=>e=.returned (.agg #[.int .u64 0,.int .u64 (n:Int),.slice R m d,.bool false,.int .u64 0,.bool false,.int .u64 rv,.slice none 0 0,.slice none 0 0,.slice none 0 0]) /\
  ∃F' S',SF F' bs w' (F1.ents S')/\Step F F' bs w w'/\F1.Led S' q2 (r+sumq n gs) M (N+2*ng)/\S'.c=S.c/\∀p x,p<=q->F1.Held S q p x->F1.Held S' q2 p x:=by
 subst h1 h2 h3
 exact pay_c h0 hF0 hb0 hgs hlen hng hl h hn0 hn hb.1 hb.2.1 hb.2.2.1 hb.2.2.2 hr
end
end Go.Proofs.YtbhnjkegkadodaaGreatDoor
namespace Go.Proofs.YtbhnjkegkadodaaGreatDoor
open Go Go.RowKit Go.Proofs Gl
theorem cmp_leq {x y:Nat} (h:x<=y):decide (cmpI x y<=(0:Int))=true:=by
 unfold cmpI;split<;>first|rfl|(split<;>first|rfl|omega)
end Go.Proofs.YtbhnjkegkadodaaGreatDoor

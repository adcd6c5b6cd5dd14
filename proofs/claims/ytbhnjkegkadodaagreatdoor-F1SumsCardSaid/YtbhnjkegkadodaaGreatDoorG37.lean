/- Part of the proof. -/
import Derived.Test.YtbhnjkegkadodaaGreatDoorG11
import Derived.Test.YtbhnjkegkadodaaGreatDoorG36
set_option linter.all false
set_option maxRecDepth 100000
set_option maxHeartbeats 8000000
section
open Go.Proofs.YtbhnjkegkadodaaGreatDoor
namespace Gz
open Go Go.RowKit Go.Proofs Gl
theorem ffree_c {F:Nat->Prop} {bs p:Nat} {v0 v2:Value} {w:World} {S:F1.Sta} (hS:Okay S) (hp:p<18446744073709551616) (h:SF F bs w (F1.ents S)) (h0:∃A n c,v0=.slice A n c) (h2:∃A n c,v2=.slice A n c):
 Calls Tryz.prog 42 #[.pointer (some ⟨bs,0,none⟩),.int .u64 16,.agg #[v0,.int .u64 (p:Int),v2]] w (StoR F bs w (F1.ents (F1.free S p))):=by
 obtain⟨A1,n1,c1,rfl⟩:=h0;obtain⟨A2,n2,c2,rfl⟩:=h2;obtain⟨W1,a1⟩:=zE (w.alloc (.cells #[.slice A1 n1 c1,.int .u64 (p:Int),.slice A2 n2 c2] 55));have a2:New w W1:=by rw[a1];exact zU _ _ _
 have b1:=zX w (.cells #[.slice A1 n1 c1,.int .u64 (p:Int),.slice A2 n2 c2] 55);rw[<-a1]at b1;have x1:=zaa b1 1 _ rfl;have hf:=free_c hS hp (h.new a2);obtain⟨L,hL⟩:=zE (F1.ents (F1.free S p));rw[<-hL]at hf ⊢;have HF:=zqH hf;have HN:=zqH a2;clear hf a2 b1 hL h hS hp;go_enter Tryz.func42,Tryz.ntmps42
 go_upto_region 1 with fail
 rw[<-a1];clear a1
 go_wp2_with (go_at_call 80;refine HF.out.mono ?_;rintro e w2 ⟨rfl,F',a3,st⟩;have H2:=zqH (zN a3 st);clear HF a3 st)
 go_end0
 exact⟨by simp,F',H2.out.1,(Step.of_new HN.out).trans H2.out.2⟩
end Gz
end
section
open Go.Proofs.YtbhnjkegkadodaaGreatDoor
namespace Gz
open Go Go.RowKit Go.Proofs Gl
section
variable {F:Nat->Prop} {bs q r M N n x m d dp:Nat} {R A1 As:Option Addr} {n1 c1 ns cs:Nat} {S:F1.Sta} {w:World}
theorem LN.po_hold {W W':World} {F0 F':Nat->Prop} {L:List Ent} {own:List Blk} (hl:LN (fun b=>Off F' bs b/\W.heap.size<=b) W' R m d x) (h:LG w F0 F bs L own W):LN (PO F' bs own) W' R m d x:=
 hl.mono (fun b _ hq=>⟨hq.1,fun y hy e=>by have:=h.lt hy;have:=hq.2;omega⟩)
end
end Gz
end
section
open Go.Proofs.YtbhnjkegkadodaaGreatDoor
namespace Gz
open Go Go.RowKit Go.Proofs Gl
theorem Giv.new {w w':World} {Ag:Option Addr} {ng:Nat} (h:Giv w Ag ng) (hn:New w w'):Giv w' Ag ng:=fun j hj=>by
 obtain⟨b,off,A,n,c,e,hc,hl⟩:=h j hj;exact⟨b,off,A,n,c,e,(hn.cell (a:=⟨b,off+j,none⟩) (zqB w _ hc) id).trans hc,fun h4=>let ⟨g,hg⟩:=hl h4;⟨g,(hg.new hn).mono (fun b _ hb=>zqL hb hn.size)⟩⟩
theorem start_led {F:Nat->Prop} {bs n m d:Nat} {R:Option Addr} {w:World} (h:SF F bs w []):
 Calls Tryz.prog 13 #[.pointer (some ⟨bs,0,none⟩),.int .u64 16,.agg #[.int .u64 0,.int .u64 (n:Int),.slice R m d,.bool false,.int .u64 0,.bool false,.int .u64 0,.slice none 0 0,.slice none 0 0,.slice none 0 0]] w (StartR F bs w (F1.ents (F1.refer ⟨[],[]⟩ 0)) (.agg #[.int .u64 0,.int .u64 (n:Int),.slice R m d,.bool false,.int .u64 0,.bool false,.int .u64 1,.slice none 0 0,.slice none 0 0,.slice none 0 0])):=
 start_c (S:=⟨[],[]⟩) ⟨0,n,R,m,d,false,0,false,0,none,0,0,none,0,0,none,0,0⟩ ⟨⟨fun x hx=>(by cases hx),fun x hx=>(by cases hx)⟩,fun x hx=>(by cases hx),(by simp)⟩ h (by decide)
end Gz
end
section
open Go.Proofs.YtbhnjkegkadodaaGreatDoor
namespace Gz
open Go Go.RowKit Go.Proofs Gl
open List renaming getElem_toArray->gD,getElem_cons_succ->gE,getElem_cons_zero->gZ
theorem info55r:(Tryz.prog.info? 55).map (fun i=>(i.zero,i.size,i.bytes))=some (some (.agg #[.slice none 0 0,.int .u64 0,.slice none 0 0]),3,56):=by kernel_rfl
theorem info4r:(Tryz.prog.info? 4).map (fun i=>(i.zero,i.size,i.bytes))=some (some (.bool false),1,1):=by kernel_rfl
def dc0:Array Value:=#[.slice none 0 0,.int .u64 0,.slice none 0 0,.slice none 0 0,.int .u64 0,.slice none 0 0,.slice none 0 0,.int .u64 0,.slice none 0 0,.slice none 0 0,.int .u64 0,.slice none 0 0]
theorem make41 (w:World):(Instr.makeSlice 41 (.int .i64 4) (.int .i64 4)).run Tryz.prog w=.ok (.slice (some ⟨w.heap.size,0,none⟩) 4 4) (w.alloc (.cells dc0 55)):=by
 obtain⟨i0,a1,a2,a3,a4⟩:=info_parts info55r;have hr:=run_make (P:=Tryz.prog) w 41 55 i0 _ Tryz.underlying41 a1 a2 .i64 .i64 4 4 (by omega) (by omega) (by rw[a4];omega) (by omega);rw[hr,a3];have e:madeCells (Value.agg #[.slice none 0 0,.int .u64 0,.slice none 0 0]).cells (Int.toNat 4*3)=dc0:=by kernel_rfl
 rw[e];rfl
theorem make75 (w:World):(Instr.makeSlice 75 (.int .i64 4) (.int .i64 4)).run Tryz.prog w=.ok (.slice (some ⟨w.heap.size,0,none⟩) 4 4) (w.alloc (.cells #[.bool false,.bool false,.bool false,.bool false] 4)):=by
 obtain⟨i0,a1,a2,a3,a4⟩:=info_parts info4r;have hr:=run_make (P:=Tryz.prog) w 75 4 i0 _ Tryz.underlying75 a1 a2 .i64 .i64 4 4 (by omega) (by omega) (by rw[a4];omega) (by omega);rw[hr,a3];have e:madeCells (Value.bool false).cells (Int.toNat 4*1)=#[.bool false,.bool false,.bool false,.bool false]:=by kernel_rfl
 rw[e];rfl
structure Beg (w:World) (DC xs:Array Value) (F:Nat->Prop) (bs bx bd bh:Nat) (W:World):Prop where
 nw:New w W
 sf:SF F bs W []
 fg:∀b,F b->w.heap.size<=b
 bg:w.heap.size<=bs/\w.heap.size<=bx/\w.heap.size<=bd/\w.heap.size<=bh
 off:¬F bx/\¬F bd/\¬F bh
 nd:bs≠bx/\bs≠bd/\bs≠bh/\bx≠bd/\bx≠bh/\bd≠bh
 xb:W.heap[bx]?=some (.cells xs 77 (0,0))
 db:W.heap[bd]?=some (.cells DC 55 (0,0))
 hb:W.heap[bh]?=some (.cells #[.bool false,.bool false,.bool false,.bool false] 4 (0,0))
theorem al_at (w:World) (o:Obj) (b:Nat):(w.alloc o).heap[b]?=if b=w.heap.size then some o else w.heap[b]?:=by
 simp only[World.alloc,Array.getElem?_push]
theorem dr_at (w:World) (b:Nat):w.drew.heap[b]?=w.heap[b]?:=rfl
theorem zak (w:World):w.drew.heap.size=w.heap.size:=rfl
theorem al_new (w:World) (o:Obj):(w.alloc o).heap[w.heap.size]?=some o:=by rw[al_at,if_pos rfl]
theorem beg_of {w wa w3 W:World} {DC xs:Array Value} {F:Nat->Prop} {bs bx bd bh:Nat} (h0:New w wa) (h3:SF F bs w3 []/\New wa w3/\(∀b,F b->wa.heap.size<=b)/\wa.heap.size<=bs) (hW:New w3 W)
 (hx:W.heap[bx]?=some (.cells xs 77 (0,0))) (hd:W.heap[bd]?=some (.cells DC 55 (0,0))) (hh:W.heap[bh]?=some (.cells #[.bool false,.bool false,.bool false,.bool false] 4 (0,0)))
 (ed:(w.heap.size<=bd/\bd<wa.heap.size)\/w3.heap.size<=bd) (eh:(w.heap.size<=bh/\bh<wa.heap.size)\/w3.heap.size<=bh) (ex:w3.heap.size<=bx) (ne:bx≠bd/\bx≠bh/\bd≠bh):Beg w DC xs F bs bx bd bh W:=by
 obtain⟨h1,h2,h4,h5⟩:=h3;have s1:=h0.size;have s2:=h2.size;have s3:=hW.size;have hb:=h1.bs_lt;have ho:∀b,(w.heap.size<=b/\b<wa.heap.size)\/w3.heap.size<=b->¬F b/\bs≠b/\w.heap.size<=b:=fun b h=>by
  rcases h with h|h
  · exact⟨fun hf=>by have:=h4 b hf;omega,by omega,h.1⟩
  · exact⟨(h1.off_new h).1,by omega,by omega⟩
 have o1:=ho bd ed;have o2:=ho bh eh;have o3:=ho bx (.inr ex);exact⟨(h0.trans h2).trans hW,h1.new hW,fun b hb=>by have:=h4 b hb;omega,⟨by omega,o3.2.2,o1.2.2,o2.2.2⟩,⟨o3.1,o1.1,o2.1⟩,⟨o3.2.1,o1.2.1,o2.2.1,ne.1,ne.2.1,ne.2.2⟩,hx,hd,hh⟩
def xs0 (bs bd bh:Nat):Array Value:=#[.pointer (some ⟨bs,0,none⟩),.int .u64 0,.int .u64 0,.slice none 0 0,.bool false,.int .u64 0,.bool false,.int .u64 0,.slice none 0 0,.slice none 0 0,.slice none 0 0,.slice (some ⟨bd,0,none⟩) 4 4,.slice (some ⟨bh,0,none⟩) 4 4,.int .i64 0,.slice none 0 0,.slice none 0 0,.slice none 0 0]
def rl0 (R:Option Addr) (m d:Nat) (E:Option Addr) (me de:Nat):RL:=⟨R,m,d,none,0,0,none,0,0,E,me,de,none,0,0,dc0⟩
def del0:F1.Del:=⟨false,0,0,0⟩
def rn0 (n f:Nat):F1.Rn:=⟨n,n,0,0,0,f,0,fun _=>0,[del0,del0,del0,del0],[]⟩
theorem setx0 {w:World} {bs bx bd bh n:Nat} {R:Option Addr} {m d:Nat} (h:w.heap[bx]?=some (.cells (xs0 bs bd bh) 77 (0,0))):
 w.there bx 1 10/\(w.setCells bx 1 (xv (rl0 R m d none 0 0) n 0)).heap[bx]?=some (.cells (xc bs bd bh (rl0 R m d none 0 0) n 0 0) 77 (0,0))/\Upd (fun b=>b=bx) w (w.setCells bx 1 (xv (rl0 R m d none 0 0) n 0)):=by
 refine⟨there_row h (by simp[xs0]),?_,Upd.setCells (S:=fun b=>b=bx) rfl _ _ _⟩;rw[zan _ _ h,Ex.withObj_heap _ _ _ _ (zqA.1 h).1,if_pos rfl];have e2:Ex.splice (xs0 bs bd bh) 1 (xv (rl0 R m d none 0 0) n 0)=xc bs bd bh (rl0 R m d none 0 0) n 0 0:=by
  simp only[xs0,rl0,xc,xv,Ex.splice,List.setIfInBounds_toArray,List.cons_append,List.nil_append,List.set_cons_zero,List.set_cons_succ,Nat.reduceAdd]
  rfl
 rw[e2]
theorem Beg.new {w W W':World} {DC xs:Array Value} {F:Nat->Prop} {bs bx bd bh:Nat} (h:Beg w DC xs F bs bx bd bh W) (hn:New W W'):Beg w DC xs F bs bx bd bh W':=
 ⟨h.nw.trans hn,h.sf.new hn,h.fg,h.bg,h.off,h.nd,(hn.block _ (zqA.1 h.xb).1 id).trans h.xb,(hn.block _ (zqA.1 h.db).1 id).trans h.db,(hn.block _ (zqA.1 h.hb).1 id).trans h.hb⟩
theorem Beg.ln {w W W1:World} {DC xs:Array Value} {F:Nat->Prop} {bs bx bd bh m d y:Nat} {R:Option Addr} (h:Beg w DC xs F bs bx bd bh W) (hl:LN (NB W) W1 R m d y):LN (OR F bs bx bd bh) W1 R m d y:=
 hl.mono (fun b _ hb=>by
  have hb:W.heap.size<=b:=hb;have lt1:=(zqA.1 h.xb).1;have lt2:=(zqA.1 h.db).1;have lt3:=(zqA.1 h.hb).1;exact⟨h.sf.off_new hb,by omega,by omega,by omega⟩)
theorem ra0 {w W W':World} {F F':Nat->Prop} {bs bx bd bh n:Nat} {R:Option Addr} {m d:Nat} (h:Beg w dc0 (xs0 bs bd bh) F bs bx bd bh W) (st:Step F F' bs W W') (hs:SF F' bs W' (F1.ents (F1.refer ⟨[],[]⟩ 0))) (hl:LN (OR F bs bx bd bh) W R m d (n*10 ^ 36))
 {W2:World} (hx:W2.heap[bx]?=some (.cells (xc bs bd bh (rl0 R m d none 0 0) n 0 0) 77 (0,0))) (hu:Upd (fun b=>b=bx) W' W2):
 RA w F' bs bx bd bh (F1.refer ⟨[],[]⟩ 0) (rn0 n 0) (rl0 R m d none 0 0) W2:=by
 have a3:=(zqA.1 h.xb).1;have a1:=(zqA.1 h.db).1;have a2:=(zqA.1 h.hb).1;have a7:=h.sf.bs_lt;have hb:∀b,b<W.heap.size->¬F b->¬F' b:=fun b hb hf hf'=>(st.sub b hf').elim hf (fun h=>by omega);have ho:=hb _ a3 h.off.1;have a4:LN (OR F' bs bx bd bh) W2 R m d (n*10 ^ 36):=(hl.or_step st).or_own hu (fun b h=>.inl h);refine⟨(h.nw.then st.upd (fun b hb hh=>hh.elim (fun hf=>by have:=h.fg b hf;omega) (fun e=>by have:=h.bg.1;omega))).then hu (fun b hb e=>by have:=h.bg.2.1;omega),hs.upd_off hu (fun b hb e=>ho (e▸hb)) h.nd.1,
  fun b hb=>(st.sub b hb).elim (h.fg b) (fun hh=>zT h.nw.size hh),h.bg,⟨ho,hb _ a1 h.off.2.1,hb _ a2 h.off.2.2⟩,h.nd,hx,
  (hu.block _ (zqL a1 st.upd.size) (Ne.symm h.nd.2.2.2.1)).trans ((st.block a1 h.off.2.1 (Ne.symm h.nd.2.1)).trans h.db),
  (hu.block _ (zqL a2 st.upd.size) (Ne.symm h.nd.2.2.2.2.1)).trans ((st.block a2 h.off.2.2 (Ne.symm h.nd.2.2.1)).trans h.hb),
  a4,LN.nil _ _,LN.nil _ _,LN.nil _ _,LN.nil _ _,rfl,rfl,fun i d hd=>?_⟩
 have hi:i<4:=(List.getElem?_eq_some_iff.1 hd).1;have a5:d=del0:=by
  rcases i with _|_|_|_|_<;>simp[rn0]at hd<;>first|exact hd.symm|omega
 subst a5;refine⟨none,0,0,none,0,0,?_,?_,?_,fun h=>by cases h⟩<;>(rcases i with _|_|_|_|_<;>first|rfl|omega)
theorem begun_c {w:World} {tok:Nat} (ht:tok<18446744073709551616):
 Calls Tryz.prog 32 #[.int .u64 (tok:Int)] w fun e w'=>∃bs bx bd bh F R m d E me de,e=.returned (.pointer (some ⟨bx,0,none⟩))/\RA w F bs bx bd bh (F1.refer ⟨[],[]⟩ 0) (rn0 (1+tok % 1000000) ((1+tok % 1000000)*10 ^ 36)) (rl0 R m d E me de) w':=by
 have c6:=make41;have e2:=make75
 generalize hdc:dc0=DC at c6;go_enter Tryz.func32,Tryz.ntmps32
 go_upto_region 1 with fail
 go_cut [3] (fun s3 wx=>∃bx:Nat,s3=.pointer (some ⟨bx,0,none⟩)/\Hid (∃(bs bd bh:Nat) (F:Nat->Prop),Beg w DC (xs0 bs bd bh) F bs bx bd bh wx))
 case first=>
  go_region_with (first
   | (go_at_call 12;refine knew_f.mono ?_;rintro e w3 ⟨bs,F,rfl,a8,a9,d9,b0⟩;have H3:=zqH (zN a8 (zN a9 (zN d9 b0)));clear a8 a9 d9 b0))
  all_goals (try simp only[Act.put,zqP,List.getElem_toArray,List.getElem_cons_succ,List.getElem_cons_zero])
  all_goals go_wp2
  all_goals go_meet
  all_goals
   have hz:=H3.out.2.1.size;(try simp only[zab,zak]at hz);refine⟨_,rfl,zqH ⟨bs,_,_,F,beg_of (DC:=DC) ?n0 H3.out ?nW ((al_at _ _ _).trans ((if_pos (by first|rfl|(first|omega|(simp only[zab,zak];done)|(simp only[zab,zak];omega)))).trans rfl)) ?hd ?hh ?ed ?eh ?ex ?ne⟩⟩
   case n0=>repeat' first|exact Upd.refl _ _|refine Upd.drew ?_|refine Upd.trans ?_ (zU _ _ _)
   case nW=>repeat' first|exact Upd.refl _ _|refine Upd.trans ?_ (zU _ _ _)
   case hd|hh=>(repeat first|rw[dr_at]|rw[al_at,if_pos (by first|rfl|(first|omega|(simp only[zab,zak];done)|(simp only[zab,zak];omega)))]|rw[al_at,if_neg (by(first|omega|(simp only[zab,zak];done)|(simp only[zab,zak];omega)))]|refine(H3.out.2.1.block _ (by(first|omega|(simp only[zab,zak];done)|(simp only[zab,zak];omega))) id).trans ?_)
   case ed|eh=>first|exact .inr (by(first|omega|(simp only[zab,zak];done)|(simp only[zab,zak];omega)))|exact .inl ⟨by(first|omega|(simp only[zab,zak];done)|(simp only[zab,zak];omega)),by(first|omega|(simp only[zab,zak];done)|(simp only[zab,zak];omega))⟩
   case ex=>(first|omega|(simp only[zab,zak];done)|(simp only[zab,zak];omega))
   case ne=>exact⟨by(first|omega|(simp only[zab,zak];done)|(simp only[zab,zak];omega)),by(first|omega|(simp only[zab,zak];done)|(simp only[zab,zak];omega)),by(first|omega|(simp only[zab,zak];done)|(simp only[zab,zak];omega))⟩
 case rest=>
  obtain⟨bx,rfl,HB⟩:=hcut;subst hdc;obtain⟨bs,bd,bh,F,hb⟩:=HB.out;have a4:=zqH hb;clear hb HB c6 e2;obtain⟨n,hn⟩:=zE (1+tok % 1000000);have a6:n<18446744073709551616:=by have:=Nat.mod_lt tok (show 0<1000000 by decide);omega
  have d0:1+(tok:Int) % 1000000=(n:Int):=by rw[hn];omega
  have d5:=zqH d0;have a7:=zqH a6;have e4:=zqH hn;clear d0 a6 hn
  go_upto_region 3 with fail
  rw[d5.out];clear d5;refine beginM 12 (fun w'=>w'.heap[bx]?=some (.cells (xs0 bs bd bh) 77 (0,0))) (by kernel_rfl) (fun hcl=>?_);refine takeP (b:=?a1) [(0,zqQ bx 0),(1,zqQ bx 0),(2,zqQ bx 0),(3,zqQ bx 0),(4,zqQ bs 0),(5,.int .u64 (n:Int)),(6,.int .u64 (n:Int))] hcl a4.out.xb (fun w' hk=>?hy) (fun q2=>?_)
  case hy=>
   have c0:=zaa hk 0 (.pointer (some ⟨bs,0,none⟩)) rfl
   iterate 7 (refine RunsM.cons rfl rfl (by go_simp) ?_;simp only[Act.put,gD,gE,gZ,gA,gB,gC])
   exact rfl
  refine oneP 7 rfl q2 (fun K hK=>?_);go_simp;refine(of_c n a7.out).mono ?_
  rintro e W1 ⟨R,m,d,rfl,hr,hn⟩;have a1:=zqH (a4.out.new ((Upd.refl _ wc).drew.trans hn));have HR:=zqH ((a4.out.new (Upd.refl _ wc).drew).ln hr);refine hK _ _ (fun _=>a1.out.xb) (fun q3=>?_);clear hr hn hK K q2 hcl a4;refine pureP (b:=?a2) [(8,.agg #[.int .u64 0,.int .u64 (n:Int),.slice R m d,.bool false,.int .u64 0,.bool false,.int .u64 0,.slice none 0 0,.slice none 0 0,.slice none 0 0])] q3 a1.out.xb (fun w'=>?hy) (fun q4=>?_)
  case hy=>
   refine RunsM.cons rfl rfl (by go_simp) ?_
   simp only[Act.put,gD,gE,gZ,gA,gB,gC];exact rfl
  refine oneP 9 rfl q4 (fun K hK=>?_);go_simp;refine(start_led a1.out.sf).mono ?_
  rintro e W2 ⟨rfl,F',h2,st⟩;have b5:=(st.block (zqA.1 a1.out.xb).1 a1.out.off.1 (Ne.symm a1.out.nd.1)).trans a1.out.xb;have b6:=zqH b5;have T:=zqH (setx0 (n:=n) (R:=R) (m:=m) (d:=d) b5);have a3:=zqH (ra0 a1.out st h2 HR.out T.out.2.1 T.out.2.2);refine hK _ _ (fun _=>b6.out) (fun q5=>?_);clear hK K q4 q3 h2 st b5 HR a1;refine pureP (b:=?a3) [(10,zqQ bx 0),(11,zqQ bx 1)] q5 b6.out (fun w'=>?hy) (fun q6=>?_)
  case hy=>
   iterate 2 (refine RunsM.cons rfl rfl (by go_simp) ?_;simp only[Act.put,gD,gE,gZ,gA,gB,gC])
   exact rfl
  refine oneP 12 rfl q6 (fun K hK=>?_);refine wp_store_mid 28 (.tmp 24) (.tmp 22) rfl bx 1 (xv (rl0 R m d none 0 0) n 0).toArray rfl rfl T.out.1 (by kernel_rfl) (by simp[xv,Value.oneCell']) ?_
  have eV:(xv (rl0 R m d none 0 0) n 0).toArray.toList=xv (rl0 R m d none 0 0) n 0:=rfl;rw[eV];obtain⟨W3,d7⟩:=zE (W2.setCells bx 1 (xv (rl0 R m d none 0 0) n 0));rw[<-d7]at a3 ⊢;refine hK _ _ (offM (by kernel_rfl)) (fun q7=>?_);clear q6 q5 hK K d7 T b6;refine doneM (by kernel_rfl) ?_ _
  go_upto_region 4 with fail
  have k3:=a3.out.xb;have b7:=zaa k3 15 (.slice none 0 0) rfl;have b8:=zad k3 15;have f3:=zqH k3;clear k3 b7 b8
  go_upto_region 5 with(go_at_call 24;refine(of_c n a7.out).mono ?_;rintro e W4 ⟨E,me,de,rfl,hr,hn⟩;have a2:=zqH (a3.out.new hn);have d6:=zqH (hr.or_of a3.out);have b7:=zaa a2.out.xb 15 (.slice none 0 0) rfl;have b8:=zad a2.out.xb 15;clear hr hn)
  have b9:=zac a2.out.xb (.slice E me de) (i:=15);have c5:Upd (fun b=>b=bx) W4 (W4.setCell ⟨bx,15,none⟩ (.slice E me de)):=Upd.setCell (S:=fun b=>b=bx) W4 _ rfl;have e5:(xc bs bd bh (rl0 R m d none 0 0) n 0 0).setIfInBounds 15 (.slice E me de)=xc bs bd bh (rl0 R m d E me de) n 0 0:=by
   simp only[rl0,xc,xv,List.setIfInBounds_toArray,List.cons_append,List.nil_append,List.set_cons_zero,List.set_cons_succ]
  obtain⟨W5,d8⟩:=zE (W4.setCell ⟨bx,15,none⟩ (.slice E me de));rw[<-d8]at b9 c5 ⊢;have HF:=zqH (a2.out.setx (x':=rn0 n (n*10 ^ 36)) (l':=rl0 R m d E me de) c5 (b9.trans (by rw[show(rn0 n 0).n=n from rfl];exact congrArg (fun z=>some (Obj.cells z 77 (0,0))) e5)) rfl rfl a2.out.lr a2.out.lc a2.out.lg d6.out a2.out.la);clear b9 c5 e5 d8 b7 b8 a2 d6 a3;go_wp2;go_ret;refine⟨bs,bx,bd,bh,F',R,m,d,E,me,de,rfl,?_⟩;rw[<-e4.out];exact HF.out
end Gz
end
section
open Go.Proofs.YtbhnjkegkadodaaGreatDoor
namespace Gz
open Go Go.RowKit Go.Proofs Gl
structure StpV where
 wh:Int
 at_:Int
 n:Nat
 d:Nat
def StpAt (w:World) (A:Option Addr) (j:Nat) (s:StpV) (D:Option Addr) (m c:Nat):Prop:=∃b off,A=some ⟨b,off,none⟩/\w.cell? ⟨b,off+j*4,none⟩=some (.int .i64 s.wh)/\w.cell? ⟨b,off+j*4+1,none⟩=some (.int .i64 s.at_)/\w.cell? ⟨b,off+j*4+2,none⟩=some (.int .u64 (s.n:Int))/\w.cell? ⟨b,off+j*4+3,none⟩=some (.slice D m c)/\(-9223372036854775808<=s.wh/\s.wh<=9223372036854775807)/\(-9223372036854775808<=s.at_/\s.at_<=9223372036854775807)/\s.n<18446744073709551616
def Stp (w:World) (A:Option Addr) (n:Nat):Prop:=∀j,j<n->∃(s:StpV) (D:Option Addr) (m c:Nat),StpAt w A j s D m c/\(m<=6->LQ (fun x=>x<w.heap.size) w D m c s.d)
def Stps (w:World) (A:Option Addr) (L:List StpV):Prop:=∀(j:Nat) (s:StpV),L[j]?=some s->∃D m c,StpAt w A j s D m c/\m<=6/\LQ (fun x=>x<w.heap.size) w D m c s.d
theorem stps_of {w:World} {A:Option Addr}:∀ {n:Nat},(∀j,j<n->∃(s:StpV) (D:Option Addr) (m c:Nat),StpAt w A j s D m c/\m<=6/\LQ (fun x=>x<w.heap.size) w D m c s.d)->∃L:List StpV,L.length=n/\Stps w A L
 | 0,_=>⟨[],rfl,fun j g h=>by simp at h⟩
 | n+1,h=>by
   obtain⟨L,hl,hg⟩:=stps_of (n:=n) (fun j hj=>h j (by omega));obtain⟨s,D,m,c,h1,h2,h3⟩:=h n (by omega);refine⟨L ++ [s],by simp[hl],fun j x hx=>?_⟩;rcases Nat.lt_or_ge j L.length with hj|hj
   · rw[List.getElem?_append_left hj]at hx;exact hg j x hx
   · have hj2:j=n:=by
      have:=(List.getElem?_eq_some_iff.1 hx).1;simp at this;omega
     subst hj2;rw[List.getElem?_append_right hj,hl,Nat.sub_self]at hx;cases hx;exact⟨D,m,c,h1,h2,h3⟩
theorem light_c {w:World} {Ag:Option Addr} {ng cg:Nat} (hg:Stp w Ag ng):
 Calls Tryz.prog 10 #[.slice Ag ng cg] w fun e w'=>(∃b,e=.returned (.bool b)/\(b=true↔ng<=100/\∃L:List StpV,L.length=ng/\Stps w Ag L))/\w'=w:=by
 have HG:=zqH hg;clear hg;go_enter Tryz.func10,Tryz.ntmps10;go_wp2
 go_loopw [3] (fun i wr=>∃(j:Nat),j<=ng/\j<=101/\i=.int .i64 (j:Int)/\wr=w/\Hid (∀k,k<j->∃(s:StpV) (D:Option Addr) (m c:Nat),StpAt w Ag k s D m c/\m<=6/\LQ (fun x=>x<w.heap.size) w D m c s.d)) (fun i _=>ng-(intOf i).toNat)
 case atStart=>exact⟨0,by omega,by omega,rfl,rfl,zqH (fun k hk=>by omega)⟩
 case round=>
  obtain⟨j,hj,b5,rfl,rfl,hI⟩:=hrel;by_cases hjn:j<ng
  · by_cases hj3:j<=100
    · obtain⟨s,D,m,c,hs,a1⟩:=HG.out j hjn;have HS:=zqH hs;obtain⟨b,off,rfl,_,_,_,hc,_⟩:=hs;by_cases h4:m<=6
      · have a1:=a1 h4;have HN:=zqH (show ∀k,k<j+1->∃(s:StpV) (D:Option Addr) (m c:Nat),StpAt wr (some ⟨b,off,none⟩) k s D m c/\m<=6/\LQ (fun x=>x<wr.heap.size) wr D m c s.d from fun k hk=>by
         rcases Nat.lt_or_ge k j with h|h
         · exact hI.out k h
         · have:k=j:=(by omega);subst this;exact⟨s,D,m,c,HS.out,h4,a1⟩)
        clear a1 hI HS;go_wp2;exact⟨⟨j+1,by omega,by omega,by congr 1,by trivial,HN⟩,by simp[intOf];omega⟩
      · clear a1;go_wp2;go_ret;refine⟨⟨false,by simp,fun h=>(by cases h),fun⟨_,L,hl,hg⟩=>?_⟩,rfl⟩;obtain⟨D',m',c',⟨b',a8,e,_,_,_,a4,_⟩,a5,_⟩:=hg j _ (zG (by omega));cases e;have a2:=hc.symm.trans a4;simp only[Option.some.injEq,Value.slice.injEq]at a2;exact absurd (a2.2.1▸a5) h4
    · go_wp2
      go_ret
      exact⟨⟨_,rfl,by simp;omega⟩,rfl⟩
  · obtain rfl:j=ng:=(by omega);go_wp2;go_ret;refine⟨⟨_,rfl,fun hb=>?_,fun⟨h,_⟩=>by simp;omega⟩,rfl⟩;have hb:(j:Int)<=100:=(by simpa using hb);exact⟨by omega,stps_of hI.out⟩
theorem place4_c {w:World} {x:Int} (h1:-9223372036854775808<=x) (h2:x<=9223372036854775807):
 Calls Tryz.prog 18 #[.int .i64 x,.int .i64 4] w fun e w'=>∃i:Nat,i<4/\e=.returned (.int .i64 (i:Int))/\w'=w:=by
 have a1:-4<x.tmod 4:=by have:=Int.lt_tmod_of_pos x (show(0:Int)<4 by decide);omega
 have a2:x.tmod 4<4:=Int.tmod_lt_of_pos x (by decide);obtain⟨y,hy⟩:=zE (x.tmod 4);rw[<-hy]at a1 a2;go_enter Tryz.func18,Tryz.ntmps18;have HY:=zqH hy
 go_upto_region 2 with fail
 rw[<-HY.out];clear hy;by_cases hn:y<0
 · go_wp2
   go_ret
   refine⟨(y+4).toNat,by omega,?_,rfl⟩;have e:((y+4).toNat:Int)=y+4:=by omega
   rw[e];rfl
 · go_wp2
   go_ret
   exact⟨y.toNat,by omega,by rw[show(y.toNat:Int)=y by omega];rfl,rfl⟩
end Gz
end
section
open Go.Proofs.YtbhnjkegkadodaaGreatDoor
namespace Gz
open Go Go.RowKit Go.Proofs Gl
open List renaming getElem_toArray->gD,getElem_cons_succ->gE,getElem_cons_zero->gZ
theorem does_give {w0 W:World} {F:Nat->Prop} {bs bx bd bh:Nat} {S:F1.Sta} {x:F1.Rn} {l:RL} {s:StpV} {D:Option Addr} {m c:Nat} (h:RA w0 F bs bx bd bh S x l W) (hg:x.giv<Gn.B ^ 20) (hc:x.cur<Gn.B ^ 20)
 (hwh:s.wh=0\/s.wh=1\/s.wh=2) (hat:-9223372036854775808<=s.at_/\s.at_<=9223372036854775807) (hn:s.n<18446744073709551616) (hd:LQ (fun b=>b<W.heap.size) W D m c s.d):
 Calls Tryz.prog 33 #[.pointer (some ⟨bx,0,none⟩),.agg #[.int .i64 s.wh,.int .i64 s.at_,.int .u64 (s.n:Int),.slice D m c]] W (RunR w0 F bs bx bd bh S (x.giv' (s.d % 10 ^ 36*(1+s.n % 1000))) W):=by
 have g1:∀Wx:World,_:=fun Wx=>place4_c (w:=Wx) hat.1 hat.2;have g2:=zqH g1;have H:=zqH h;have HD:=zqH hd;have HB:=zqH (zN hg hc);have HN:=zqH hn;obtain⟨wh,at_,nn,d⟩:=s;simp only at hwh;clear g1 h hd hg hc hat hn;go_enter Tryz.func33,Tryz.ntmps33
 go_upto_region 2 with(go_at_call 18;refine(g2.out _).mono ?_;rintro e W2 ⟨pi,o5,rfl,rfl⟩)
 go_upto_region 3 with fail
 obtain⟨WA,d0⟩:=zE (W.alloc (.cells #[.int .i64 wh,.int .i64 at_,.int .u64 (nn:Int),.slice D m c] 48));rw[<-d0];have hn:New W WA:=by rw[d0];exact zU _ _ _
 have hb:=zX W (.cells #[.int .i64 wh,.int .i64 at_,.int .u64 (nn:Int),.slice D m c] 48);rw[<-d0]at hb;have j8:=zqH hn.size;have HA:=zqH (H.out.new hn);have g3:=zqH hn;have a6:=zqH hb;have g4:=zqH (HD.out.new hn);clear d0 hn hb HD g2
 go_upto_if 16 with fail
 go_cut [16] (fun s16 wx=>s16=.bool true/\wx=WA)
 case first=>
  rcases hwh with rfl|rfl|rfl
  all_goals
   go_wp2
   go_meet
   exact⟨by simp,rfl⟩
 case rest=>
  obtain⟨rfl,rfl⟩:=hcut;have e0:=zaa a6.out 0 _ rfl;have e2:=zaa a6.out 2 _ rfl;have e3:=zaa a6.out 3 _ rfl
  go_upto_region 7 with(go_at_call 86;refine(trunc_c g4.out).mono ?_;rintro e W1 ⟨R1,m1,d1,R2,m2,d2,rfl,_,i1,i3⟩;have g5:=zqH i1;have e5:=zqH i3;clear i1 i3)
  obtain⟨WB,b5⟩:=zE (W1.alloc (.cells #[.slice R2 m2 d2] 26));rw[<-b5];have a9:=zX W1 (.cells #[.slice R2 m2 d2] 26);have nB:New wc WB:=by rw[b5];exact e5.out.trans (zU _ _ _)
  have g6:New W1 WB:=by rw[b5];exact zU _ _ _
  rw[<-b5]at a9;obtain⟨b6,b7⟩:=zE W1.heap.size;rw[<-b7]at a9 ⊢;have d5:wc.heap.size<=b6:=by rw[b7];exact e5.out.size
  have e6:=(nB.block _ (zqA.1 a6.out).1 id).trans a6.out;have b9:=zqH a9;have g7:=zqH (HA.out.new nB);have g8:=zqH (g3.out.trans nB);have d6:=zqH (g5.out.upd g6 (fun _ _=>id));have j9:=zqH d5;have m8:=zqH e6;have x6:=zaa a9 0 _ rfl;have x2:=zaa e6 2 _ rfl;clear b5 a9 nB g6 b7 d5 e6 HA g3 a6 g4 g5 e5 e0 e2 e3;obtain⟨n,hn⟩:=zE (1+nn % 1000);have g9:1+(nn:Int) % 1000=(n:Int):=by rw[hn];omega
  have e7:n<=1000:=by have:=Nat.mod_lt nn (show 0<1000 by decide);omega
  have hy:d % 10 ^ 36*n<Gn.B ^ 20:=Nat.lt_of_le_of_lt (Nat.mul_le_mul (Nat.le_of_lt (Nat.mod_lt d (by decide))) e7) (by decide);rw[<-hn];have k0:=zqH hn;have k2:=zqH g9;have k3:=zqH e7;have HY:=zqH hy;clear g9 e7 hy hn
  go_upto_region 8 with(go_at_call 40;rw[k2.out];refine(times_c (t:=n) d6.out.lq (by have:=k3.out;omega) (zqL HY.out (@zbe 20 1000 (by omega)))).mono ?_;rintro e W2 ⟨R3,m3,d3,rfl,i4,f9⟩;have h0:=zqH i4;have h1:=zqH f9;have k6:=(f9.block _ (zqA.1 b9.out).1 id).trans b9.out;have y6:=zaa k6 0 _ rfl;have z6:=zad k6 0;clear i4 f9)
  obtain⟨W3,f5⟩:=zE (W2.setCell ⟨b6,0,none⟩ (.slice R3 m3 d3));rw[<-f5];have f0:=zac k6 (.slice R3 m3 d3) (i:=0);have c5:Upd (fun b=>b=b6) W2 (W2.setCell ⟨b6,0,none⟩ (.slice R3 m3 d3)):=Upd.setCell (S:=fun b=>b=b6) W2 _ rfl;rw[<-f5]at f0 c5;have k4:=(zqA.1 b9.out).1;have f2:New W W3:=(g8.out.trans h1.out).then c5 (fun b hb e=>by have:=j9.out;have:=j8.out;omega);have k5:=zqH (show W3.heap[b6]?=some (.cells #[.slice R3 m3 d3] 26 (0,0)) from f0);have a7:=zqH (H.out.new f2);have k8:=zqH f2;have h2:=zqH ((h0.out.upd c5 (fun b hb e=>by have hb:WB.heap.size<=b:=hb;omega)).or_of g7.out);clear f5 f0 c5 k4 f2 k6 y6 z6 h0 h1 g7 d6 g8 b9 H;have h3:=zN a7.out.xb k5.out;have d7:x.cur+d % 10 ^ 36*n<Gn.B ^ 1000/\x.giv+d % 10 ^ 36*n<Gn.B ^ 1000:=by
   have a1:=HB.out.1;have a2:=HB.out.2;have a3:=HY.out;have e:Gn.B ^ 20+Gn.B ^ 20<=Gn.B ^ 30:=by decide
   have e2:=@zbe 30 1000 (by omega);exact⟨zqL (by omega) e2,zqL (by omega) e2⟩
  have d8:=zqH d7;clear d7;have a4:=zqH h3;clear h3;refine beginM 18 (fun w'=>w'.heap[bx]?=some (.cells (xc bs bd bh l x.n x.q x.C.length) 77 (0,0))/\w'.heap[b6]?=some (.cells #[.slice R3 m3 d3] 26 (0,0))) (by kernel_rfl) (fun hcl=>?_);refine pureP (b:=?a1) [(1,zqQ bx 0),(9,zqQ bx 0),(10,zqQ bx 0),(11,zqQ bx 14)] hcl a4.out (fun w'=>?y1) (fun q1=>?_)
  case y1=>
   iterate 4 (refine RunsM.cons rfl rfl (by go_simp) ?_;simp only[Act.put,gD,gE,gZ,gA,gB,gC])
   exact rfl
  refine takeP (b:=?a2) [(0,zqQ bx 0),(2,zqQ bx 0),(3,zqQ bx 0),(4,zqQ bx 1),(5,zqQ bx 8),(6,.agg #[.slice l.C l.mc l.dc]),(7,.agg #[.slice R3 m3 d3]),(12,.agg #[.slice l.G l.mg l.dg])] q1 a4.out (fun w' hk=>?y2) (fun q2=>?_)
  case y2=>
   have c8:=zaa hk.1 8 (.slice l.C l.mc l.dc) rfl;have h4:=zaa hk.1 14 (.slice l.G l.mg l.dg) rfl;have c6:=zaa hk.2 0 _ rfl
   iterate 8 (refine RunsM.cons rfl rfl (by go_simp) ?_;simp only[Act.put,gD,gE,gZ,gA,gB,gC])
   exact rfl
  refine takeD 13 [14,13] (v:=.agg #[.slice R3 m3 d3]) rfl q2 a4.out (fun w' hk=>by have c6:=zaa hk.2 0 _ rfl;go_simp) (fun q3=>?_);simp only[Act.put,gD,gE,gZ,gA,gB,gC];refine oneP 8 rfl q3 (fun K hK=>?_);go_simp;have nd:=(Upd.refl (fun _=>False) W3).drew;refine(dadd_c (w:=W3.drew) ((a7.out.new nd).lc.lq) (h2.out.upd nd (fun _ _ h=>h)).lq (d8.out.1)).mono ?_
  rintro e W4 ⟨Ra,ma,da,rfl,i6,i7⟩;have a5:=zqH (nd.trans i7);have d9:=zqH (i6.or_of (a7.out.new nd));have h5:=(a5.out.block _ (zqA.1 a4.out.1).1 id).trans a4.out.1;have e1:=(a5.out.block _ (zqA.1 a4.out.2).1 id).trans a4.out.2;have a8:=zqH (zN h5 e1);refine hK _ _ (fun _=>a8.out) (fun q4=>?_);clear i6 i7 nd h5 e1 hK K q3 q2 q1 hcl;refine oneP 14 rfl q4 (fun K hK=>?_);go_simp;refine(dadd_c (w:=W4) ((a7.out.new a5.out).lg.lq) (h2.out.upd a5.out (fun _ _ h=>h)).lq (d8.out.2)).mono ?_
  rintro e W5 ⟨Rb,mb,db,rfl,j1,b8⟩;have h6:=zqH (a5.out.trans b8);have h7:=zqH (j1.or_of (a7.out.new a5.out));have h8:=zqH (d9.out.or_own b8 (fun _ h=>h.elim));have h9:=(b8.block _ (zqA.1 a8.out.1).1 id).trans a8.out.1;have e4:=(b8.block _ (zqA.1 a8.out.2).1 id).trans a8.out.2;have b0:=zqH (zN h9 e4);refine hK _ _ (fun _=>b0.out) (fun q5=>?_);clear j1 b8 h9 e4 hK K q4 d9 a8 a5;refine pureP (b:=?a3) [(15,zqQ bx 0),(16,zqQ bx 1),(17,zqQ bx 8)] q5 b0.out (fun w'=>?y4) (fun q6=>?_)
  case y4=>
   iterate 3 (refine RunsM.cons rfl rfl (by go_simp) ?_;simp only[Act.put,gD,gE,gZ,gA,gB,gC])
   exact rfl
  refine oneP 18 rfl q6 (fun K hK=>?_);have c8:=zaa b0.out.1 8 (.slice l.C l.mc l.dc) rfl;have f8:=zad b0.out.1 8;go_simp;refine hK _ _ (offM (by kernel_rfl)) (fun q7=>?_);have k7:=zac b0.out.1 (.slice Ra ma da) (i:=8);have f3:=zqH k7;clear hK K q6 q5 k7 c8 f8;refine pureQ (b:=?a4) [(19,zqQ bx 0),(20,zqQ bx 14)] q7 (fun w'=>?y5) (fun q8=>?_)
  case y5=>
   iterate 2 (refine RunsM.cons rfl rfl (by go_simp) ?_;simp only[Act.put,gD,gE,gZ,gA,gB,gC])
   exact rfl
  refine oneP 21 rfl q8 (fun K hK=>?_);have h4:=zaa f3.out 14 (.slice l.G l.mg l.dg) rfl;have k9:=zad f3.out 14;go_simp;refine hK _ _ (offM (by kernel_rfl)) (fun q9=>?_);have l0:=zqH (zac f3.out (.slice Rb mb db) (i:=14));clear hK K q8 q7 h4 k9;refine doneM (by kernel_rfl) ?_ _;go_wp2;refine bodyPost_end (results_none rfl _ _ _) rfl ?_
  have hu:Upd (fun b=>b=bx) W5 ((W5.setCell ⟨bx,8,none⟩ (.slice Ra ma da)).setCell ⟨bx,14,none⟩ (.slice Rb mb db)):=(Upd.setCell (S:=fun b=>b=bx) W5 _ rfl).trans (Upd.setCell _ _ rfl);have e8:((xc bs bd bh l x.n x.q x.C.length).setIfInBounds 8 (.slice Ra ma da)).setIfInBounds 14 (.slice Rb mb db)=xc bs bd bh { l with C:=Ra,mc:=ma,dc:=da,G:=Rb,mg:=mb,dg:=db } x.n x.q x.C.length:=by
   simp only[xc,xv,List.setIfInBounds_toArray,List.cons_append,List.nil_append,List.set_cons_zero,List.set_cons_succ]
  have i0:=l0.out;rw[e8]at i0;have hr:=a7.out.new h6.out;have hf:=hr.setx (x':=x.giv' (d % 10 ^ 36*n)) (l':={ l with C:=Ra,mc:=ma,dc:=da,G:=Rb,mg:=mb,dg:=db }) hu i0 rfl rfl hr.lr h8.out h7.out hr.le hr.la;have e9:d % 10 ^ 36*n=d % 1000000000000000000000000000000000000*(1+nn % 1000):=by rw[k0.out]
  rw[e9]at hf;exact⟨rfl,F,_,hf,(RS.of_new (k8.out.trans h6.out)).trans (RS.of_own hu (fun b h=>.inl h))⟩
end Gz
end
section
open Go.Proofs.YtbhnjkegkadodaaGreatDoor
namespace Gz
open Go Go.RowKit Go.Proofs Gl
theorem does_close {w0 W:World} {F:Nat->Prop} {bs bx bd bh:Nat} {S:F1.Sta} {x:F1.Rn} {l:RL} {s:StpV} {D:Option Addr} {m c:Nat} (h:RA w0 F bs bx bd bh S x l W) (hb:F1.Bks S x) (hg:F1.Gd x) (hs:F1.Sm x)
 (hwh:s.wh=3\/s.wh=4) (hat:-9223372036854775808<=s.at_/\s.at_<=9223372036854775807):
 Calls Tryz.prog 33 #[.pointer (some ⟨bx,0,none⟩),.agg #[.int .i64 s.wh,.int .i64 s.at_,.int .u64 (s.n:Int),.slice D m c]] W (RunR w0 F bs bx bd bh (F1.close S (x.q+1) x.n x.cur) x.clo W):=by
 have a2:∀Wx:World,_:=fun Wx=>place4_c (w:=Wx) hat.1 hat.2;have a3:∀Wx:World,New W Wx->_:=fun Wx hn=>rclose_c (h.new hn) hb hg hs;have a4:=zqH a2;have a6:=zqH a3;obtain⟨wh,at_,nn,d⟩:=s;simp only at hwh;clear a2 h hb hg hs hat a3;go_enter Tryz.func33,Tryz.ntmps33
 go_upto_region 2 with(go_at_call 18;refine(a4.out _).mono ?_;rintro e W2 ⟨pi,b6,rfl,rfl⟩)
 go_upto_region 3 with fail
 obtain⟨WA,a1⟩:=zE (W.alloc (.cells #[.int .i64 wh,.int .i64 at_,.int .u64 (nn:Int),.slice D m c] 48));rw[<-a1];have hn:New W WA:=by rw[a1];exact zU _ _ _
 have HN:=zqH hn;clear a1 hn a4;rcases hwh with rfl|rfl
 all_goals
  go_wp2_with (go_at_call 87;refine(a6.out WA HN.out).mono ?_;rintro e W2 ⟨rfl,F',l',a7,a8⟩)
  refine bodyPost_end (results_none rfl _ _ _) rfl ?_
  exact⟨rfl,F',l',a7,(RS.of_new HN.out).trans a8⟩
end Gz
end
section
open Go.Proofs.YtbhnjkegkadodaaGreatDoor
namespace Gz
open Go Go.RowKit Go.Proofs Gl
section
variable {w0 W:World} {F:Nat->Prop} {bs bx bd bh:Nat} {S:F1.Sta} {x:F1.Rn} {l:RL} {d:F1.Del}
theorem sh_le (hg:F1.Gd x) (hd:d ∈ x.ds) (ho:d.on=true):d.sh<=1000000*F1.U36:=by
 have h1:=F1.le_tot (fun d:F1.Del=>if d.on then d.sh else 0) hd;simp only[ho,if_true]at h1;have h2:=hg.sum;unfold F1.Rn.shs at h2;exact zT (zT h1 (by omega)) (Nat.mul_le_mul_right _ hg.n3)
theorem f_on (hd:d ∈ x.ds) (ho:d.on=true):0<x.f d.per:=by
 have h1:=F1.le_tot (fun e:F1.Del=>F1.one (e.on && e.per == d.per)) hd;have h2:F1.one (d.on && d.per == d.per)=1:=by rw[ho];simp[F1.one]
 rw[h2]at h1;show 0<_+F1.occ x.ds d.per+_;unfold F1.occ;omega
theorem r19 (h:RA w0 F bs bx bd bh S x l W) (hb:F1.Bks S x) (hg:F1.Gd x) (hs:F1.Sm x) (hd:d ∈ x.ds) (ho:d.on=true) {A B:Option Addr} {n c m e:Nat} (hk:LQ (OR F bs bx bd bh) W B m e d.stk):
 ∃k:Int,Calls Tryz.prog 19 #[.pointer (some ⟨bs,0,none⟩),.int .u64 16,.agg (xv l x.n x.q).toArray,.agg #[.slice A n c,.int .u64 (d.per:Int),.slice B m e]] W (ClaimR F bs W (F1.ents S) (x.cl d) k):=by
 have hq:=hs.q;have hn:x.n<18446744073709551616:=by have:=hg.n2;have:=hg.n3;omega
 have a1:=hg.per d hd ho;have a4:d.stk<=1000000*10 ^ 36:=zT (hg.stk d hd ho) (sh_le hg hd ho);have hh:=hb.bk.his a1 (f_on hd ho);have hC:∀y ∈ S.c.filter (fun y=>decide (d.per<y.1)),y ∈ x.C:=fun y hy=>by rw[<-hb.c];exact(List.mem_filter.1 hy).1
 have a8:(S.c.filter (fun y=>decide (d.per<y.1))).length<=1000:=zT (List.length_filter_le _ _) (by rw[hb.c];exact hs.c);have a2:=F1.run_ok (B:=Gn.B ^ 1000) (Y:=1000000*10 ^ 36) (G:=Gn.B ^ 20) hb hg (Nat.le_of_lt (Nat.lt_of_le_of_lt (zT (Nat.le_add_right _ _) hg.rg) hs.g)) (zqL (show 1000000*10 ^ 36*(1000000*10 ^ 36)<Gn.B ^ 10 by decide) (@zbe 10 1000 (by omega))) (S.c.filter (fun y=>decide (d.per<y.1))) ⟨0,d.stk,(F1.hist S d.per).1,0⟩ hC a4 (by
  have e1:(1000+1)*(1000000*10 ^ 36*Gn.B ^ 20)<Gn.B ^ 30:=by decide
  have e2:=@zbe 30 1000 (by omega);have e3:((S.c.filter (fun y=>decide (d.per<y.1))).length+1)*(1000000*10 ^ 36*Gn.B ^ 20)<=(1000+1)*(1000000*10 ^ 36*Gn.B ^ 20):=Nat.mul_le_mul_right _ (by omega);show 0+_<_;rw[Nat.zero_add];exact Nat.lt_of_le_of_lt e3 (zqL e1 e2))
 have key:=claim_c (F:=F) (bs:=bs) (w:=W) (S:=S) (Ad:=A) (nd:=n) (cd:=c) (dp:=d.per) (As:=B) (ns:=m) (cs:=e) (y:=d.stk) ⟨0,x.n,l.R,l.m,l.d,false,0,false,x.q+1,l.C,l.mc,l.dc,none,0,0,none,0,0⟩ (okay_run hb hg hs) h.sf (hk.mono (fun b _ hq=>hq.1.2)) (Nat.succ_pos _) (show x.q+1<_ by omega) (by omega)
  (fun y hy=>by
    have:=hg.ct y (by rw[<-hb.c];exact hy);have h2:=hg.n3;refine⟨by omega,show y.1<=x.q+1-1 by omega,by omega,by omega⟩) rfl rfl rfl (by rw[show(x.q+1-1)=x.q from Nat.add_sub_cancel ..];exact a2)
 have e1:(S.c.filter (fun y=>decide (d.per<y.1))).foldl (F1.cutS S) ⟨0,d.stk,(F1.hist S d.per).1,0⟩=x.cm d:=by
  rw[F1.fold_eq hb hg _ _ hC,hh,hb.c];rfl
 rw[e1]at key;have e2:(F1.earn S (x.q+1-1) (x.cm d)).x=x.cl d:=by
  unfold F1.earn F1.Rn.cl;rw[Nat.add_sub_cancel,hb.bk.his (zR _) (F1.f_q x)];rfl
 have e3:=congrArg (fun z=>ClaimR F bs W (F1.ents S) z ((x.cm d).k:Int)) e2;exact⟨((x.cm d).k:Int),by rw[<-e2];exact key⟩
theorem r42 (h:SF F bs W (F1.ents S)) (hb:F1.Bks S x) (hg:F1.Gd x) (hs:F1.Sm x) (hd:d ∈ x.ds) (ho:d.on=true) {A B:Option Addr} {n c m e:Nat}:
 Calls Tryz.prog 42 #[.pointer (some ⟨bs,0,none⟩),.int .u64 16,.agg #[.slice A n c,.int .u64 (d.per:Int),.slice B m e]] W (StoR F bs W (F1.ents (F1.free S d.per))):=by
 have hq:=hs.q;have a1:=hg.per d hd ho;exact ffree_c (okay_run hb hg hs) (by omega) h ⟨_,_,_,rfl⟩ ⟨_,_,_,rfl⟩
theorem r25 (h:RA w0 F bs bx bd bh S x l W) (hb:F1.Bks S x) (hg:F1.Gd x) (hs:F1.Sm x) {Q:Nat->Prop} {A:Option Addr} {n c z:Nat} (hz:LQ Q W A n c z) (hz1:z<=1000000*10 ^ 36):
 Calls Tryz.prog 25 #[.pointer (some ⟨bs,0,none⟩),.int .u64 16,.agg (xv l x.n x.q).toArray,.agg #[.slice A n c,.int .u64 0,.slice none 0 0]] W (fun e w'=>∃R3 m3 d3,e=.returned (.agg #[.slice A n c,.int .u64 (x.q:Int),.slice R3 m3 d3])/\∃F',SF F' bs w' (F1.ents (F1.refer S x.q))/\Step F F' bs W w'/\LN (fun b=>Off F' bs b/\W.heap.size<=b) w' R3 m3 d3 (z*(x.n*10 ^ 36) / (x.n0*10 ^ 36))):=by
 have hq:=hs.q;have a1:=hg.n3;have hn:x.n<18446744073709551616:=by have:=hg.n2;omega
 have a2:0<x.n0:=zqL hg.n1 hg.n2;have hh:=hb.bk.his (zR _) (F1.f_q x);have hf:=hs.f_le x.q;have key:=hold_c (F:=F) (bs:=bs) (w:=W) (S:=S) (Ad:=A) (nd:=n) (cd:=c) (dp:=0) (As:=none) (ns:=0) (cs:=0) ⟨0,x.n,l.R,l.m,l.d,false,0,false,x.q+1,l.C,l.mc,l.dc,none,0,0,none,0,0⟩ (okay_run hb hg hs) h.sf h.lr.lq hz (Nat.mul_pos a2 (by decide)) hn
  (by
    have e1:1000000*10 ^ 36*(1000000*10 ^ 36)<Gn.B ^ 10:=(by decide);refine Nat.lt_of_le_of_lt (Nat.mul_le_mul hz1 (Nat.mul_le_mul_right _ (zT hg.n2 a1))) (zqL e1 (@zbe 10 1000 (by omega)))) (Nat.succ_pos _) (show x.q+1<_ by omega) (by
    show(F1.hist S (x.q+1-1)).2+1<_
    rw[Nat.add_sub_cancel,hh];show x.f x.q+1<_;omega)
 exact key
theorem r43 (h:RA w0 F bs bx bd bh S x l W) (hb:F1.Bks S x) (hg:F1.Gd x) (hs:F1.Sm x) {a:Nat} (ha:a<=x.n):
 Calls Tryz.prog 43 #[.pointer (some ⟨bs,0,none⟩),.int .u64 16,.agg (xv l x.n x.q).toArray,.int .u64 (a:Int)] W (StartR F bs W (F1.ents (F1.refer (cutAt S x.q x.n a) x.q)) (.agg (xv l a x.q).toArray)):=by
 have hq:=hs.q;have hn:x.n<18446744073709551616:=by have:=hg.n2;have:=hg.n3;omega
 have hh:=hb.bk.his (zR _) (F1.f_q x);have hf:=hs.f_le x.q;have ho:=okay_run hb hg hs;have a3:=few_run hb hs;have a2:Okay (cutAt S x.q x.n a):=⟨ho.fine.putC (show x.q<_ by omega) x.n a,ho.fit,by
  have:=F1.len_put S.c (x.q,x.n,a);show S.h.length+(F1.putR S.c _).length<=_;omega⟩
 have key:=cut_c (F:=F) (bs:=bs) (w:=W) (S:=S) (a:=a) ⟨0,x.n,l.R,l.m,l.d,false,0,false,x.q+1,l.C,l.mc,l.dc,none,0,0,none,0,0⟩ ho h.sf (Nat.succ_pos _) (show x.q+1<_ by omega) hn (by omega) a2 (by
  show(F1.hist S (x.q+1-1)).2+1<_
  rw[Nat.add_sub_cancel,hh];show x.f x.q+1<_;omega)
 exact key
theorem RA.setr {W':World} {x':F1.Rn} {l':RL} (h:RA w0 F bs bx bd bh S x l W) (hu:Upd (fun b=>b=bx\/b=bd\/b=bh) W W') (hk:W'.heap[bx]?=some (.cells (xc bs bd bh l' x'.n x'.q x'.C.length) 77 (0,0))) (hd:W'.heap[bd]?=some (.cells l'.DC 55 (0,0))) (hh:W'.heap[bh]?=some (.cells ((x'.ds.map fun d=>Value.bool d.on).toArray) 4 (0,0)))
 (h1:LN (OR F bs bx bd bh) W l'.R l'.m l'.d (x'.n0*10 ^ 36)) (h2:LN (OR F bs bx bd bh) W l'.C l'.mc l'.dc x'.cur) (h3:LN (OR F bs bx bd bh) W l'.G l'.mg l'.dg x'.giv) (h4:LN (OR F bs bx bd bh) W l'.E l'.me l'.de x'.fre) (h5:LN (OR F bs bx bd bh) W l'.A l'.ma l'.da x'.all) (h6:DelsAt (OR F bs bx bd bh) W l'.DC x'.ds):RA w0 F bs bx bd bh S x' l' W':=by
 have ho:∀b,b=bx\/b=bd\/b=bh->b=bx\/b=bd\/b=bh:=fun b h=>h;have a3:=h.bg;have a1:=h.off;have a4:=h.nd;exact⟨h.nw.then hu (fun b hb e=>by omega),h.sf.upd_off hu (fun b hb e=>e.elim (fun e=>a1.1 (e▸hb)) (fun e=>e.elim (fun e=>a1.2.1 (e▸hb)) (fun e=>a1.2.2 (e▸hb)))) (by omega),h.fg,h.bg,h.off,h.nd,hk,hd,hh,
  h1.or_own hu ho,h2.or_own hu ho,h3.or_own hu ho,h4.or_own hu ho,h5.or_own hu ho,h6.imp (fun _ _ _ _ hl=>hl.or_own hu ho)⟩
def pl4 (x:Int):Nat:=(if x.tmod 4<0 then x.tmod 4+4 else x.tmod 4).toNat
theorem pl4_lt (x:Int):pl4 x<4:=by
 have a1:-4<x.tmod 4:=by have:=Int.lt_tmod_of_pos x (show(0:Int)<4 by decide);omega
 have a2:x.tmod 4<4:=Int.tmod_lt_of_pos x (by decide);unfold pl4;split<;>omega
theorem place4_d {w:World} {x:Int} (h1:-9223372036854775808<=x) (h2:x<=9223372036854775807):
 Calls Tryz.prog 18 #[.int .i64 x,.int .i64 4] w fun e w'=>e=.returned (.int .i64 (pl4 x:Int))/\w'=w:=by
 have a2:-4<x.tmod 4:=by have:=Int.lt_tmod_of_pos x (show(0:Int)<4 by decide);omega
 have a3:x.tmod 4<4:=Int.tmod_lt_of_pos x (by decide);have a1:((pl4 x:Nat):Int)=if x.tmod 4<0 then x.tmod 4+4 else x.tmod 4:=by unfold pl4;split<;>omega
 obtain⟨y,hy⟩:=zE (x.tmod 4);rw[<-hy]at a2 a3 a1;obtain⟨v,hv⟩:=zE (pl4 x);rw[<-hv]at a1 ⊢;have HP:=zqH a1;clear a1 hv;go_enter Tryz.func18,Tryz.ntmps18;have HY:=zqH hy
 go_upto_region 2 with fail
 rw[<-HY.out];clear hy;by_cases hn:y<0
 · go_wp2
   go_ret
   have:=HP.out;rw[if_pos hn]at this;exact⟨by rw[this];rfl,rfl⟩
 · go_wp2
   go_ret
   have:=HP.out;rw[if_neg (Int.not_lt.2 hn)]at this;exact⟨by rw[this];rfl,rfl⟩
theorem on_set {ds:List F1.Del} {i:Nat} {d:F1.Del}:((ds.map fun d=>Value.bool d.on).toArray).setIfInBounds i (.bool d.on)=(((ds.set i d).map fun d=>Value.bool d.on).toArray):=by
 rw[List.setIfInBounds_toArray,List.map_set]
theorem dels_off {Q:Nat->Prop} {DC:Array Value} {ds:List F1.Del} {i:Nat} {d:F1.Del} (h:DelsAt Q W DC ds) (hi:ds[i]?=some d):DelsAt Q W DC (ds.set i { d with on:=false }):=
 ⟨by rw[List.length_set];exact h.1,h.2.1,fun j e he=>by
   by_cases hj:i=j
   · subst hj;rw[List.getElem?_set_self (List.getElem?_eq_some_iff.1 hi).1]at he;obtain⟨A,n,c,B,m,e',h1,h2,h3,h4⟩:=h.2.2 i d hi;cases he;exact⟨A,n,c,B,m,e',h1,h2,h3,fun ho=>by cases ho⟩
   · rw[List.getElem?_set_ne hj]at he;exact h.2.2 j e he⟩
theorem dels_set {Q:Nat->Prop} {DC:Array Value} {ds:List F1.Del} {i:Nat} {d:F1.Del} (h:DelsAt Q W DC ds) (hi:i<4) {A B:Option Addr} {n c m e:Nat} (h1:LN Q W A n c d.sh) (h2:LN Q W B m e d.stk):DelsAt Q W (((DC.setIfInBounds (i*3) (.slice A n c)).setIfInBounds (i*3+1) (.int .u64 (d.per:Int))).setIfInBounds (i*3+2) (.slice B m e)) (ds.set i d):=by
 obtain⟨hl,hs,ha⟩:=h;refine⟨by rw[List.length_set];exact hl,by simp[hs],fun j f hf=>?_⟩;by_cases hj:i=j
 · subst hj;rw[List.getElem?_set_self (by omega)]at hf;cases hf;refine⟨A,n,c,B,m,e,?_,?_,?_,fun _=>⟨h1,h2⟩⟩
   · rw[Array.getElem?_setIfInBounds_ne (by omega),Array.getElem?_setIfInBounds_ne (by omega),Array.getElem?_setIfInBounds_self_of_lt (by omega)]
   · rw[Array.getElem?_setIfInBounds_ne (by omega),Array.getElem?_setIfInBounds_self_of_lt (by simp;omega)]
   · rw[Array.getElem?_setIfInBounds_self_of_lt (by simp;omega)]
 · rw[List.getElem?_set_ne hj]at hf;obtain⟨A',n',c',B',m',e',g1,g2,g3,g4⟩:=ha j f hf;exact⟨A',n',c',B',m',e',by rw[Array.getElem?_setIfInBounds_ne (by omega),Array.getElem?_setIfInBounds_ne (by omega),Array.getElem?_setIfInBounds_ne (by omega)];exact g1,by rw[Array.getElem?_setIfInBounds_ne (by omega),Array.getElem?_setIfInBounds_ne (by omega),Array.getElem?_setIfInBounds_ne (by omega)];exact g2,by rw[Array.getElem?_setIfInBounds_ne (by omega),Array.getElem?_setIfInBounds_ne (by omega),Array.getElem?_setIfInBounds_ne (by omega)];exact g3,g4⟩
theorem dels_at {Q:Nat->Prop} {DC:Array Value} {ds:List F1.Del} {i:Nat} {d:F1.Del} (h:DelsAt Q W DC ds) (hi:ds[i]?=some d) (hb:W.heap[bd]?=some (.cells DC 55 (0,0))):∃A n c B m e,(∀w':World,w'.heap[bd]?=some (.cells DC 55 (0,0)) → (Instr.loadAt 55 (.pointer (some ⟨bd,i*3,none⟩))).run Tryz.prog w'=.ok (.agg #[.slice A n c,.int .u64 (d.per:Int),.slice B m e]) w')/\DC[i*3]?=some (.slice A n c)/\(d.on=true->LN Q W A n c d.sh/\LN Q W B m e d.stk):=by
 obtain⟨A,n,c,B,m,e,h1,h2,h3,h4⟩:=h.2.2 i d hi;refine⟨A,n,c,B,m,e,fun w' hk=>?_,h1,h4⟩;exact run_loadAt_mid w' bd (i*3) 55 [.slice A n c,.int .u64 (d.per:Int),.slice B m e] _ (fun j v hv=>by
  rcases j with _|_|_|j
  · cases hv;exact zaa hk _ _ h1
  · cases hv;exact zaa hk _ _ h2
  · cases hv;exact zaa hk _ _ h3
  · simp at hv) Tryz.underlying55 rfl (by kernel_rfl)
def Boxed (w0:World) (F:Nat->Prop) (bs bx bd bh:Nat) (S:F1.Sta) (x:F1.Rn) (l:RL) (W:World) (b v:Nat) (W5:World):Prop:=∃R m d,RA w0 F bs bx bd bh S x l W5/\RS F F bs bx bd bh W W5/\W5.heap[b]?=some (.cells #[.slice R m d] 26 (0,0))/\LN (OR F bs bx bd bh) W5 R m d v/\W.heap.size<=b/\Upd (fun b=>b=bs) W W5
theorem box_c {Q:Nat->Prop} {W4:World} {b v m' d':Nat} {R:Option Addr} {v0:Value} (h:RA w0 F bs bx bd bh S x l W) (hu:Upd (fun b=>b=bs) W W4) (hs:SF F bs W4 (F1.ents S)) (h7:W4.heap[b]?=some (.cells #[v0] 26 (0,0))) (hb:W.heap.size<=b) (hl:LN Q W4 R m' d' v) (hQ:∀c,c<W4.heap.size->Q c->OR F bs bx bd bh c/\c≠b):Boxed w0 F bs bx bd bh S x l W b v (W4.setCell ⟨b,0,none⟩ (.slice R m' d')):=by
 have a1:Upd (fun c=>c=b) W4 (W4.setCell ⟨b,0,none⟩ (.slice R m' d')):=Upd.setCell (S:=fun c=>c=b) W4 _ rfl;have a3:=h.lt;have a2:Upd (fun b=>b=bs) W (W4.setCell ⟨b,0,none⟩ (.slice R m' d')):=hu.then a1 (fun c hc e=>by omega);refine⟨R,m',d',h.bsd a2 (hs.upd_off a1 (fun c hc e=>by have:=(h.sf.lt hc).1;omega) (by omega)),?_,zac h7 _ (i:=0),((hl.mono (Q':=fun c=>OR F bs bx bd bh c/\c≠b) hQ).upd a1 (fun c hc e=>hc.2 e)).mono (fun c _ hc=>hc.1),hb,a2⟩;exact⟨fun b hb=>.inl hb,a2.mono (fun _ _ e=>.inr (.inl e))⟩
theorem box_a {W3:World} {v m' d':Nat} {R:Option Addr} (h:RA w0 F bs bx bd bh S x l W) (hu:Upd (fun b=>b=bs) W W3) (hs:SF F bs W3 (F1.ents S)) (hl:LN (NB W) W3 R m' d' v):Boxed w0 F bs bx bd bh S x l W W3.heap.size v ((W3.alloc (.cells #[.slice none 0 0] 26)).setCell ⟨W3.heap.size,0,none⟩ (.slice R m' d')):=by
 have a2:=h.lt;have hn:New W3 (W3.alloc (.cells #[.slice none 0 0] 26)):=zU _ _ _;refine box_c (Q:=fun c=>W.heap.size<=c/\c<W3.heap.size) h (hu.then hn (fun _ _ e=>e.elim)) (hs.new hn) (al_new _ _) hu.size ((hl.mono (Q':=fun c=>W.heap.size<=c/\c<W3.heap.size) (fun c hc hq=>⟨hq,hc⟩)).upd hn (fun _ _=>id)) (fun c _ hc=>⟨⟨h.sf.off_new hc.1,by omega,by omega,by omega⟩,by omega⟩)
theorem box_b {Wy W4:World} {v m' d':Nat} {R:Option Addr} (h:RA w0 F bs bx bd bh S x l W) (hy:Upd (fun b=>b=bs) W Wy) (hu:Upd (fun b=>b=bs) (Wy.alloc (.cells #[.slice none 0 0] 26)) W4) (hs:SF F bs W4 (F1.ents S)) (hl:LN (NB (Wy.alloc (.cells #[.slice none 0 0] 26))) W4 R m' d' v):Boxed w0 F bs bx bd bh S x l W Wy.heap.size v (W4.setCell ⟨Wy.heap.size,0,none⟩ (.slice R m' d')):=by
 have a4:=h.lt;have a1:=hy.size;have hn:New Wy (Wy.alloc (.cells #[.slice none 0 0] 26)):=zU _ _ _;have hk:=al_new Wy (.cells #[.slice none 0 0] 26);have a2:=zab Wy (.cells #[.slice none 0 0] 26);refine box_c h ((hy.then hn (fun _ _ e=>e.elim)).trans hu) hs ((hu.block _ (by omega) (by omega)).trans hk) a1 hl (fun c _ hc=>?_);have hc:(Wy.alloc (.cells #[.slice none 0 0] 26)).heap.size<=c:=hc;rw[a2]at hc;exact⟨⟨h.sf.off_new (by omega),by omega,by omega,by omega⟩,by omega⟩
theorem setd_row {w:World} {i:Nat} {DC:Array Value} (h:w.heap[bd]?=some (.cells DC 55 (0,0))) (hi:i*3+3<=DC.size) (a b c:Value):w.there bd (i*3) 3/\(w.setCells bd (i*3) [a,b,c]).heap[bd]?=some (.cells (((DC.setIfInBounds (i*3) a).setIfInBounds (i*3+1) b).setIfInBounds (i*3+2) c) 55 (0,0))/\Upd (fun x=>x=bd) w (w.setCells bd (i*3) [a,b,c]):=by
 refine⟨there_row h hi,?_,Upd.setCells (S:=fun x=>x=bd) rfl _ _ _⟩;rw[zan _ _ h,Ex.withObj_heap _ _ _ _ (zqA.1 h).1,if_pos rfl]
 rfl
theorem on_back {ds:List F1.Del} {i:Nat} {d nd:F1.Del} (h:ds[i]?=some d) (ho:d.on=false):(((ds.set i nd).set i { nd with on:=false }).map fun d=>Value.bool d.on)=ds.map fun d=>Value.bool d.on:=by
 rw[List.set_set,List.map_set];apply List.ext_getElem?;intro j;by_cases hj:i=j
 · subst hj;rw[List.getElem?_set_self (by rw[List.length_map];exact(List.getElem?_eq_some_iff.1 h).1),List.getElem?_map,h,Option.map_some,ho]
 · rw[List.getElem?_set_ne hj]
end
end Gz
end
section
open Go.Proofs.YtbhnjkegkadodaaGreatDoor
namespace Gz
open Go Go.RowKit Go.Proofs Gl
open List renaming getElem_toArray->gD,getElem_cons_succ->gE,getElem_cons_zero->gZ
theorem does_look {w0 W:World} {F:Nat->Prop} {bs bx bd bh:Nat} {S:F1.Sta} {x:F1.Rn} {l:RL} {s:StpV} {D:Option Addr} {m c:Nat} (h:RA w0 F bs bx bd bh S x l W)
 (hwh:¬(0<=s.wh/\s.wh<=8)) (hw2:-9223372036854775808<=s.wh/\s.wh<=9223372036854775807) (hat:-9223372036854775808<=s.at_/\s.at_<=9223372036854775807):
 Calls Tryz.prog 33 #[.pointer (some ⟨bx,0,none⟩),.agg #[.int .i64 s.wh,.int .i64 s.at_,.int .u64 (s.n:Int),.slice D m c]] W (RunR w0 F bs bx bd bh S x W):=by
 have a2:∀Wx:World,_:=fun Wx=>place4_c (w:=Wx) hat.1 hat.2;have a3:=zqH a2;have H:=zqH h;obtain⟨wh,at_,nn,dd⟩:=s;simp only at hwh;clear a2 hat h;go_enter Tryz.func33,Tryz.ntmps33
 go_upto_region 2 with(go_at_call 18;refine(a3.out _).mono ?_;rintro e W2 ⟨pi,a9,rfl,rfl⟩)
 go_upto_region 3 with fail
 obtain⟨WA,a1⟩:=zE (W.alloc (.cells #[.int .i64 wh,.int .i64 at_,.int .u64 (nn:Int),.slice D m c] 48));rw[<-a1];have hn:New W WA:=by rw[a1];exact zU _ _ _
 skip
 skip
 obtain⟨bA,a4⟩:=zE W.heap.size;rw[<-a4];have a6:=hn;clear a1 a4 a3;go_wp2;refine bodyPost_end (results_none rfl _ _ _) rfl ?_
 exact⟨rfl,F,l,H.out.new hn,RS.of_new hn⟩
theorem does_cut0 {w0 W:World} {F:Nat->Prop} {bs bx bd bh:Nat} {S:F1.Sta} {x:F1.Rn} {l:RL} {s:StpV} {D:Option Addr} {m c:Nat} (h:RA w0 F bs bx bd bh S x l W)
 (hwh:s.wh=8) (hat:-9223372036854775808<=s.at_/\s.at_<=9223372036854775807) (h1n:x.n<=1):
 Calls Tryz.prog 33 #[.pointer (some ⟨bx,0,none⟩),.agg #[.int .i64 s.wh,.int .i64 s.at_,.int .u64 (s.n:Int),.slice D m c]] W (RunR w0 F bs bx bd bh S x W):=by
 have a3:∀Wx:World,_:=fun Wx=>place4_c (w:=Wx) hat.1 hat.2;have a4:=zqH a3;have H:=zqH h;obtain⟨wh,at_,nn,dd⟩:=s;simp only at hwh;clear a3 hat h;subst hwh;go_enter Tryz.func33,Tryz.ntmps33
 go_upto_region 2 with(go_at_call 18;refine(a4.out _).mono ?_;rintro e W2 ⟨pi,b5,rfl,rfl⟩)
 go_upto_region 3 with fail
 obtain⟨WA,a1⟩:=zE (W.alloc (.cells #[.int .i64 8,.int .i64 at_,.int .u64 (nn:Int),.slice D m c] 48));rw[<-a1];have hn:New W WA:=by rw[a1];exact zU _ _ _
 have a2:=zX W (.cells #[.int .i64 8,.int .i64 at_,.int .u64 (nn:Int),.slice D m c] 48);rw[<-a1]at a2;obtain⟨bA,a5⟩:=zE W.heap.size;rw[<-a5]at a2 ⊢;have HR:=zqH (H.out.new hn);have HN:=zqH hn;have c2:=zaa HR.out.xb 2 (.int .u64 (x.n:Int)) rfl;clear a1 hn a2 a5 a4;go_wp2;refine bodyPost_end (results_none rfl _ _ _) rfl ?_
 exact⟨rfl,F,l,HR.out,RS.of_new HN.out⟩
theorem does_cut {w0 W:World} {F:Nat->Prop} {bs bx bd bh:Nat} {S S1:F1.Sta} {x x1:F1.Rn} {l:RL} {s:StpV} {D:Option Addr} {m c:Nat} (h:RA w0 F bs bx bd bh S x l W) (hcl:∀Wx,New W Wx->Calls Tryz.prog 87 #[.pointer (some ⟨bx,0,none⟩)] Wx (RunR w0 F bs bx bd bh S1 x1 Wx)) (hb1:F1.Bks S1 x1) (hg1:F1.Gd x1) (hs1:F1.Sm x1)
 (hwh:s.wh=8) (hat:-9223372036854775808<=s.at_/\s.at_<=9223372036854775807) (hnx:x1.n=x.n) (h1n:1<x.n):
 Calls Tryz.prog 33 #[.pointer (some ⟨bx,0,none⟩),.agg #[.int .i64 s.wh,.int .i64 s.at_,.int .u64 (s.n:Int),.slice D m c]] W (RunR w0 F bs bx bd bh (F1.refer (cutAt S1 x1.q x1.n (1+s.n % (x1.n-1))) x1.q) (x1.ctt (1+s.n % (x1.n-1))) W):=by
 have d6:∀Wx:World,_:=fun Wx=>place4_c (w:=Wx) hat.1 hat.2;have d7:=zqH d6;have H:=zqH h;have d8:=zqH hcl;have HB:=zqH hb1;have HG:=zqH hg1;have HS:=zqH hs1;have f7:=zqH hnx;have d9:=zqH h1n;obtain⟨wh,at_,nn,dd⟩:=s;simp only at hwh;clear d6 hat h hcl hb1 hg1 hs1 hnx h1n;subst hwh;go_enter Tryz.func33,Tryz.ntmps33
 go_upto_region 2 with(go_at_call 18;refine(d7.out _).mono ?_;rintro e W2 ⟨pi,j4,rfl,rfl⟩)
 go_upto_region 3 with fail
 obtain⟨WA,a8⟩:=zE (W.alloc (.cells #[.int .i64 8,.int .i64 at_,.int .u64 (nn:Int),.slice D m c] 48));rw[<-a8];have hn:New W WA:=by rw[a8];exact zU _ _ _
 have a6:=zX W (.cells #[.int .i64 8,.int .i64 at_,.int .u64 (nn:Int),.slice D m c] 48);rw[<-a8]at a6;obtain⟨bA,f0⟩:=zE W.heap.size;rw[<-f0]at a6 ⊢;have HR:=zqH (H.out.new hn);have e0:=zqH hn;have b6:=zqH a6;have b7:=zqH (show ¬(F bA\/bA=bs\/bA=bx\/bA=bd\/bA=bh) from fun hh=>by have hl:=H.out.lt;exact hh.elim (fun hh=>by have:=(H.out.sf.lt hh).1;omega) (fun hh=>by omega));have c2:=zaa HR.out.xb 2 (.int .u64 (x.n:Int)) rfl;have h1n:=d9.out;have e1:=d8.out _ e0.out;clear a8 hn a6 f0 d7 d8
 go_upto_if 187 with fail
 clear c2
 go_upto_region 28 with(go_at_call 87;refine e1.mono ?_;rintro e W2 ⟨rfl,F',l1,f3,a9⟩;have b8:=zqH f3;have f9:=zqH ((RS.of_new e0.out).trans a9);have e2:=zqH ((a9.upd.block bA (zqA.1 b6.out).1 (b7.out)).trans b6.out);have g0:=zqH (show ¬F' bA from fun hf=>(a9.sub bA hf).elim (fun h=>b7.out (.inl h)) (fun h=>by have:=(zqA.1 b6.out).1;omega));clear f3 a9)
 obtain⟨V,hV⟩:=zE (xv l1 x1.n x1.q);have b5:∀w':World,w'.heap[bx]?=some (.cells (xc bs bd bh l1 x1.n x1.q x1.C.length) 77 (0,0))->w'.rangeAt bx 1 (xv l1 x1.n x1.q):=fun w' hk j v hv=>zaa hk (1+j) v (xv_at _ _ _ _ _ _ _ j v hv);have e3:∀w':World,w'.heap[bx]?=some (.cells (xc bs bd bh l1 x1.n x1.q x1.C.length) 77 (0,0)) → (Instr.loadAt 28 (.pointer (some ⟨bx,1,none⟩))).run Tryz.prog w'=.ok (.agg V.toArray) w':=fun w' hk=>by
  rw[hV];exact run_loadAt_mid w' bx 1 28 _ _ (b5 w' hk) Tryz.underlying28 rfl (by kernel_rfl)
 have g1:=zqH e3;have HV:=zqH hV;obtain⟨N,hN⟩:=zE (x1.n-1:Nat);have g2:0<N:=by have:=f7.out;have:=d9.out;omega
 have e4:x1.n=N+1:=by omega
 have i1:N<=1000000:=by have h2:=HG.out.n2;have h3:=HG.out.n3;omega
 obtain⟨a,ha⟩:=zE (1+nn % N);have b9:1+(nn:Int) % (N:Int)=(a:Int):=by rw[ha];omega
 have e5:a<=x1.n:=by have:=Nat.mod_lt nn g2;omega
 have WN:IntKind.u64.wrap (N:Int)=(N:Int):=by rw[IntKind.wrap_u64];omega
 have WT:(nn:Int).tmod (N:Int)=(nn:Int) % (N:Int):=Int.tmod_eq_emod_of_nonneg (by omega);have i3:IntKind.u64.wrap (1+(nn:Int) % (N:Int))=1+(nn:Int) % (N:Int):=by rw[b9,IntKind.wrap_u64];omega
 have c5:=zqH (zN b8.out.xb e2.out);have g3:=zqH b9;have g4:=zqH e5;have g5:=zqH e4;have HA:=zqH ha;have g6:=zqH hN;clear b9 e5 hV b5 e3 e4 ha hN e1;refine beginM 22 (fun w'=>w'.heap[bx]?=some (.cells (xc bs bd bh l1 x1.n x1.q x1.C.length) 77 (0,0))/\w'.heap[bA]?=some (.cells #[.int .i64 8,.int .i64 at_,.int .u64 (nn:Int),.slice D m c] 48 (0,0))) (by kernel_rfl) (fun q1=>?_);refine takeP (b:=?a1) [(0,zqQ bx 0),(1,zqQ bx 0),(2,zqQ bx 0),(3,zqQ bx 0),(4,zqQ bs 0),(5,zqQ bx 0),(6,zqQ bx 0),(7,zqQ bx 1),(8,.agg V.toArray),(9,zqQ bA 2),(10,.int .u64 (nn:Int)),(11,zqQ bx 0),(12,zqQ bx 0),(13,zqQ bx 1),(14,zqQ bx 2),(15,.int .u64 ((N:Int)+1)),(16,.int .u64 (N:Int)),(17,.int .u64 ((nn:Int) % (N:Int))),(18,.int .u64 (1+(nn:Int) % (N:Int)))] q1 c5.out (fun w' hk=>?y1) (fun q2=>?_)
 case y1=>
  have c0:=zaa hk.1 0 (.pointer (some ⟨bs,0,none⟩)) rfl;have c1:=g1.out w' hk.1;have c2:=zaa hk.1 2 (.int .u64 ((N:Int)+1)) (by rw[g5.out];rfl);have cA:=zaa hk.2 2 (.int .u64 (nn:Int)) rfl
  iterate 8 (refine RunsM.cons rfl rfl (by go_simp) ?_;simp only[Act.put,gD,gE,gZ,gA,gB,gC])
  refine RunsM.cons rfl rfl (zbm (ty:=28) (x:=.tmp 197) rfl rfl c1) ?_
  simp only[Act.put,gD,gE,gZ,gA,gB,gC]
  iterate 8 (refine RunsM.cons rfl rfl (by go_simp) ?_;simp only[Act.put,gD,gE,gZ,gA,gB,gC])
  refine RunsM.cons rfl rfl (by go_simp;omega) ?_
  simp only[Act.put,gD,gE,gZ,gA,gB,gC]
  iterate 1 (refine RunsM.cons rfl rfl (by go_simp) ?_;simp only[Act.put,gD,gE,gZ,gA,gB,gC])
  exact rfl
 refine oneP 19 rfl q2 (fun K hK=>?_);go_simp;rw[g3.out];have a7:=(Upd.refl (fun _=>False) W2).drew;have e7:=r43 (b8.out.new a7) HB.out HG.out HS.out g4.out;simp only[<-HV.out]at e7;refine e7.mono ?_
 rintro e W4 ⟨rfl,F2,f4,b0⟩;have c6:=(b8.out.new a7).step b0 f4;have d0:=zqH (zN c6.xb ((b0.block (zqA.1 c5.out.2).1 g0.out (fun e=>b7.out (.inr (.inl e)))).trans c5.out.2));have a1:=zqH c6;have e8:=zqH ((f9.out.trans (RS.of_new a7)).trans (RS.of_step b0));clear f4 c6 a7 b0;refine hK _ _ (fun _=>d0.out) (fun q3=>?_);refine pureP (b:=?a2) [(20,zqQ bx 0),(21,zqQ bx 1)] q3 d0.out (fun w'=>?y2) (fun q4=>?_)
 case y2=>
  iterate 2 (refine RunsM.cons rfl rfl (by go_simp) ?_;simp only[Act.put,gD,gE,gZ,gA,gB,gC])
  exact rfl
 refine oneP 22 rfl q4 (fun K hK=>?_);have T:=zqH (setx_row (n':=a) (q':=x1.q) a1.out.xb l1 rfl);refine wp_store_mid 28 (.tmp 211) (.tmp 209) rfl bx 1 (xv l1 a x1.q).toArray rfl rfl T.out.1 (by kernel_rfl) (by simp[xv,Value.oneCell']) ?_
 rw[show(xv l1 a x1.q).toArray.toList=xv l1 a x1.q from rfl];obtain⟨W5,f2⟩:=zE (W4.setCells bx 1 (xv l1 a x1.q));rw[<-f2]at T ⊢;have a3:=zqH (a1.out.setx (x':={ x1 with n:=a }) (l':=l1) T.out.2.2 T.out.2.1 rfl rfl a1.out.lr a1.out.lc a1.out.lg a1.out.le a1.out.la);have g7:=zqH (e8.out.trans (RS.of_own T.out.2.2 (fun b h=>.inl h)));refine hK _ _ (offM (by kernel_rfl)) (fun q5=>?_);clear hK K f2 T a1 e8 d0;refine doneM (by kernel_rfl) ?_ _;have k5:=a3.out.xb;obtain⟨k,hk⟩:=zE x1.C.length;have k5:W5.heap[bx]?=some (.cells (xc bs bd bh l1 a x1.q k) 77 (0,0)):=by rw[hk];exact k5
 have i5:k<=1000:=by rw[hk];exact HS.out.c
 have i6:=zaa k5 13 (.int .i64 (k:Int)) rfl;have i7:=zad k5 13;have K5:=zqH k5;have HK:=zqH hk;clear k5 hk;go_wp2;refine bodyPost_end (results_none rfl _ _ _) rfl ?_
 have k6:=zac K5.out (.int .i64 ((k:Int)+1)) (i:=13);have e6:(xc bs bd bh l1 a x1.q k).setIfInBounds 13 (.int .i64 ((k:Int)+1))=xc bs bd bh l1 a x1.q (k+1):=by
  simp only[xc,xv,List.setIfInBounds_toArray,List.cons_append,List.nil_append,List.set_cons_zero,List.set_cons_succ,Int.natCast_succ]
 rw[e6]at k6;have e9:Upd (fun b=>b=bx) W5 (W5.setCell ⟨bx,13,none⟩ (.int .i64 ((k:Int)+1))):=Upd.setCell (S:=fun b=>b=bx) W5 _ rfl;have hf:=a3.out.setx (x':=x1.ctt a) (l':=l1) e9 (k6.trans (by rw[show(x1.ctt a).C.length=k+1 by show(x1.C ++ [_]).length=_;rw[List.length_append,HK.out];rfl];rfl)) rfl rfl a3.out.lr a3.out.lc a3.out.lg a3.out.le a3.out.la;have g9:RA w0 F2 bs bx bd bh (F1.refer (cutAt S1 x1.q x1.n a) x1.q) (x1.ctt a) l1 _:=hf;rw[<-g6.out,<-HA.out];exact⟨rfl,F2,l1,g9,g7.out.trans (RS.of_own e9 (fun b h=>.inl h))⟩
end Gz
end

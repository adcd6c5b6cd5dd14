/- A part of the proof of the statement of this seat: no condition. -/
import Derived.Test.YtbhnjkegkadodaaGreatDoorQ02
import Derived.OwnWalk
import Derived.WalkKit
import Derived.BigQuiet
import Derived.Deep.RegionWith
import Derived.Deep.RegionLaw
import Derived.Test.YtbhnjkegkadodaaGreatDoorKP01
set_option linter.unusedVariables false
set_option linter.unusedSimpArgs false
set_option maxRecDepth 100000
set_option maxHeartbeats 8000000
namespace Go.Proofs.YtbhnjkegkadodaaGreatDoor
open Go Go.RowKit Go.Proofs Gl
structure Wr (base bw:Nat) (w:World) (A:Option Addr) (n c:Nat) (bs:List Nat):Prop where
 blk:∃t,w.heap[bw]?=some (.cells #[.slice A n c,.int .i64 0] t (0,0))
 own:w.ownsRow base 5 1 (.slice A n c) n (bs.map u8)
 ne:∀a,A=some a->a.block≠bw
 small:Small bs
 hb:base<=bw
theorem Wr.len {base bw:Nat} {w:World} {A:Option Addr} {n c:Nat} {bs:List Nat} (h:Wr base bw w A n c bs):bs.length=n:=by have:=h.own.1;simpa using this
theorem Wr.lt {base bw:Nat} {w:World} {A:Option Addr} {n c:Nat} {bs:List Nat} (h:Wr base bw w A n c bs):bw<w.heap.size:=by
 obtain⟨t,h⟩:=h.blk
 exact(Array.getElem?_eq_some_iff.1 h).1
theorem Wr.cell0 {base bw:Nat} {w:World} {A:Option Addr} {n c:Nat} {bs:List Nat} (h:Wr base bw w A n c bs):w.cell? ⟨bw,0,none⟩=some (.slice A n c):=by
 obtain⟨t,h⟩:=h.blk
 simp[World.cell?,h]
theorem Wr.cell1 {base bw:Nat} {w:World} {A:Option Addr} {n c:Nat} {bs:List Nat} (h:Wr base bw w A n c bs):w.cell? ⟨bw,1,none⟩=some (.int .i64 0):=by
 obtain⟨t,h⟩:=h.blk
 simp[World.cell?,h]
theorem Wr.frozen {base bw:Nat} {w:World} {A:Option Addr} {n c:Nat} {bs:List Nat} (h:Wr base bw w A n c bs) (i:Nat):w.frozen? ⟨bw,i,none⟩=false:=by
 obtain⟨t,h⟩:=h.blk
 simp[World.frozen?,h]
theorem Wr.put {base bw:Nat} {w w2:World} {A1 A2:Option Addr} {n1 c1 n2 c2:Nat} {bs news:List Nat} (h:Wr base bw w A1 n1 c1 bs) (hb:∃t,w2.heap[bw]?=some (.cells #[.slice A1 n1 c1,.int .i64 0] t (0,0))) (hu:Upd (fun b=>(Value.slice A1 n1 c1).ownBlock=some b) w w2)
 (ho:w2.ownsRow base 5 1 (.slice A2 n2 c2) n2 ((bs ++ news).map u8)) (hs:Small news) (hat:(Value.slice A2 n2 c2).ownBlock=(Value.slice A1 n1 c1).ownBlock\/∃g,(Value.slice A2 n2 c2).ownBlock=some g/\w.heap.size<=g):
 Wr base bw (w2.setCell ⟨bw,0,none⟩ (.slice A2 n2 c2)) A2 n2 c2 (bs ++ news)/\Upd (fun b=>b=bw\/(Value.slice A1 n1 c1).ownBlock=some b) w (w2.setCell ⟨bw,0,none⟩ (.slice A2 n2 c2)):=by
 have hne:∀a,A2=some a->a.block≠bw:=fun a ha=>by
  subst ha
  rcases hat with e|⟨g,e,hg⟩
  · cases A1 with
    | none=>simp[Value.ownBlock]at e
    | some a1=>
      simp only[Value.ownBlock,Option.some.injEq]at e
      rw[e];exact h.ne a1 rfl
  · simp only[Value.ownBlock,Option.some.injEq]at e
    have:=h.lt
    omega
 refine⟨⟨?_,ownsRow_keep ho fun c hc _=>?_,hne,h.small.append hs,h.hb⟩,(hu.mono (fun c _ hc=>.inr hc)).trans (Upd.setCell w2 _ (.inl rfl))⟩
 · obtain⟨t,hb⟩:=hb
   refine⟨t,?_⟩
   simp[World.setCell,Array.getElem?_modify,hb]
 · have hcb:c≠bw:=by
    cases A2 with
    | none=>simp[Value.ownBlock]at hc
    | some a=>simp only[Value.ownBlock,Option.some.injEq]at hc;rw[<-hc];exact hne a rfl
   exact(Upd.setCell (S:=fun b=>b=bw) (a:=⟨bw,0,none⟩) w2 (.slice A2 n2 c2) rfl).block c (by assumption) hcb
theorem wnumber {base bw:Nat} {w:World} {A:Option Addr} {n c:Nat} {bs:List Nat} (h:Wr base bw w A n c bs) (x k:Nat) (hx:x<18446744073709551616) (hk:k<=8) (hn:n+8<=1073741824) (hbase:base<=w.heap.size):
 Calls Tryz.prog 270 #[.pointer (some ⟨bw,0,none⟩),.int .u64 (x:Int),.int .i64 (k:Int)] w fun e w'=>e=.returned (.tuple #[])/\∃A' c',Wr base bw w' A' (n+k) c' (bs ++ be k x)/\Upd (fun b=>b=bw\/(Value.slice A n c).ownBlock=some b) w w' /\
  ((Value.slice A' (n+k) c').ownBlock=(Value.slice A n c).ownBlock\/∃g,(Value.slice A' (n+k) c').ownBlock=some g/\w.heap.size<=g):=by
 obtain⟨i0,hi0,hz0,hz1,hz2⟩:=info_parts info5
 have hc0:=h.cell0
 have hc1:=h.cell1
 have H:=Lib.hid h
 have HX:=Lib.hid hx;have HN:=Lib.hid hn;have HB:=Lib.hid hbase
 clear hx hn hbase h
 go_enter Tryz.func270,Tryz.ntmps270
 go_wp2
 go_loopw [6] (fun i wr=>∃j:Nat,j<=k/\i=.int .i64 ((j:Int)-1)/\Hid (∃A' c',Wr base bw wr A' (n+(k-j)) c' (bs ++ (be k x).take (k-j))/\Upd (fun b=>b=bw\/(Value.slice A n c).ownBlock=some b) w wr /\
  ((Value.slice A' (n+(k-j)) c').ownBlock=(Value.slice A n c).ownBlock\/∃g,(Value.slice A' (n+(k-j)) c').ownBlock=some g/\w.heap.size<=g))) (fun i _=>(intOf i+1).toNat)
 case atStart=>exact⟨k,Nat.le_refl _,rfl,Lib.hid (by rw[Nat.sub_self];exact⟨A,c,by simpa using H.out,Upd.refl _ _,.inl rfl⟩)⟩
 case round=>
  obtain⟨j,hj,rfl,hI⟩:=hrel
  by_cases h0:0<j
  · obtain⟨A1,c1,hW,hU,hF⟩:=hI.out
    have hd0:=hW.cell0
    have hd1:=hW.cell1
    have hfz:=hW.frozen 0
    have hge:(0:Int)<=(j:Int)-1:=by omega
    have hsh:∀W,(Op.shift .shr .u64 (x:Int) .i64 (IntKind.i64.wrap (8*((j:Int)-1)))).run Tryz.prog W=.ok (.int .u64 ((x / 2 ^ (8*(j-1)):Nat):Int)) W:=fun W=>
     run_shr_nat x (8*(j-1)) _ (by rw[IntKind.wrap_i64];omega) (by omega) W
    obtain⟨y,hy⟩:∃y,y=x / 2 ^ (8*(j-1)):=⟨_,rfl⟩
    rw[<-hy]at hsh
    have HY:=Lib.hid hy
    clear hy
    obtain⟨z,hz⟩:∃z,z=IntKind.u8.wrap (y:Int):=⟨_,rfl⟩
    have hwr:IntKind.u8.wrap (y:Int)=z:=hz.symm
    have HZ:=Lib.hid hz
    clear hz
    have hlen:=hW.len
    have Hown:∀W:World,W.heap=wr.heap.push (.cells #[.int .u8 z] 5)->W.ownsRow base 5 1 (.slice A1 (n+(k-j)) c1) (n+(k-j)) ((bs ++ (be k x).take (k-j)).map u8):=fun W hW'=>ownsRow_alloc hW.own _ hW'
    have Hsrc:∀W:World,W.heap=wr.heap.push (.cells #[.int .u8 z] 5)->Src W (some ⟨wr.heap.size,0,none⟩) 1 [.int .u8 z]:=fun W hW' _=>⟨_,_,rfl,fun i u hu=>by
     cases i with
     | zero=>simp at hu;subst hu;simp[World.cell?,hW']
     | succ i=>simp at hu⟩
    have hbW:∀W:World,W.heap=wr.heap.push (.cells #[.int .u8 z] 5)->base<=W.heap.size:=fun W hW'=>by rw[hW'];have:=HB.out;have:=hU.size;simp;omega
    have Hkeep:∀W w2:World,W.grownBy w2 (Value.slice A1 (n+(k-j)) c1).ownBlock->W.heap=wr.heap.push (.cells #[.int .u8 z] 5)->W.tape=wr.tape->W.os=wr.os->W.output=wr.output->w2.cell? ⟨bw,0,none⟩=some (.slice A1 (n+(k-j)) c1)/\w2.frozen? ⟨bw,0,none⟩=false /\
       Hid ((∃t,w2.heap[bw]?=some (.cells #[.slice A1 (n+(k-j)) c1,.int .i64 0] t (0,0)))/\Upd (fun b=>(Value.slice A1 (n+(k-j)) c1).ownBlock=some b) wr w2):=fun W w2 hg h1 h2 h3 h4=>by
     have hu:Upd (fun b=>(Value.slice A1 (n+(k-j)) c1).ownBlock=some b) wr w2:=by
      refine⟨hg.os.trans h3,hg.output.trans h4,hg.tape.trans h2,by have:=hg.size;rw[h1]at this;simp at this;omega,fun c hc hn=>?_⟩
      rw[hg.block c (by rw[h1];simp;omega) (fun e=>hn e.symm),h1,Array.getElem?_push_lt hc];simp[hc]
     obtain⟨t,ht⟩:=hW.blk
     have hne:¬(Value.slice A1 (n+(k-j)) c1).ownBlock=some bw:=by
      cases hA:A1 with
      | none=>simp[Value.ownBlock]
      | some a=>have:=hW.ne a hA;simp only[Value.ownBlock,Option.some.injEq];exact this
     have hb2:=(hu.block bw hW.lt hne).trans ht
     exact⟨by simp[World.cell?,hb2],by simp[World.frozen?,hb2],Lib.hid ⟨⟨t,hb2⟩,hu⟩⟩
    have hd0':(wr.alloc (.cells #[.int .u8 z] 5)).cell? ⟨bw,0,none⟩=some (.slice A1 (n+(k-j)) c1):=by
     rw[(Upd.alloc (fun _=>False) wr (.cells #[.int .u8 z] 5)).cell (a:=⟨bw,0,none⟩) hW.lt id];exact hd0
    have HU:=Lib.hid hU;have HF:=Lib.hid hF;have HW:=Lib.hid hW
    clear hU hF hW
    go_wp2
    go_region_law (refine step_append_src rfl (.tmp 24) (.tmp 30) 113 rfl base 5 i0 _ 1 1 Tryz.underlying113 hi0 hz0 hz1 hz2 rfl (by omega) (.slice A1 (n+(k-j)) c1) (n+(k-j)) ((bs ++ (be k x).take (k-j)).map u8) (by simp[Act.eval,Act.put]) (Hown _ rfl) (some ⟨wr.heap.size,0,none⟩) 1 1 [.int .u8 z] (by simp[Act.eval,Act.put]) rfl (Hsrc _ rfl) (by simp[Value.oneCell']) (by have:=HN.out;simp only[maxLen];omega) (by have:=HN.out;omega) (hbW _ rfl) ?_;intro A2 c2 w2 hown2 hg2 hat2;obtain⟨hs0,hs1,hs2⟩:=Hkeep _ w2 hg2 rfl rfl rfl rfl)
    all_goals go_wp2
    all_goals refine⟨⟨j-1,by omega,by congr 1;omega,Lib.hid ?_⟩,by simp[intOf];omega⟩
    all_goals
     obtain⟨hb2,hu2⟩:=hs2.out
     have hz8:z=((x / 2 ^ (8*(j-1)) % 256:Nat):Int):=by rw[HZ.out,wrap_u8_nat,HY.out]
     have hlen2:n+(k-j)+1=n+(k-(j-1)):=by omega
     have hown3:w2.ownsRow base 5 1 (.slice A2 (n+(k-(j-1))) c2) (n+(k-(j-1))) (((bs ++ (be k x).take (k-j)) ++ [x / 2 ^ (8*(j-1)) % 256]).map u8):=by
      rw[List.map_append,<-hlen2]
      have:([x / 2 ^ (8*(j-1)) % 256].map u8)=[.int .u8 z]:=by rw[hz8];rfl
      rw[this];exact hown2
     rw[hlen2]at hat2
     have hF1:=HF.out
     have hfresh:(Value.slice A2 (n+(k-(j-1))) c2).ownBlock=(Value.slice A1 (n+(k-j)) c1).ownBlock\/∃g,(Value.slice A2 (n+(k-(j-1))) c2).ownBlock=some g/\wr.heap.size<=g:=hat2.imp id (fun e=>⟨_,e,by first|exact Nat.le_refl _|(show wr.heap.size<=(wr.heap.push _).size;simp)⟩)
     obtain⟨p1,p2⟩:=HW.out.put hb2 hu2 hown3 (fun b hb=>by simp at hb;omega) hfresh
     rw[List.append_assoc,be_take h0 hj,<-hlen2]at p1
     rw[<-hlen2]at p2
     rw[<-hlen2]
     refine⟨A2,c2,p1,HU.out.then p2 (fun c hc hS=>?_),?_⟩
     · rcases hS with e|e
       · exact .inl e
       · rcases hF1 with e1|⟨g,e1,hg⟩
         · exact .inr (e1▸e)
         · rw[e1]at e;cases e;omega
     · rw[<-hlen2]at hfresh
       rcases hfresh with e|⟨g,e,hg⟩
       · rw[e];exact hF1
       · exact .inr ⟨g,e,Nat.le_trans HU.out.size hg⟩
  · go_wp2
    obtain rfl:j=0:=by omega
    go_end0
    obtain⟨A1,c1,hW,hU,hF⟩:=hI.out
    rw[Nat.sub_zero,List.take_of_length_le (by rw[be_length];omega)]at hW
    exact⟨rfl,A1,c1,hW,hU,hF⟩
def Wrote (base bw:Nat) (w:World) (A:Option Addr) (n c:Nat) (bs:List Nat) (k:Nat) (news:List Nat) (e:Ending) (w':World):Prop:=
 e=.returned (.tuple #[])/\∃A' c',Wr base bw w' A' (n+k) c' (bs ++ news)/\Upd (fun b=>b=bw\/(Value.slice A n c).ownBlock=some b) w w' /\
   ((Value.slice A' (n+k) c').ownBlock=(Value.slice A n c).ownBlock\/∃g,(Value.slice A' (n+k) c').ownBlock=some g/\w.heap.size<=g)
theorem wU64 {base bw:Nat} {w:World} {A:Option Addr} {n c:Nat} {bs:List Nat} (h:Wr base bw w A n c bs) (x:Nat) (hx:x<18446744073709551616) (hn:n+8<=1073741824) (hbase:base<=w.heap.size):
 Calls Tryz.prog 243 #[.pointer (some ⟨bw,0,none⟩),.int .u64 (x:Int)] w (Wrote base bw w A n c bs 8 (be 8 x)):=by
 have H:=Lib.hid (wnumber h x 8 hx (by omega) hn hbase)
 clear h hx hn hbase
 go_enter Tryz.func243,Tryz.ntmps243
 go_wp2_with (go_at_call 270;refine H.out.mono ?_;rintro e w' ⟨rfl,hr⟩)
 go_end0
 exact⟨rfl,hr⟩
theorem wU8 {base bw:Nat} {w:World} {A:Option Addr} {n c:Nat} {bs:List Nat} (h:Wr base bw w A n c bs) (x:Nat) (hx:x<256) (hn:n+8<=1073741824) (hbase:base<=w.heap.size):
 Calls Tryz.prog 288 #[.pointer (some ⟨bw,0,none⟩),.int .u8 (x:Int)] w (Wrote base bw w A n c bs 1 (be 1 x)):=by
 have H:=Lib.hid (wnumber h x 1 (by omega) (by omega) hn hbase)
 have hw:IntKind.u64.wrap (x:Int)=(x:Int):=by simp[IntKind.wrap,IntKind.bits,IntKind.signed];omega
 clear h hx hn hbase
 go_enter Tryz.func288,Tryz.ntmps288
 go_wp2_with (go_at_call 270;refine H.out.mono ?_;rintro e w' ⟨rfl,hr⟩)
 go_end0
 exact⟨rfl,hr⟩
theorem wOut {base bw:Nat} {w:World} {A:Option Addr} {n c:Nat} {bs:List Nat} (h:Wr base bw w A n c bs) (hn:n<=1073741824):
 Calls Tryz.prog 203 #[.pointer (some ⟨bw,0,none⟩)] w fun e w'=>∃A' c',e=.returned (.tuple #[.slice A' n c',.int .i64 0])/\By w' A' n c' bs/\New w w'/\(∀a,A'=some a->w.heap.size<=a.block)/\w'.ownsRow w.heap.size 5 1 (.slice A' n c') n (bs.map u8):=by
 obtain⟨i0,hi0,hz0,hz1,hz2⟩:=info_parts info5
 have hc0:=h.cell0
 have hc1:=h.cell1
 have hs:Src w A n (bs.map u8):=Src.of_sl (Sl.of_own h.own)
 have hlen:=h.len
 have HN:=Lib.hid hn
 clear hn
 go_enter Tryz.func203,Tryz.ntmps203
 go_wp2_with (at_builtin
              refine wpList_append_src _ rfl _ _ _ rfl w.heap.size 5 i0 _ 1 1 Tryz.underlying113 hi0 hz0 hz1 hz2 rfl (by omega) (.slice none 0 0) 0 [] rfl (World.ownsRow_nil _ _ _ _) _ _ _ (bs.map u8) rfl (by simp[hlen]) hs (oneCell_u8 _) (by have:=HN.out;simp only[maxLen];omega) (by have:=HN.out;omega) (Nat.le_refl _) ?_
              intro A' c' w1 hown1 hg1 hat1)
 go_ret2
 simp only[Nat.zero_add,List.nil_append]at hown1 hat1
 refine⟨A',c',by simp,?_,Upd.of_grown hg1 (fun c hc=>by cases hc),fun a ha=>?_,hown1⟩
 · exact By.of_own hown1 h.small
 · subst ha
   rcases hat1 with e|e<;>simp[Value.ownBlock]at e
   omega
theorem wall {base bw:Nat} {w:World} {A:Option Addr} {n c:Nat} {bs:List Nat} (h:Wr base bw w A n c bs) {A2:Option Addr} {m d:Nat} {xs:List Nat} (hx:By w A2 m d xs) (hn:n+m<=1073741824) (hbase:base<=w.heap.size):
 Calls Tryz.prog 289 #[.pointer (some ⟨bw,0,none⟩),.slice A2 m d] w (Wrote base bw w A n c bs m xs):=by
 obtain⟨i0,hi0,hz0,hz1,hz2⟩:=info_parts info5
 have hc0:=h.cell0
 have hc1:=h.cell1
 have hs:Src w A2 m (xs.map u8):=Src.of_sl hx.sl
 have hlen:=hx.len
 have Hkeep:∀w2:World,w.grownBy w2 (Value.slice A n c).ownBlock->w2.cell? ⟨bw,0,none⟩=some (.slice A n c)/\w2.frozen? ⟨bw,0,none⟩=false /\
  Hid ((∃t,w2.heap[bw]?=some (.cells #[.slice A n c,.int .i64 0] t (0,0)))/\Upd (fun b=>(Value.slice A n c).ownBlock=some b) w w2):=fun w2 hg=>by
  have hu:Upd (fun b=>(Value.slice A n c).ownBlock=some b) w w2:=Upd.of_grown hg (fun c hc=>hc)
  obtain⟨t,ht⟩:=h.blk
  have hne:¬(Value.slice A n c).ownBlock=some bw:=by
   cases hA:A with
   | none=>simp[Value.ownBlock]
   | some a=>have:=h.ne a hA;simp only[Value.ownBlock,Option.some.injEq];exact this
  have hb2:=(hu.block bw h.lt hne).trans ht
  exact⟨by simp[World.cell?,hb2],by simp[World.frozen?,hb2],Lib.hid ⟨⟨t,hb2⟩,hu⟩⟩
 have H:=Lib.hid h;have HN:=Lib.hid hn;have HB:=Lib.hid hbase;have HS:=Lib.hid hs;have HX:=Lib.hid hx;have HLEN:=Lib.hid hlen
 clear h hn hbase hs hx hlen
 go_enter Tryz.func289,Tryz.ntmps289
 go_wp2_with (at_builtin
              refine wpList_append_src _ rfl _ _ _ rfl base 5 i0 _ 1 1 Tryz.underlying113 hi0 hz0 hz1 hz2 rfl (by omega) (.slice A n c) n (bs.map u8) rfl H.out.own _ _ _ (xs.map u8) rfl (by simp[HLEN.out]) HS.out (oneCell_u8 _) (by have:=HN.out;simp only[maxLen];omega) (by have:=HN.out;omega) HB.out ?_
              intro A3 c3 w3 hown3 hg3 hat3
              obtain⟨hs0,hs1,hs2⟩:=Hkeep w3 hg3
              have HQ:=Lib.hid (And.intro hown3 hat3);clear hown3 hg3 hat3)
 go_end0
 obtain⟨hb2,hu2⟩:=hs2.out
 obtain⟨hown3,hat3⟩:=HQ.out
 have hfresh:=hat3.imp id (fun e=>(⟨_,e,Nat.le_refl _⟩:∃g,(Value.slice A3 (n+m) c3).ownBlock=some g/\w.heap.size<=g))
 obtain⟨p1,p2⟩:=H.out.put hb2 hu2 (by rw[List.map_append];exact hown3) HX.out.small hfresh
 exact⟨rfl,A3,c3,p1,p2,hfresh⟩
end Go.Proofs.YtbhnjkegkadodaaGreatDoor

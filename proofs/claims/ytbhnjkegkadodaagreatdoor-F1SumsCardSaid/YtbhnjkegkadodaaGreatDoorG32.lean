/- Part of the proof. -/
import Derived.Test.YtbhnjkegkadodaaGreatDoorG25
import Derived.Test.YtbhnjkegkadodaaGreatDoorG29
set_option linter.all false
set_option maxRecDepth 100000
set_option maxHeartbeats 8000000
namespace Gz
open Go Go.RowKit Go.Proofs Gl
theorem under_c {w:World} (kind:Int) (hd md a:Nat) (hf:∀W,Calls Tryz.prog 173 #[.int .i64 kind] W fun e w'=>e=.returned (.tuple #[.agg #[.int .u8 (hd:Int),.int .u8 (md:Int),.bool true,.bool true,.bool false],.bool true])/\New W w') (h1:hd<256) (h2:md<256) (h0:0<md) (ha:a<18446744073709551616):
 Calls Tryz.prog 115 #[.int .i64 kind,.int .u64 (a:Int)] w fun e w'=>∃A c,e=.returned (.tuple #[.slice A 10 c,.int .i64 0])/\By w' A 10 c (hd :: (be 8 a ++ [md]))/\New w w'/\∀x,A=some x->w.heap.size<=x.block:=by
 have HF:=zqH (hf w);have a5:=zqH (fun W=>first_10 (w:=W) hd md a true h1 h2 h0 ha);have hs:Small (hd :: (be 8 a ++ [md])):=by
  intro x hx;rcases List.mem_cons.1 hx with rfl|hx
  · exact h1
  · rcases List.mem_append.1 hx with hx|hx
    · exact be_small _ _ x hx
    · simp at hx;subst hx;exact h2
 have HS:=zqH hs;clear hf h1 h2 h0 ha hs;go_enter Tryz.func115,Tryz.ntmps115
 go_upto_region 2 with(go_at_call 173;refine HF.out.mono ?_;rintro e W2 ⟨rfl,a4⟩;have a6:=zqH (zbc a4);clear HF a4)
 obtain⟨W3,a2⟩:=zE (W2.alloc (.cells #[.int .u8 (hd:Int),.int .u8 (md:Int),.bool true,.bool true,.bool false] 254));rw[<-a2];have n3:New w W3:=by rw[a2];exact a6.out.trans (zU _ _ _)
 have b3:=zX W2 (.cells #[.int .u8 (hd:Int),.int .u8 (md:Int),.bool true,.bool true,.bool false] 254);rw[<-a2]at b3;have x0:=zaa b3 0 _ rfl;have x1:=zaa b3 1 _ rfl;have x2:=zaa b3 2 _ rfl;have x3:=zaa b3 3 _ rfl;have x4:=zaa b3 4 _ rfl;have N3:=zqH n3;clear b3 n3 a2
 go_wp2_with (go_at_call 174;refine(a5.out W3).mono ?_;rintro e W5 ⟨A5,c5,rfl,a1,a3⟩;have H5:=zqH (zN a1 a3);clear a1 a3)
 go_ret2
 obtain⟨a1,a3⟩:=H5.out;exact⟨A5,c5,rfl,By.of_own a1 HS.out,N3.out.trans a3,fun x hx=>zT N3.out.size (a1.lt x.block (by rw[hx];rfl)).1⟩
theorem cloneb_c {w:World} {g o m c:Nat} {bs:Bs} (h:By w (some ⟨g,o,none⟩) m c bs) (hm:0<m) (hn:m<=1048576):
 Calls Tryz.prog 176 #[.slice (some ⟨g,o,none⟩) m c] w fun e w'=>∃g' c',e=.returned (.slice (some ⟨g',0,none⟩) m c')/\w.heap.size<=g'/\w'.ownsRow w.heap.size 5 1 (.slice (some ⟨g',0,none⟩) m c') m (bs.map Gl.u8)/\New w w':=by
 obtain⟨i0,a5,a6,a7,a8⟩:=info_parts info5;have hu:New w (w.alloc (.cells #[] 5)):=zU _ _ _;have a1:Gl.Src (w.alloc (.cells #[] 5)) (some ⟨g,o,none⟩) m (bs.map Gl.u8):=Gl.Src.of_sl (h.new hu).sl;have a2:(w.alloc (.cells #[] 5)).ownsRow w.heap.size 5 1 (.slice (some ⟨w.heap.size,0,none⟩) 0 0) 0 []:=World.ownsRow_made w #[] 0 (zR _) (by simp[maxLen]) (by simp);have a3:=h.len;have b0:=Lib.run_eql_slice_nil (P:=Tryz.prog) w 113 5 (some ⟨g,o,none⟩) m c 0 0 Tryz.underlying113;have HN:=zqH hn;have HS:=zqH a1;have HO:=zqH a2;have HL:=zqH a3;have HM:=zqH hm;have HU:=zqH hu;clear h hm hn hu a1 a2 a3;go_enter Tryz.func176,Tryz.ntmps176
 go_wp2_with (at_builtin
              refine wpList_append_src _ rfl _ _ _ rfl w.heap.size 5 i0 _ 1 1 Tryz.underlying113 a5 a6 a7 a8 rfl (by omega) (.slice (some ⟨w.heap.size,0,none⟩) 0 0) 0 [] rfl HO.out _ _ _ (bs.map Gl.u8) rfl (by simp[HL.out]) HS.out (zav _) (by have:=HN.out;simp only[maxLen];omega) (by have:=HN.out;omega) (by show _<=(w.heap.push _).size;simp) ?_
              intro A' c' w1 hown1 hg1 hat1)
 go_ret
 simp only[Nat.zero_add,List.nil_append]at hown1 hat1;have hM:=HM.out;obtain⟨g',cap,cur,e,h2,_⟩:∃g cap cur,Value.slice A' m c'=.slice (some ⟨g,0,none⟩) m cap/\w.heap.size<=g/\w1.heap[g]?=some (.cells cur 5 (0,0)):=by
  rcases hown1.2 with⟨_,h0⟩|⟨g,cap,cur,e,h2,h3,_⟩
  · omega
  · exact⟨g,cap,cur,e,h2,h3⟩
 injection e with e1 e2 e3
 subst e1 e3;refine⟨g',c',by simp,h2,hown1,HU.out.then (Upd.of_grown (S:=fun b=>b=w.heap.size) hg1 (fun c hc=>by simpa[Value.ownBlock] using hc.symm)) (fun c hc e=>by omega)⟩
theorem small_set {bs:Bs} (h:Small bs) (i:Nat) {x:Nat} (hx:x<256):Small (bs.set i x):=by
 intro y hy;rcases List.mem_or_eq_of_mem_set hy with hy|rfl
 · exact h y hy
 · exact hx
theorem next_c {w:World} {A:Option Addr} {c:Nat} {bs:Bs} (h:By w A 10 c bs) {y:Nat} (hy:bs[9]?=some y) (hy1:y<255):
 Calls Tryz.prog 117 #[.slice A 10 c] w fun e w'=>∃A' c',e=.returned (.slice A' 10 c')/\By w' A' 10 c' (bs.set 9 (y+1))/\New w w':=by
 obtain⟨g,o,rfl,_⟩:=h.addr (by omega);have b5:w.cell? ⟨g,o+9,none⟩=some (.int .u8 (y:Int)):=by
  have:=Sl.cell h.sl rfl (i:=9) (v:=Gl.u8 y) (by rw[List.getElem?_map,hy];rfl);exact this
 have a4:=cloneb_c h (by omega) (by omega);have a9:=h.sl.le;have b0:=h.sl.max;have a5:=zqH a4;have HY:=zqH hy;have a8:=zqH h.small;have b7:((y:Int) == 255)=false:=by simp;omega
 have b8:IntKind.u8.wrap ((y:Int)+1)=((y+1:Nat):Int):=by rw[IntKind.wrap_u8];omega
 clear a4 hy h;go_enter Tryz.func117,Tryz.ntmps117;go_wp2
 go_loopw [3] (fun s wr=>s=.int .i64 10/\wr=w) (fun _ _=>0)
 case atStart=>exact⟨rfl,rfl⟩
 case round=>
  obtain⟨rfl,rfl⟩:=hrel
  go_upto_region 7 with(go_at_call 176;refine a5.out.mono ?_;rintro e w1 ⟨g',c',rfl,d0,ho,hn⟩;have H1:=zqH (zN ho hn);clear a5 ho hn)
  obtain⟨ho,hn⟩:=H1.out;have x9:w1.cell? ⟨g',9,none⟩=some (.int .u8 (y:Int)):=own_cell ho (j:=9) (by rw[List.getElem?_map,HY.out];rfl);have y9:w1.frozen? ⟨g',9,none⟩=false:=by
   obtain⟨cur,h1,h2,_⟩:=own_blk ho;exact zad h1 9
  have a1:=zbo ho (i:=9) (by omega) (.int .u8 ((y:Int)+1));have hu:Upd (fun b=>b=g') w1 (w1.setCell ⟨g',9,none⟩ (.int .u8 ((y:Int)+1))):=Upd.setCell w1 _ rfl;have HE:=zqH (zN a1 (hn.then hu (fun b hb e=>by have e:b=g':=e;omega)));clear a1 hu ho hn;go_wp2;go_ret;obtain⟨a1,hu⟩:=HE.out;refine⟨some ⟨g',0,none⟩,c',rfl,By.of_own (e:=5) (base:=wr.heap.size) ?_ (small_set a8.out 9 (by omega)),hu⟩;rw[List.map_set];exact a1
theorem used_n (w:World) (h m kind a:Int) (fa:Bool) (ha:fa=false->a=0):Calls Tryz.prog 200 #[.agg #[.int .u8 h,.int .u8 m,.bool fa,.bool false,.bool false],.agg #[.int .i64 kind,.int .u64 a,.int .u64 0]] w fun e w'=>e=.returned (.agg #[.int .i64 kind,.int .u64 a,.int .u64 0])/\New w w':=by
 cases fa with
 | false=>
   obtain rfl:=ha rfl;go_enter Tryz.func200,Tryz.ntmps200;go_wp2;refine bodyPost_ret (by simp[results,Tryz.results200,go_sem];try rfl) rfl ?_
   exact⟨rfl,((zU _ _ _).trans (zU _ _ _)).trans (zU _ _ _)⟩
 | true=>
   clear ha;go_enter Tryz.func200,Tryz.ntmps200;go_wp2;refine bodyPost_ret (by simp[results,Tryz.results200,go_sem];try rfl) rfl ?_
   exact⟨rfl,((zU _ _ _).trans (zU _ _ _)).trans (zU _ _ _)⟩
theorem formk1 (w:World):Calls Tryz.prog 173 #[.int .i64 1] w fun e w'=>e=.returned (.tuple #[.agg #[.int .u8 112,.int .u8 0,.bool false,.bool false,.bool false],.bool true])/\New w w':=form_c w 1 _ _ _ _ _ (by omega) (by omega) (fun W=>by kernel_rfl)
theorem formk2 (w:World):Calls Tryz.prog 173 #[.int .i64 2] w fun e w'=>e=.returned (.tuple #[.agg #[.int .u8 99,.int .u8 0,.bool false,.bool false,.bool false],.bool true])/\New w w':=form_c w 2 _ _ _ _ _ (by omega) (by omega) (fun W=>by kernel_rfl)
theorem formk3 (w:World):Calls Tryz.prog 173 #[.int .i64 3] w fun e w'=>e=.returned (.tuple #[.agg #[.int .u8 109,.int .u8 0,.bool false,.bool false,.bool false],.bool true])/\New w w':=form_c w 3 _ _ _ _ _ (by omega) (by omega) (fun W=>by kernel_rfl)
theorem formk4 (w:World):Calls Tryz.prog 173 #[.int .i64 4] w fun e w'=>e=.returned (.tuple #[.agg #[.int .u8 97,.int .u8 0,.bool true,.bool false,.bool false],.bool true])/\New w w':=form_c w 4 _ _ _ _ _ (by omega) (by omega) (fun W=>by kernel_rfl)
theorem formk5 (w:World):Calls Tryz.prog 173 #[.int .i64 5] w fun e w'=>e=.returned (.tuple #[.agg #[.int .u8 118,.int .u8 48,.bool true,.bool false,.bool false],.bool true])/\New w w':=form_c w 5 _ _ _ _ _ (by omega) (by omega) (fun W=>by kernel_rfl)
theorem formk6 (w:World):Calls Tryz.prog 173 #[.int .i64 6] w fun e w'=>e=.returned (.tuple #[.agg #[.int .u8 118,.int .u8 100,.bool true,.bool true,.bool false],.bool true])/\New w w':=form_c w 6 _ _ _ _ _ (by omega) (by omega) (fun W=>by kernel_rfl)
theorem usedk1 (w:World):Calls Tryz.prog 200 #[.agg #[.int .u8 112,.int .u8 0,.bool false,.bool false,.bool false],.agg #[.int .i64 1,.int .u64 0,.int .u64 0]] w fun e w'=>e=.returned (.agg #[.int .i64 1,.int .u64 0,.int .u64 0])/\New w w':=used_n w _ _ _ _ _ (by simp)
theorem usedk2 (w:World):Calls Tryz.prog 200 #[.agg #[.int .u8 99,.int .u8 0,.bool false,.bool false,.bool false],.agg #[.int .i64 2,.int .u64 0,.int .u64 0]] w fun e w'=>e=.returned (.agg #[.int .i64 2,.int .u64 0,.int .u64 0])/\New w w':=used_n w _ _ _ _ _ (by simp)
theorem usedk3 (w:World):Calls Tryz.prog 200 #[.agg #[.int .u8 109,.int .u8 0,.bool false,.bool false,.bool false],.agg #[.int .i64 3,.int .u64 0,.int .u64 0]] w fun e w'=>e=.returned (.agg #[.int .i64 3,.int .u64 0,.int .u64 0])/\New w w':=used_n w _ _ _ _ _ (by simp)
theorem usedk4 (w:World):Calls Tryz.prog 200 #[.agg #[.int .u8 97,.int .u8 0,.bool true,.bool false,.bool false],.agg #[.int .i64 4,.int .u64 16,.int .u64 0]] w fun e w'=>e=.returned (.agg #[.int .i64 4,.int .u64 16,.int .u64 0])/\New w w':=used_n w _ _ _ _ _ (by simp)
theorem usedk5 (w:World):Calls Tryz.prog 200 #[.agg #[.int .u8 118,.int .u8 48,.bool true,.bool false,.bool false],.agg #[.int .i64 5,.int .u64 16,.int .u64 0]] w fun e w'=>e=.returned (.agg #[.int .i64 5,.int .u64 16,.int .u64 0])/\New w w':=used_n w _ _ _ _ _ (by simp)
def FstR (w:World) (bs:List Nat) (e:Ending) (w':World):Prop:=∃A n c,e=.returned (.slice A n c)/\By w' A n c bs/\New w w'
theorem fst_of {w:World} {bs:List Nat} (hs:Small bs) {e:Ending} {w':World} (h:OwnR w bs e w'):FstR w bs e w':=by
 obtain⟨A,c,rfl,ho,hn⟩:=h;exact⟨A,_,c,rfl,By.of_own ho hs,hn⟩
theorem first_ff {w:World} (hd a:Nat) (bb:Bool) (h1:hd<256) (ha:a<18446744073709551616):
 Calls Tryz.prog 174 #[.agg #[.int .u8 (hd:Int),.int .u8 0,.bool false,.bool bb,.bool false],.int .u64 (a:Int)] w (OwnR w [hd]):=by
 obtain⟨i0,f5,f6,f7,f8⟩:=info_parts info5;have h8:=fun W=>eight_c (w:=W) a ha;have H8:=zqH h8;have HA:=zqH ha;obtain⟨y0,y1,y2,y3,y4,y5,y6,y7,a4⟩:=zbs (zah 8 a);have a7:eightV a=.agg #[.int .u8 (y0:Int),.int .u8 (y1:Int),.int .u8 (y2:Int),.int .u8 (y3:Int),.int .u8 (y4:Int),.int .u8 (y5:Int),.int .u8 (y6:Int),.int .u8 (y7:Int)]:=by unfold eightV;rw[a4];rfl
 have b0:=zqH a7;have e6:=zqH a4;clear h8 ha a7 a4;go_enter Tryz.func174,Tryz.ntmps174
 go_upto_region 4 with fail
 obtain⟨Wa,a1⟩:=zE (w.alloc (.cells #[.int .u8 (hd:Int),.int .u8 0,.bool false,.bool bb,.bool false] 254));obtain⟨Wb,a2⟩:=zE (Wa.alloc (.cells #[.int .u8 (hd:Int)] 5));have na:New w Wa:=by rw[a1];exact zU _ _ _
 have nb:New Wa Wb:=by rw[a2];exact zU _ _ _
 have sa:Wa.heap.size=w.heap.size+1:=by rw[a1];exact zab _ _
 have sb:Wb.heap.size=w.heap.size+1+1:=by rw[a2,zab,sa]
 have ba:Wb.heap[w.heap.size]?=some (.cells #[.int .u8 (hd:Int),.int .u8 0,.bool false,.bool bb,.bool false] 254 (0,0)):=(nb.block _ (by omega) id).trans (by rw[a1];exact zX w _);have ho:Wb.ownsRow w.heap.size 5 1 (.slice (some ⟨w.heap.size+1,0,none⟩) 1 1) 1 [.int .u8 (hd:Int)]:=by
  have:=own_one (v:=.int .u8 (hd:Int)) (o:=.cells #[] 5) a2;rw[sa]at this;obtain⟨g1,⟨g2,g3⟩|⟨g,cap,cur,g2,g3,g4⟩⟩:=this
  · cases g2
  · exact⟨g1,.inr ⟨g,cap,cur,g2,by omega,g4⟩⟩
 rw[<-a1,<-a2];clear a1 a2;have HO:=zqH ho;have HB:=zqH ba;have HN:=zqH (na.trans nb);have SB:=zqH sb;clear ho ba na nb sa sb
 go_upto_region 5 with(go_at_call 201;refine(H8.out Wb).mono ?_;rintro e Wc ⟨rfl,hc⟩;rw[b0.out];have HC:=zqH hc;clear hc)
 obtain⟨Wd,a5⟩:=zE (Wc.alloc (.cells #[.int .u8 (y0:Int),.int .u8 (y1:Int),.int .u8 (y2:Int),.int .u8 (y3:Int),.int .u8 (y4:Int),.int .u8 (y5:Int),.int .u8 (y6:Int),.int .u8 (y7:Int)] 279));rw[<-a5];have nd:New Wb Wd:=by rw[a5];exact HC.out.trans (zU _ _ _)
 have a8:=zae HO.out (fun b hb hl=>nd.block b hl id);have a3:=(nd.block _ (by have:=SB.out;omega) id).trans HB.out;have f1:Wd.cell? ⟨w.heap.size,1,none⟩=some (.int .u8 0):=zaa a3 1 _ rfl;have f2:Wd.cell? ⟨w.heap.size,2,none⟩=some (.bool false):=zaa a3 2 _ rfl;have ND:=zqH (HN.out.trans nd);have b6:=zqH a8;clear a5 nd a8 a3;go_wp2;go_ret;exact⟨_,_,rfl,by simpa using b6.out,ND.out⟩
theorem first_tf {w:World} (hd a:Nat) (bb:Bool) (h1:hd<256) (ha:a<18446744073709551616):
 Calls Tryz.prog 174 #[.agg #[.int .u8 (hd:Int),.int .u8 0,.bool true,.bool bb,.bool false],.int .u64 (a:Int)] w (OwnR w (hd :: be 8 a)):=by
 obtain⟨i0,e8,e9,f0,f3⟩:=info_parts info5;have h8:=fun W=>eight_c (w:=W) a ha;have H8:=zqH h8;have HA:=zqH ha;obtain⟨y0,y1,y2,y3,y4,y5,y6,y7,b0⟩:=zbs (zah 8 a);have b6:eightV a=.agg #[.int .u8 (y0:Int),.int .u8 (y1:Int),.int .u8 (y2:Int),.int .u8 (y3:Int),.int .u8 (y4:Int),.int .u8 (y5:Int),.int .u8 (y6:Int),.int .u8 (y7:Int)]:=by unfold eightV;rw[b0];rfl
 have d7:=zqH b6;have d8:=zqH b0;clear h8 ha b6 b0;go_enter Tryz.func174,Tryz.ntmps174
 go_upto_region 4 with fail
 obtain⟨Wa,a3⟩:=zE (w.alloc (.cells #[.int .u8 (hd:Int),.int .u8 0,.bool true,.bool bb,.bool false] 254));obtain⟨Wb,a4⟩:=zE (Wa.alloc (.cells #[.int .u8 (hd:Int)] 5));have na:New w Wa:=by rw[a3];exact zU _ _ _
 have nb:New Wa Wb:=by rw[a4];exact zU _ _ _
 have sa:Wa.heap.size=w.heap.size+1:=by rw[a3];exact zab _ _
 have sb:Wb.heap.size=w.heap.size+1+1:=by rw[a4,zab,sa]
 have ba:Wb.heap[w.heap.size]?=some (.cells #[.int .u8 (hd:Int),.int .u8 0,.bool true,.bool bb,.bool false] 254 (0,0)):=(nb.block _ (by omega) id).trans (by rw[a3];exact zX w _);have ho:Wb.ownsRow w.heap.size 5 1 (.slice (some ⟨w.heap.size+1,0,none⟩) 1 1) 1 [.int .u8 (hd:Int)]:=by
  have:=own_one (v:=.int .u8 (hd:Int)) (o:=.cells #[] 5) a4;rw[sa]at this;obtain⟨g1,⟨g2,g3⟩|⟨g,cap,cur,g2,g3,g4⟩⟩:=this
  · cases g2
  · exact⟨g1,.inr ⟨g,cap,cur,g2,by omega,g4⟩⟩
 rw[<-a3,<-a4];clear a3 a4;have HO:=zqH ho;have HB:=zqH ba;have HN:=zqH (na.trans nb);have SB:=zqH sb;clear ho ba na nb sa sb
 go_upto_region 5 with(go_at_call 201;refine(H8.out Wb).mono ?_;rintro e Wc ⟨rfl,hc⟩;rw[d7.out];have HC:=zqH hc;clear hc)
 obtain⟨Wd,a7⟩:=zE (Wc.alloc (.cells #[.int .u8 (y0:Int),.int .u8 (y1:Int),.int .u8 (y2:Int),.int .u8 (y3:Int),.int .u8 (y4:Int),.int .u8 (y5:Int),.int .u8 (y6:Int),.int .u8 (y7:Int)] 279));rw[<-a7];have nd:New Wb Wd:=by rw[a7];exact HC.out.trans (zU _ _ _)
 have bd:=zX Wc (.cells #[.int .u8 (y0:Int),.int .u8 (y1:Int),.int .u8 (y2:Int),.int .u8 (y3:Int),.int .u8 (y4:Int),.int .u8 (y5:Int),.int .u8 (y6:Int),.int .u8 (y7:Int)] 279);rw[<-a7]at bd;have a8:Gl.Src Wd (some ⟨Wc.heap.size,0,none⟩) 8 ((be 8 a).map Gl.u8):=fun _=>⟨_,_,rfl,fun j u hu=>by
  rw[d8.out]at hu;rw[Nat.zero_add];exact zaa bd j u (by simpa using hu)⟩
 have b7:=zae HO.out (fun b hb hl=>nd.block b hl id);have a6:=(nd.block _ (by have:=SB.out;omega) id).trans HB.out;have f1:Wd.cell? ⟨w.heap.size,1,none⟩=some (.int .u8 0):=zaa a6 1 _ rfl;have f2:Wd.cell? ⟨w.heap.size,2,none⟩=some (.bool true):=zaa a6 2 _ rfl;have ND:=zqH (HN.out.trans nd);have HS:=zqH a8;have e2:=zqH b7;have b8:=zqH a6;clear a7 nd bd a8 b7 a6
 go_upto_region 6 with fail
 go_upto_region 7 with(at_builtin;refine wpList_append_src _ rfl _ _ _ rfl w.heap.size 5 i0 _ 1 1 Tryz.underlying113 e8 e9 f0 f3 rfl (by omega) (.slice (some ⟨w.heap.size+1,0,none⟩) 1 1) 1 [.int .u8 (hd:Int)] rfl e2.out (some ⟨Wc.heap.size,0,none⟩) 8 8 ((be 8 a).map Gl.u8) rfl (by simp only[List.length_map,zah]) HS.out (zav _) (by decide) (by decide) ND.out.size ?_;intro A' c' w1 a1 a5 a2;have e3:=zqH (zN a1 (zN a5 a2));clear a1 a5 a2)
 obtain⟨a1,a5,a2⟩:=e3.out;have a9:Upd (fun b=>b=w.heap.size+1) Wd w1:=Upd.of_grown a5 (fun c hc=>by cases hc;rfl);have b9:New w w1:=ND.out.then a9 (fun b hb e=>by have e:b=w.heap.size+1:=e;omega);have e4:=ND.out.size;have c5:=(zqA.1 b8.out).1;have c6:=(a9.block w.heap.size c5 (by omega)).trans b8.out;have g1:w1.cell? ⟨w.heap.size,1,none⟩=some (.int .u8 0):=zaa c6 1 _ rfl;have e5:=zqH b9;have e6:=zqH a1;clear a1 a5 a2 a9 b9 c6 f1 f2 c5 e4;go_wp2;go_ret;have hl:(hd :: be 8 a).length=9:=by simp[zah]
 unfold OwnR;rw[hl];exact⟨A',c',rfl,by simpa using e6.out,e5.out⟩
theorem make_nb {w:World} (kind:Int) (hd md a:Nat) (fa:Bool) (bs:List Nat) (hfi:∀W,Calls Tryz.prog 174 #[.agg #[.int .u8 (hd:Int),.int .u8 (md:Int),.bool fa,.bool false,.bool false],.int .u64 (a:Int)] W (FstR W bs)) (hus:∀W,Calls Tryz.prog 200 #[.agg #[.int .u8 (hd:Int),.int .u8 (md:Int),.bool fa,.bool false,.bool false],.agg #[.int .i64 kind,.int .u64 (a:Int),.int .u64 0]] W fun e w'=>e=.returned (.agg #[.int .i64 kind,.int .u64 (a:Int),.int .u64 0])/\New W w') (hf:∀W,Calls Tryz.prog 173 #[.int .i64 kind] W fun e w'=>e=.returned (.tuple #[.agg #[.int .u8 (hd:Int),.int .u8 (md:Int),.bool fa,.bool false,.bool false],.bool true])/\New W w'):
 Calls Tryz.prog 135 #[.agg #[.int .i64 kind,.int .u64 (a:Int),.int .u64 0]] w fun e w'=>∃A n c,e=.returned (.tuple #[.slice A n c,.int .i64 0])/\By w' A n c bs/\New w w':=by
 obtain⟨W1,a4⟩:=zE (w.alloc (.cells #[.int .i64 kind,.int .u64 (a:Int),.int .u64 0] 133));have n1:New w W1:=by rw[a4];exact zU _ _ _
 have b1:=zX w (.cells #[.int .i64 kind,.int .u64 (a:Int),.int .u64 0] 133);rw[<-a4]at b1;have s1:W1.heap.size=w.heap.size+1:=by rw[a4];exact zab _ _
 have l0:W1.cell? ⟨w.heap.size,0,none⟩=some (.int .i64 kind):=zaa b1 0 _ rfl;have HF:=zqH (hf W1);have N1:=zqH n1;have B1:=zqH b1;have S1:=zqH s1;have d5:=zqH hfi;have d6:=zqH (fun W=>eight_c (w:=W) 0 (by decide));have d7:=zqH hus;obtain⟨y0,y1,y2,y3,y4,y5,y6,y7,a7⟩:=zbs (zah 8 0);have a9:eightV 0=.agg #[.int .u8 (y0:Int),.int .u8 (y1:Int),.int .u8 (y2:Int),.int .u8 (y3:Int),.int .u8 (y4:Int),.int .u8 (y5:Int),.int .u8 (y6:Int),.int .u8 (y7:Int)]:=by unfold eightV;rw[a7];rfl
 have d8:=zqH a9;have f8:=zqH a7;clear hf hfi hus n1 b1 s1 a9 a7;go_enter Tryz.func135,Tryz.ntmps135
 go_upto_region 1 with fail
 rw[<-a4];clear a4
 go_upto_region 2 with(go_at_call 173;refine HF.out.mono ?_;rintro e W2 ⟨rfl,b9⟩;have d9:=zqH (zbc b9);clear HF b9)
 obtain⟨W3,a6⟩:=zE (W2.alloc (.cells #[.int .u8 (hd:Int),.int .u8 (md:Int),.bool fa,.bool false,.bool false] 254));rw[<-a6];have n3:New W1 W3:=by rw[a6];exact d9.out.trans (zU _ _ _)
 have b3:=zX W2 (.cells #[.int .u8 (hd:Int),.int .u8 (md:Int),.bool fa,.bool false,.bool false] 254);rw[<-a6]at b3;have a1:∀W',New W3 W'->W'.cell? ⟨W2.heap.size,0,none⟩=some (.int .u8 (hd:Int))/\W'.cell? ⟨W2.heap.size,1,none⟩=some (.int .u8 (md:Int))/\W'.cell? ⟨W2.heap.size,2,none⟩=some (.bool fa)/\W'.cell? ⟨W2.heap.size,3,none⟩=some (.bool false)/\W'.cell? ⟨W2.heap.size,4,none⟩=some (.bool false)/\W'.cell? ⟨w.heap.size,0,none⟩=some (.int .i64 kind)/\W'.cell? ⟨w.heap.size,1,none⟩=some (.int .u64 (a:Int))/\W'.cell? ⟨w.heap.size,2,none⟩=some (.int .u64 0):=fun W' hn'=>by
  have k3:=(hn'.block _ (zqA.1 b3).1 id).trans b3;have k1:=((n3.trans hn').block _ (zqA.1 B1.out).1 id).trans B1.out;exact⟨zaa k3 0 _ rfl,zaa k3 1 _ rfl,zaa k3 2 _ rfl,zaa k3 3 _ rfl,zaa k3 4 _ rfl,zaa k1 0 _ rfl,zaa k1 1 _ rfl,zaa k1 2 _ rfl⟩
 obtain⟨g0,g1,g2,g3,g4,g5,g6,g7⟩:=a1 W3 (Upd.refl _ _);have HC:=zqH a1;have N3:=zqH (N1.out.trans n3);clear a1 n3 b3 a6 l0
 go_region_held (fun w'=>w'.cell? ⟨W2.heap.size,0,none⟩=some (.int .u8 (hd:Int))/\w'.cell? ⟨W2.heap.size,1,none⟩=some (.int .u8 (md:Int))/\w'.cell? ⟨W2.heap.size,2,none⟩=some (.bool fa)/\w'.cell? ⟨W2.heap.size,3,none⟩=some (.bool false)/\w'.cell? ⟨W2.heap.size,4,none⟩=some (.bool false)/\w'.cell? ⟨w.heap.size,0,none⟩=some (.int .i64 kind)/\w'.cell? ⟨w.heap.size,1,none⟩=some (.int .u64 (a:Int))/\w'.cell? ⟨w.heap.size,2,none⟩=some (.int .u64 0)) (go_keep) (
  (go_at_call 200
   refine(d7.out _).mono ?_
   rintro e W4 ⟨rfl,c6⟩;have b5:=zbc c6;have a3:New W3 W4:=(Upd.refl _ W3).drew.trans b5;obtain⟨r0,r1,r2,r3,r4,r5,r6,r7⟩:=HC.out _ a3;have H4:=zqH a3;clear b5 a3 c6))
 clear g0 g1 g2 g3 g4 g5 g6 g7
 go_upto_region 5 with(go_at_call 174;refine(d5.out W4).mono ?_;rintro e W5 ⟨A5,n5,c5,rfl,a5,a2⟩;have H5:=zqH (zN a5 a2);clear a5 a2)
 obtain⟨a5,a2⟩:=H5.out;obtain⟨t0,t1,t2,t3,t4,t5,t6,t7⟩:=HC.out _ (H4.out.trans a2);have e2:=zqH a5;have b6:=zqH a2;clear r0 r1 r2 r3 r4 r5 r6 r7 a5 a2
 go_upto_region 6 with(go_at_call 201;refine(d6.out W5).mono ?_;rintro e W6 ⟨rfl,d0⟩;rw[d8.out];have H6:=zqH d0;clear d0)
 obtain⟨Wd,a8⟩:=zE (W6.alloc (.cells #[.int .u8 (y0:Int),.int .u8 (y1:Int),.int .u8 (y2:Int),.int .u8 (y3:Int),.int .u8 (y4:Int),.int .u8 (y5:Int),.int .u8 (y6:Int),.int .u8 (y7:Int)] 279));rw[<-a8];have nd:New W5 Wd:=by rw[a8];exact H6.out.trans (zU _ _ _)
 have p3:Wd.cell? ⟨W2.heap.size,3,none⟩=some (.bool false):=(HC.out _ (H4.out.trans (b6.out.trans nd))).2.2.2.1;have ND:=zqH nd;clear a8 nd t0 t1 t2 t3 t4 t5 t6 t7;go_wp2
 go_ret2
 exact⟨A5,n5,c5,rfl,e2.out.new ND.out,((N3.out.trans H4.out).trans b6.out).trans ND.out⟩
end Gz

/- Part of the proof. -/
import Derived.Test.YtbhnjkegkadodaaGreatDoorG09
import Derived.Test.YtbhnjkegkadodaaGreatDoorG13
set_option linter.all false
set_option maxRecDepth 100000
set_option maxHeartbeats 8000000
namespace Gz
open Go Go.RowKit Go.Proofs Gl
theorem nb_bits (x:Nat):(bitsN x+7) / 8=F1.nb x:=by
 unfold bitsN F1.nb;by_cases h:x=0
 · rw[if_pos h,if_pos h]
 · rw[if_neg h,if_neg h];omega
theorem byte_of_limb {l:List Nat} (hl:Gn.Lim l) {q r:Nat} (hq:q<l.length) (hr:r<8):l[q] / 2 ^ (8*r) % 256=Gn.val l / 2 ^ (8*(8*q+r)) % 256:=by
 have h1:=Gn.val_split l q (by omega);have h2:Gn.val (l.take q)<Gn.B ^ q:=by
  have:=Gn.val_lt (hl.take q)
  rwa [List.length_take_of_le (by omega)]at this
 have h3:l.drop q=l[q] :: l.drop (q+1):=List.drop_eq_getElem_cons hq;rw[h3,Gn.val_cons]at h1;have hB:Gn.B ^ q=2 ^ (8*(8*q)):=by unfold Gn.B;rw[show(18446744073709551616:Nat)=2 ^ 64 by decide,<-Nat.pow_mul];congr 1;omega
 have e:Gn.val l / Gn.B ^ q=l[q]+Gn.B*Gn.val (l.drop (q+1)):=by
  rw[h1,Nat.add_mul_div_left _ _ (Nat.pow_pos Gn.B_pos),Nat.div_eq_of_lt h2,Nat.zero_add]
 rw[Nat.mul_add,Nat.pow_add,<-hB,<-Nat.div_div_eq_div_mul,e];have e2:Gn.B*Gn.val (l.drop (q+1))=2 ^ (8*r)*(256*(2 ^ (56-8*r)*Gn.val (l.drop (q+1)))):=by
  have:Gn.B=2 ^ (8*r)*(256*2 ^ (56-8*r)):=by
   rw[show(256:Nat)=2 ^ 8 by decide,<-Nat.pow_add,<-Nat.pow_add,show 8*r+(8+(56-8*r))=64 by omega];rfl
  rw[this,Nat.mul_assoc,Nat.mul_assoc]
 rw[e2,Nat.add_mul_div_left _ _ (Nat.pow_pos (by decide)),Nat.add_mul_mod_self_left]
theorem run_make_bytes (n:Nat) (hn:n<=1073741824) (w:World):
 (Instr.makeSlice 113 (.int .i64 (n:Int)) (.int .i64 (n:Int))).run Tryz.prog w=.ok (.slice (some ⟨w.heap.size,0,none⟩) n n) (w.alloc (.cells ((List.replicate n 0).map u8).toArray 5)):=by
 obtain⟨i0,a1,a2,a3,a4⟩:=info_parts info5;have hr:=run_make (P:=Tryz.prog) w 113 5 i0 (.int .u8 0) Tryz.underlying113 a1 a2 .i64 .i64 n n (by omega) (by omega) (by rw[a4];omega) (by omega);simp only[Int.toNat_natCast,a3,Nat.mul_one]at hr;rw[hr];have e:madeCells (Value.int .u8 0).cells n=((List.replicate n 0).map u8).toArray:=by
  apply Array.ext';apply List.ext_getElem
  · simp[madeCells]
  · intro j h1 h2;simp[madeCells,Value.cells,Nat.mod_one]
 rw[e]
theorem rep_set (m x:Nat) (bs:List Nat):(List.replicate (m+1) 0 ++ bs).set m x=List.replicate m 0 ++ x :: bs:=by
 rw[List.replicate_succ',List.append_assoc,List.set_append_right _ _ (by simp)];simp
def BytR (w:World) (x:Nat) (e:Ending) (w':World):Prop:=∃A c,e=.returned (.slice A (F1.nb x) c)/\By w' A (F1.nb x) c (be (F1.nb x) x)/\New w w'/\∀a,A=some a->w.heap.size<=a.block
theorem nbytes {Q:Nat->Prop} {w:World} {A:Option Addr} {n c x:Nat} (h:LQ Q w A n c x):Calls Tryz.prog 287 #[.slice A n c] w (BytR w x):=by
 have hf:=h.few;obtain⟨l,h1,rfl⟩:=h.nat;have hB:=zqH (Bits_c h1 (by omega));have a4:=h1.len;have a1:=h1.lim;obtain⟨N,hN⟩:=zE (F1.nb (Gn.val l));have a5:(bitsN (Gn.val l)+7) / 8=N:=by rw[nb_bits,hN]
 have e5:N<=8*n:=by
  rw[hN];refine F1.nb_le ?_
  have:=Gn.val_lt a1;rw[a4]at this
  rwa [Nat.pow_mul,show(256:Nat) ^ 8=Gn.B by decide]
 obtain⟨b,hb⟩:=zE (bitsN (Gn.val l));rw[<-hb]at hB a5;have e2:((b:Int)+7).tdiv 8=(N:Int):=by
  rw[<-a5,Int.tdiv_eq_ediv_of_nonneg (by omega)];omega
 unfold BytR;rw[<-hN];obtain⟨X,hX⟩:=zE (Gn.val l);rw[<-hX]at hN ⊢;have HX:=zqH hX;have HN:=zqH hN;have HL:=zqH h1;have c5:=zqH a1;have a8:=zqH a4;have e7:b<=64000+1000:=by omega
 have e8:=fun W=>run_make_bytes N (by omega) W;clear hX hN h1 a1 a4 h hb a5;go_enter Tryz.func287,Tryz.ntmps287
 go_wp2_with (go_at_call 76;refine hB.out.mono ?_;rintro e w' ⟨rfl,rfl⟩)
 go_loopw [13] (fun i wr=>∃(k:Nat),k<=N/\i=.int .i64 (k:Int)/\Hid (wr.heap[w.heap.size]?=some (.cells ((List.replicate (N-k) 0 ++ be k X).map u8).toArray 5 (0,0))/\New w wr)) (fun i _=>N-(intOf i).toNat)
 case atStart=>
  refine⟨0,Nat.zero_le _,rfl,zqH ⟨?_,zU _ _ _⟩⟩;rw[zX w _];simp[be]
 case round=>
  obtain⟨k,hk,rfl,hI⟩:=hrel;by_cases hkN:k<N
  · obtain⟨hh,hn⟩:=hI.out;have hq:k / 8<l.length:=(by rw[a8.out];omega);obtain⟨b0,off,rfl,a3⟩:=HL.out.row (by omega);obtain⟨z,hz⟩:=zE (l[k / 8]);have e9:wr.cell? ⟨b0,off+k / 8,none⟩=some (.int .u64 (z:Int)):=by
     have h0:=HL.out.cell rfl (k / 8) hq;rw[hz,hn.cell (a:=⟨b0,off+k / 8,none⟩) a3.lt id];exact h0
    obtain⟨y,hy⟩:=zE (z / 2 ^ (8*(k % 8)));have a9:y % 256=X / 2 ^ (8*k) % 256:=by
     rw[hy,hz,HX.out,byte_of_limb c5.out hq (Nat.mod_lt _ (by omega)),show 8*(k / 8)+k % 8=k by omega]
    have f2:∀W,(Op.shift .shr .u64 (z:Int) .i64 (IntKind.i64.wrap (8*(k:Int).tmod 8))).run Tryz.prog W=.ok (.int .u64 ((y:Nat):Int)) W:=fun W=>by
     rw[hy];refine run_shr_nat z (8*(k % 8)) _ ?_ (by omega) W;rw[Int.tmod_eq_emod_of_nonneg (by omega),IntKind.wrap_i64];omega
    have f3:(k:Int).tdiv 8=((k / 8:Nat):Int):=(by rw[Int.tdiv_eq_ediv_of_nonneg (by omega)];omega);have f4:k / 8<n:=(by rw[<-a8.out];exact hq);have f5:n<=c/\c<=maxLen:=⟨HL.out.le,HL.out.max⟩
    have hg:wr.frozen? ⟨w.heap.size,N-1-k,none⟩=false:=zad hh _;have c6:∃u,wr.cell? ⟨w.heap.size,N-1-k,none⟩=some u:=⟨_,zaa hh _ _ (by rw[Array.getElem?_eq_getElem (by simp[zah];omega)])⟩
    obtain⟨u,f9⟩:=c6;have HH:=zqH hh;have d0:=zqH hn;have HY:=zqH a9;have d5:=zqH hy;have f8:IntKind.u8.wrap (y:Int)=((y % 256:Nat):Int):=wrap_u8_nat y;clear hh hn a9 hy hz a3 hq;go_wp2;obtain⟨m,hm⟩:=zE (N-1-k);have hv:(Value.int .u8 ((z:Int) / 2 ^ (8*(k % 8)) % 256))=u8 (X / 2 ^ (8*k) % 256):=by
     rw[<-HY.out,d5.out];congr 1
    rw[hv];refine⟨⟨k+1,by omega,by congr 1,zqH ⟨?_,?_⟩⟩,by simp[intOf];omega⟩
    · rw[zac HH.out,<-hm,show N-k=m+1 by omega,show N-(k+1)=m by omega,List.setIfInBounds_toArray,<-List.map_set,rep_set];rfl
    · exact d0.out.then (Upd.setCell (S:=fun b=>b=w.heap.size) wr _ rfl) (fun b hb e=>by omega)
  · obtain rfl:k=N:=(by omega);obtain⟨hh,hn⟩:=hI.out;rw[Nat.sub_self,List.replicate_zero,List.nil_append]at hh;have b5:By wr (some ⟨w.heap.size,0,none⟩) k k (be k X):=by
     refine⟨⟨by simp[zah],zR _,by unfold maxLen;omega,fun _=>⟨_,_,rfl,(zqA.1 hh).1,fun i v hv=>?_⟩,fun e=>by cases e⟩,be_small _ _⟩;rw[Nat.zero_add];exact zaa hh i v (by simpa using hv)
    have d7:=zqH b5;have d8:=zqH hn;clear hh hn b5;go_wp2;go_ret;exact⟨_,_,rfl,d7.out,d8.out,fun a e=>by cases e;exact zR _⟩
theorem Wr.upd {T:Nat->Prop} {base bw:Nat} {w w':World} {A:Option Addr} {n c:Nat} {bs:List Nat} (h:Wr base bw w A n c bs) (hu:Upd T w w') (h1:¬T bw) (h2:∀b,(Value.slice A n c).ownBlock=some b->¬T b):Wr base bw w' A n c bs:=by
 obtain⟨t,ht⟩:=h.blk;exact⟨⟨t,(hu.block _ h.lt h1).trans ht⟩,zae h.own (fun b hb hl=>hu.block b hl (h2 b hb)),h.ne,h.small,h.hb⟩
theorem Wr.new {base bw:Nat} {w w':World} {A:Option Addr} {n c:Nat} {bs:List Nat} (h:Wr base bw w A n c bs) (hu:New w w'):Wr base bw w' A n c bs:=h.upd hu id (fun _ _=>id)
theorem Wr.own_lt {base bw:Nat} {w:World} {A:Option Addr} {n c:Nat} {bs:List Nat} (h:Wr base bw w A n c bs) {b:Nat} (hb:(Value.slice A n c).ownBlock=some b):b<w.heap.size:=(zal h.own hb).1
theorem Wrote.both {base bw:Nat} {w w1 w2 w3:World} {A A1 A2:Option Addr} {n c c1 c2 k k2:Nat} {bs news news2:List Nat} (hn:New w w1)
 (hu1:Upd (fun b=>b=bw\/(Value.slice A n c).ownBlock=some b) w1 w2) (hf1:(Value.slice A1 (n+k) c1).ownBlock=(Value.slice A n c).ownBlock\/∃g,(Value.slice A1 (n+k) c1).ownBlock=some g/\w1.heap.size<=g)
 (hw2:Wr base bw w3 A2 (n+k+k2) c2 (bs ++ news ++ news2)) (hu2:Upd (fun b=>b=bw\/(Value.slice A1 (n+k) c1).ownBlock=some b) w2 w3) (hf2:(Value.slice A2 (n+k+k2) c2).ownBlock=(Value.slice A1 (n+k) c1).ownBlock\/∃g,(Value.slice A2 (n+k+k2) c2).ownBlock=some g/\w2.heap.size<=g):
 Wrote base bw w A n c bs (k+k2) (news ++ news2) (.returned (.tuple #[])) w3:=by
 have a3:=hn.size;have a4:=hu1.size;refine⟨rfl,A2,c2,by rw[<-Nat.add_assoc,<-List.append_assoc];exact hw2,?_,?_⟩
 · refine((hn.mono (fun _ _ h=>h.elim)).trans hu1).then hu2 (fun b hb h=>?_);rcases h with h|h
   · exact .inl h
   · rcases hf1 with e|⟨g,e,hg⟩
     · rw[e]at h;exact .inr h
     · rw[e]at h;injection h with h;omega
 · rw[<-Nat.add_assoc];rcases hf2 with e|⟨g,e,hg⟩
   · rw[e];rcases hf1 with e1|⟨g,e1,hg⟩
     · exact .inl e1
     · exact .inr ⟨g,e1,by omega⟩
   · exact .inr ⟨g,e,by omega⟩
theorem wNat {Q:Nat->Prop} {base bw:Nat} {w:World} {A A2:Option Addr} {n c m d x:Nat} {bs:List Nat} (h:Wr base bw w A n c bs) (hx:LQ Q w A2 m d x) (hb:F1.nb x<=255) (hn:n+1000<=1073741824) (hbase:base<=w.heap.size):
 Calls Tryz.prog 268 #[.pointer (some ⟨bw,0,none⟩),.slice A2 m d] w (Wrote base bw w A n c bs (1+F1.nb x) (F1.nb x :: be (F1.nb x) x)):=by
 have h1:=nbytes hx;obtain⟨N,hN⟩:=zE (F1.nb x);unfold BytR at h1;rw[<-hN]at h1 hb ⊢;have hw:IntKind.u8.wrap (N:Int)=(N:Int):=by simp[IntKind.wrap,IntKind.bits,IntKind.signed];omega
 have H1:=zqH h1;have HW:=zqH h;clear hN h1 h hx;go_enter Tryz.func268,Tryz.ntmps268
 go_wp2_with (first
  | (go_at_call 287;refine H1.out.mono ?_;rintro e w1 ⟨A3,c3,rfl,a8,a1,a9⟩;have h2:=wU8 (HW.out.new a1) N (by omega) (by omega) (zT hbase a1.size);have H2:=zqH (zN a8 (zN a1 a9));clear H1 a8 a1 a9)
  | (go_at_call 288;refine h2.mono ?_;rintro e w2 ⟨rfl,A4,c4,a3,a2,a4⟩;have h3:=wall a3 (H2.out.1.upd a2 (fun a ha h0 hh=>by
      have h5:=H2.out.2.2 a ha;rcases hh with hh|hh
      · have:=HW.out.lt;omega
      · have:=HW.out.own_lt hh;omega)) (by omega) (zT hbase (zT H2.out.2.1.size a2.size));have H4:=zqH (zN a3 (zN a2 a4));clear h2 a3 a2 a4)
  | (go_at_call 289;refine h3.mono ?_;rintro e w3 ⟨rfl,A5,c5,a5,a6,a7⟩;have H5:=zqH (zN a5 (zN a6 a7));clear h3 a5 a6 a7))
 all_goals go_end0
 obtain⟨a8,a1,a9⟩:=H2.out;obtain⟨a3,a2,a4⟩:=H4.out;obtain⟨a5,a6,a7⟩:=H5.out;have e1:be 1 N=[N]:=by simp[be];omega
 have:=Wrote.both a1 a2 a4 a5 a6 a7;rw[e1]at this;exact this
theorem zab (w:World) (o:Obj):(w.alloc o).heap.size=w.heap.size+1:=by show(w.heap.push _).size=_;simp
theorem Wr.fresh {w:World} {bw:Nat} {t:TypeId} (h:w.heap[bw]?=some (.cells #[.slice none 0 0,.int .i64 0] t (0,0))):Wr bw bw w none 0 0 []:=
 ⟨⟨t,h⟩,World.ownsRow_nil _ _ _ _,fun a e=>(by cases e),fun b hb=>(by cases hb),zR _⟩
theorem wDec {Q:Nat->Prop} {base bw:Nat} {w:World} {A A2:Option Addr} {n c m d x:Nat} {bs:List Nat} (h:Wr base bw w A n c bs) (hx:LQ Q w A2 m d x) (hb:F1.nb x<=255) (hn:n+1000<=1073741824) (hbase:base<=w.heap.size):
 Calls Tryz.prog 240 #[.pointer (some ⟨bw,0,none⟩),.agg #[.slice A2 m d]] w (Wrote base bw w A n c bs (1+F1.nb x) (F1.nb x :: be (F1.nb x) x)):=by
 obtain⟨W,hW⟩:=zE (w.alloc (.cells #[.slice A2 m d] 26));have a1:New w W:=by rw[hW];exact zU _ _ _
 have h1:=wNat (h.new a1) (hx.new a1) hb hn (zT hbase a1.size);have H1:=zqH h1;have HN:=zqH a1;clear h1 a1 h hx hb hn hbase;go_enter Tryz.func240,Tryz.ntmps240
 go_wp2_with (rw[<-hW];go_at_call 268;refine H1.out.mono ?_;rintro e w1 ⟨rfl,hr⟩)
 go_end0
 obtain⟨A',c',hw,hu,hf⟩:=hr;refine⟨rfl,A',c',hw,(HN.out.mono (fun _ _ h=>h.elim)).trans hu,hf.imp id (fun⟨g,e,hg⟩=>⟨g,e,zT HN.out.size hg⟩)⟩
theorem short_c' {Q:Nat->Prop} {w:World} {A:Option Addr} {m d x:Nat} (hx:LQ Q w A m d x) (hb:F1.nb x<=255):
 Calls Tryz.prog 241 #[.agg #[.slice A m d]] w fun e w'=>e=.returned (.agg #[.slice A m d])/\New w w':=by
 obtain⟨W1,a1⟩:=zE (w.alloc (.cells #[.slice A m d] 26));obtain⟨W2,a2⟩:=zE (W1.alloc (.cells #[.slice none 0 0] 26));obtain⟨W3,a3⟩:=zE (W2.alloc (.cells #[.slice none 0 0,.int .i64 0] 285));have n1:New w W1:=by rw[a1];exact zU _ _ _
 have n2:New W1 W2:=by rw[a2];exact zU _ _ _
 have n3:New W2 W3:=by rw[a3];exact zU _ _ _
 have s1:W1.heap.size=w.heap.size+1:=by rw[a1];exact zab _ _
 have s2:W2.heap.size=w.heap.size+1+1:=by rw[a2,zab,s1]
 have b1:W3.heap[w.heap.size]?=some (.cells #[.slice A m d] 26 (0,0)):=(n3.block _ (by omega) id).trans ((n2.block _ (by omega) id).trans (by rw[a1];exact zX w _));have b2:W3.heap[w.heap.size+1]?=some (.cells #[.slice none 0 0] 26 (0,0)):=(n3.block _ (by omega) id).trans (by rw[a2,<-s1];exact zX W1 _);have b3:W3.heap[w.heap.size+1+1]?=some (.cells #[.slice none 0 0,.int .i64 0] 285 (0,0)):=by rw[a3,<-s2];exact zX W2 _
 have hn:New w W3:=n1.trans (n2.trans n3);have s3:W3.heap.size=w.heap.size+1+1+1:=by rw[a3,zab,s2]
 have hc:=zaa b1 0 _ rfl;have hd:=wDec (Wr.fresh b3) (hx.new hn) hb (by omega) (by omega);have HD:=zqH hd;have HN:=zqH hn;have B1:=zqH b1;have B2:=zqH b2;clear hd hn b1 b2 b3 hx n1 n2 n3;go_enter Tryz.func241,Tryz.ntmps241
 go_wp2_with (first
  | (rw[<-a1,<-a2,<-a3];go_at_call 240;refine HD.out.mono ?_;rintro e w1 ⟨rfl,A4,c4,b5,a4,b9⟩;have k1:=(a4.block _ (by omega) (fun h=>h.elim (fun h=>by omega) (fun h=>by cases h))).trans B1.out;have k2:=(a4.block _ (by omega) (fun h=>h.elim (fun h=>by omega) (fun h=>by cases h))).trans B2.out;have a6:=wOut b5 (by omega);have H4:=zqH a4;have K1:=zqH (zN k1 k2);clear b5 a4 b9 HD k1 k2 hc)
  | (go_at_call 203;refine a6.mono ?_;rintro e w2 ⟨A5,c5,rfl,_,a5,_⟩;have k1:=(a5.block _ (zqA.1 K1.out.1).1 id).trans K1.out.1;have k2:=(a5.block _ (zqA.1 K1.out.2).1 id).trans K1.out.2;have q1:=zaa k1 0 _ rfl;have q2:=zaa k2 0 _ rfl;have q3:=zad k2 0;have K2:=zqH k2;have b8:=zqH a5;clear a6 a5 k1 k2))
 have q0:(w2.setCell ⟨w.heap.size+1,0,none⟩ (.slice A m d)).cell? ⟨w.heap.size+1,0,none⟩=some (.slice A m d):=zaa (zac K2.out (.slice A m d) (i:=0)) 0 _ rfl;refine bodyPost_ret (by simp[results,Tryz.results241,go_sem,q0];try rfl) rfl ?_
 refine⟨rfl,?_⟩;exact(((HN.out.mono (fun _ _ h=>h.elim)).then H4.out (fun b hb h=>h.elim (fun h=>by omega) (fun h=>by cases h))).trans b8.out).then (Upd.setCell (S:=fun b=>b=w.heap.size+1) w2 _ rfl) (fun b hb e=>by omega)
theorem Wrote.from {base bw:Nat} {w w1:World} {A:Option Addr} {n c k:Nat} {bs news:List Nat} {e:Ending} {w2:World} (hn:New w w1) (h:Wrote base bw w1 A n c bs k news e w2):Wrote base bw w A n c bs k news e w2:=by
 obtain⟨he,A',c',hw,hu,hf⟩:=h;exact⟨he,A',c',hw,(hn.mono (fun _ _ h=>h.elim)).trans hu,hf.imp id (fun⟨g,e,hg⟩=>⟨g,e,zT hn.size hg⟩)⟩
theorem wdecs {Q:Nat->Prop} {base bw lb bx ox:Nat} {w:World} {A A2:Option Addr} {n c m d x:Nat} {bs:List Nat} (h:Wr base bw w A n c bs) (hx:LQ Q w A2 m d x) (hb:F1.nb x<=255) (hn:n+1000<=1073741824) (hbase:base<=w.heap.size)
 (hl:w.cell? ⟨lb,0,none⟩=some (.pointer (some ⟨bx,ox,none⟩))) (hc:w.cell? ⟨bx,ox,none⟩=some (.slice A2 m d)) (hbx1:bx≠bw) (hbx2:(Value.slice A n c).ownBlock≠some bx):
 Calls Tryz.prog 204 #[.agg #[.pointer (some ⟨bw,0,none⟩),.pointer none],.slice (some ⟨lb,0,none⟩) 1 1] w (Wrote base bw w A n c bs (1+F1.nb x) (F1.nb x :: be (F1.nb x) x)):=by
 obtain⟨W,hW⟩:=zE (w.alloc (.cells #[.pointer (some ⟨bw,0,none⟩),.pointer none] 288));have a2:New w W:=by rw[hW];exact zU _ _ _
 have a9:=zX w (.cells #[.pointer (some ⟨bw,0,none⟩),.pointer none] 288);rw[<-hW]at a9;have b6:=(a2.cell (a:=⟨lb,0,none⟩) (zqB w _ hl) id).trans hl;have a3:=(a2.cell (a:=⟨bx,ox,none⟩) (zqB w _ hc) id).trans hc;have a4:=zaa a9 0 _ rfl;have c6:=h.lt;have hol:=fun b hb=>h.own_lt (b:=b) hb;have a5:=zqB w _ hc;have a6:∀w5 w6,New w w5->Upd (fun b=>b=bw\/(Value.slice A n c).ownBlock=some b) w5 w6->w5.cell? ⟨w.heap.size,0,none⟩=some (.pointer (some ⟨bw,0,none⟩))->w.heap.size<w5.heap.size->w5.cell? ⟨bx,ox,none⟩=some (.slice A2 m d)->w6.cell? ⟨w.heap.size,0,none⟩=some (.pointer (some ⟨bw,0,none⟩))/\w6.cell? ⟨bx,ox,none⟩=some (.slice A2 m d):=fun w5 w6 h5 h6 k1 k3 k2=>
  ⟨(h6.cell (a:=⟨w.heap.size,0,none⟩) k3 (fun h=>h.elim (fun h=>by have h:w.heap.size=bw:=h;omega) (fun h=>by have:=hol _ h;exact Nat.lt_irrefl _ this))).trans k1,(h6.cell (a:=⟨bx,ox,none⟩) (zqL a5 h5.size) (fun h=>h.elim hbx1 hbx2)).trans k2⟩
 have b7:=zqH a6;have b8:w.heap.size<W.heap.size:=by rw[hW,zab];omega
 have b9:=zqH b8;have a7:∀W',New w W'->Calls Tryz.prog 241 #[.agg #[.slice A2 m d]] W' _:=fun W' hn'=>short_c' (hx.new hn') hb;have a8:∀W',New w W'->Calls Tryz.prog 240 #[.pointer (some ⟨bw,0,none⟩),.agg #[.slice A2 m d]] W' _:=fun W' hn'=>wDec (h.new hn') (hx.new hn') hb hn (zT hbase hn'.size);have H1:=zqH a7;have H0:=zqH a8;have HN:=zqH a2;have HC:=zqH (zN b6 (zN a3 a4));clear a7 a8 a2 h hx hb hn hbase hl hc a9 a6 c6 hol a5 hbx1 hbx2 b8;go_enter Tryz.func204,Tryz.ntmps204;go_wp2;rw[<-hW];have d9:=zqH hW;clear hW
 go_loopw [8] (fun i wr=>(i=.int .i64 0/\wr=W)\/(i=.int .i64 1/\Hid (Wrote base bw w A n c bs (1+F1.nb x) (F1.nb x :: be (F1.nb x) x) (.returned (.tuple #[])) wr))) (fun i _=>1-(intOf i).toNat)
 case atStart=>exact .inl ⟨rfl,rfl⟩
 case round=>
  rcases hrel with⟨rfl,rfl⟩|⟨rfl,hw⟩
  · obtain⟨b6,a3,a4⟩:=HC.out;simp only[List.getElem_toArray,List.getElem_cons_zero]at a4;go_wp2
    go_region_held (fun w'=>w'.cell? ⟨w.heap.size,0,none⟩=some (.pointer (some ⟨bw,0,none⟩))/\w'.cell? ⟨bx,ox,none⟩=some (.slice A2 m d)) (go_keep) (first
     | (go_at_call 241;refine(H1.out _ HN.out.drew).mono ?_;rintro e w5 ⟨rfl,a1⟩;have f0:=(a1.cell (a:=⟨w.heap.size,0,none⟩) b9.out id).trans a4;have f1:=(a1.cell (a:=⟨bx,ox,none⟩) (zqB wr _ a3) id).trans a3;have c5:New w w5:=HN.out.drew.trans a1;have d0:=zqH (zqL b9.out a1.size);have b0:=zqH c5;clear a1 c5)
     | (go_at_call 240;refine(H0.out _ b0.out).mono ?_;rintro e w6 hw;obtain rfl:e=.returned (.tuple #[]):=hw.1;obtain⟨_,A7,c7,hw7,hu7,hf7⟩:=hw;obtain⟨g0,g1⟩:=b7.out _ _ b0.out hu7 f0 d0.out f1;have HR:=zqH (Wrote.from b0.out (⟨rfl,A7,c7,hw7,hu7,hf7⟩:Wrote base bw w5 A n c bs _ _ _ w6));clear hw7 hu7 hf7))
    all_goals go_wp2
    all_goals exact⟨.inr ⟨rfl,HR⟩,by simp[intOf]⟩
  · go_wp2
    go_end0
    exact hw.out
theorem wnum1 {base bw lb bx ox:Nat} {w:World} {A:Option Addr} {n c y:Nat} {bs:List Nat} (h:Wr base bw w A n c bs) (hy:y<18446744073709551616) (hn:n+1000<=1073741824) (hbase:base<=w.heap.size)
 (hl:w.cell? ⟨lb,0,none⟩=some (.pointer (some ⟨bx,ox,none⟩))) (hc:w.cell? ⟨bx,ox,none⟩=some (.int .u64 (y:Int))) (hbx1:bx≠bw) (hbx2:(Value.slice A n c).ownBlock≠some bx):
 Calls Tryz.prog 205 #[.agg #[.pointer (some ⟨bw,0,none⟩),.pointer none],.slice (some ⟨lb,0,none⟩) 1 1] w (Wrote base bw w A n c bs 8 (be 8 y)):=by
 obtain⟨W,hW⟩:=zE (w.alloc (.cells #[.pointer (some ⟨bw,0,none⟩),.pointer none] 288));have a1:New w W:=by rw[hW];exact zU _ _ _
 have a6:=zX w (.cells #[.pointer (some ⟨bw,0,none⟩),.pointer none] 288);rw[<-hW]at a6;have a9:=(a1.cell (a:=⟨lb,0,none⟩) (zqB w _ hl) id).trans hl;have a7:=(a1.cell (a:=⟨bx,ox,none⟩) (zqB w _ hc) id).trans hc;have a2:=zaa a6 0 _ rfl;have b6:=h.lt;have hol:=fun b hb=>h.own_lt (b:=b) hb;have a3:=zqB w _ hc;have a4:∀w5 w6,New w w5->Upd (fun b=>b=bw\/(Value.slice A n c).ownBlock=some b) w5 w6->w5.cell? ⟨w.heap.size,0,none⟩=some (.pointer (some ⟨bw,0,none⟩))->w.heap.size<w5.heap.size->w5.cell? ⟨bx,ox,none⟩=some (.int .u64 (y:Int))->w6.cell? ⟨w.heap.size,0,none⟩=some (.pointer (some ⟨bw,0,none⟩))/\w6.cell? ⟨bx,ox,none⟩=some (.int .u64 (y:Int)):=fun w5 w6 h5 h6 k1 k3 k2=>
  ⟨(h6.cell (a:=⟨w.heap.size,0,none⟩) k3 (fun h=>h.elim (fun h=>by have h:w.heap.size=bw:=h;omega) (fun h=>by have:=hol _ h;exact Nat.lt_irrefl _ this))).trans k1,(h6.cell (a:=⟨bx,ox,none⟩) (zqL a3 h5.size) (fun h=>h.elim hbx1 hbx2)).trans k2⟩
 have b0:=zqH a4;have b5:w.heap.size<W.heap.size:=by rw[hW,zab];omega
 have b7:=zqH b5;have a5:∀W',New w W'->Calls Tryz.prog 243 #[.pointer (some ⟨bw,0,none⟩),.int .u64 (y:Int)] W' _:=fun W' hn'=>wU64 (h.new hn') y hy (by omega) (zT hbase hn'.size);have H0:=zqH a5;have HN:=zqH a1;have HC:=zqH (zN a9 (zN a7 a2));clear a5 a1 h hy hn hbase hl hc a6 a4 b6 hol a3 hbx1 hbx2 b5;go_enter Tryz.func205,Tryz.ntmps205;go_wp2;rw[<-hW];have c6:=zqH hW;clear hW
 go_loopw [8] (fun i wr=>(i=.int .i64 0/\wr=W)\/(i=.int .i64 1/\Hid (Wrote base bw w A n c bs 8 (be 8 y) (.returned (.tuple #[])) wr))) (fun i _=>1-(intOf i).toNat)
 case atStart=>exact .inl ⟨rfl,rfl⟩
 case round=>
  rcases hrel with⟨rfl,rfl⟩|⟨rfl,hw⟩
  · obtain⟨a9,a7,a2⟩:=HC.out;simp only[List.getElem_toArray,List.getElem_cons_zero]at a2;go_wp2
    go_region_held (fun w'=>w'.cell? ⟨w.heap.size,0,none⟩=some (.pointer (some ⟨bw,0,none⟩))/\w'.cell? ⟨bx,ox,none⟩=some (.int .u64 (y:Int))) (go_keep) (
     (go_at_call 243;refine(H0.out _ HN.out.drew).mono ?_;rintro e w6 hw;obtain rfl:e=.returned (.tuple #[]):=hw.1;obtain⟨_,A7,c7,hw7,hu7,hf7⟩:=hw;obtain⟨g0,g1⟩:=b0.out _ _ HN.out.drew hu7 a2 b7.out a7;have HR:=zqH (Wrote.from HN.out.drew (⟨rfl,A7,c7,hw7,hu7,hf7⟩:Wrote base bw wr.drew A n c bs _ _ _ w6));clear hw7 hu7 hf7))
    all_goals go_wp2
    all_goals exact⟨.inr ⟨rfl,HR⟩,by simp[intOf]⟩
  · go_wp2
    go_end0
    exact hw.out
theorem whist {Q:Nat->Prop} {base bw bx:Nat} {tx:TypeId} {w:World} {A A2:Option Addr} {n c m d x y:Nat} {bs:List Nat} (h:Wr base bw w A n c bs) (hx:LQ Q w A2 m d x) (hb:F1.nb x<=255) (hy:y<18446744073709551616) (hn:n+2000<=1073741824) (hbase:base<=w.heap.size)
 (hc:w.heap[bx]?=some (.cells #[.slice A2 m d,.int .u64 (y:Int)] tx (0,0))) (hbx1:bx≠bw) (hbx2:(Value.slice A n c).ownBlock≠some bx):
 Calls Tryz.prog 137 #[.agg #[.pointer (some ⟨bw,0,none⟩),.pointer none],.pointer (some ⟨bx,0,none⟩)] w (Wrote base bw w A n c bs (1+F1.nb x+8) (F1.encH x y)):=by
 obtain⟨W,hW⟩:=zE (w.alloc (.cells #[.pointer (some ⟨bw,0,none⟩),.pointer none] 288));have d9:New w W:=by rw[hW];exact zU _ _ _
 have a9:=zX w (.cells #[.pointer (some ⟨bw,0,none⟩),.pointer none] 288);rw[<-hW]at a9;have a1:=(zqA.1 hc).1;have e0:=h.lt;have e6:W.cell? ⟨w.heap.size,0,none⟩=some (.pointer (some ⟨bw,0,none⟩)):=zaa a9 0 _ rfl;have e7:W.cell? ⟨w.heap.size,1,none⟩=some (.pointer none):=zaa a9 1 _ rfl;have b7:∀W' lb,New w W'->W'.cell? ⟨lb,0,none⟩=some (.pointer (some ⟨bx,0,none⟩))->Calls Tryz.prog 204 #[.agg #[.pointer (some ⟨bw,0,none⟩),.pointer none],.slice (some ⟨lb,0,none⟩) 1 1] W' (Wrote base bw W' A n c bs (1+F1.nb x) (F1.nb x :: be (F1.nb x) x)):=fun W' lb hn' hl=>
  wdecs (h.new hn') (hx.new hn') hb (by omega) (zT hbase hn'.size) hl (zaa ((hn'.block _ a1 id).trans hc) 0 _ rfl) hbx1 hbx2
 have b8:∀W5 W6 lb A5 c5,New w W5->Upd (fun b=>b=bw\/(Value.slice A n c).ownBlock=some b) W5 W6->Wr base bw W6 A5 (n+(1+F1.nb x)) c5 (bs ++ F1.nb x :: be (F1.nb x) x) → ((Value.slice A5 (n+(1+F1.nb x)) c5).ownBlock=(Value.slice A n c).ownBlock\/∃g,(Value.slice A5 (n+(1+F1.nb x)) c5).ownBlock=some g/\W5.heap.size<=g)->∀W7,New W6 W7->W7.cell? ⟨lb,0,none⟩=some (.pointer (some ⟨bx,1,none⟩)) ->
    Calls Tryz.prog 205 #[.agg #[.pointer (some ⟨bw,0,none⟩),.pointer none],.slice (some ⟨lb,0,none⟩) 1 1] W7 (Wrote base bw W7 A5 (n+(1+F1.nb x)) c5 (bs ++ F1.nb x :: be (F1.nb x) x) 8 (be 8 y)):=fun W5 W6 lb A5 c5 h5 h6 hw hf W7 h7 hl=>
  wnum1 (hw.new h7) hy (by omega) (zT hbase (zT h5.size (zT h6.size h7.size))) hl (zaa ((h7.block _ (zqL a1 (zT h5.size h6.size)) id).trans ((h6.block _ (zqL a1 h5.size) (fun h=>h.elim hbx1 hbx2)).trans ((h5.block _ a1 id).trans hc))) 1 _ rfl) hbx1 (fun e=>hf.elim (fun e2=>hbx2 (e2▸e)) (fun⟨g,e2,hg⟩=>by rw[e2]at e;injection e with e;have:=h5.size;omega))
 have a4:∀W5 W6 i v,W5.heap.size > w.heap.size->Upd (fun b=>b=bw\/(Value.slice A n c).ownBlock=some b) W5 W6->W5.cell? ⟨w.heap.size,i,none⟩=some v->W6.cell? ⟨w.heap.size,i,none⟩=some v:=fun W5 W6 i v hs hu hv=>
  (hu.cell (a:=⟨w.heap.size,i,none⟩) hs (fun e=>e.elim (fun e=>by have e:w.heap.size=bw:=e;omega) (fun e=>by have:=h.own_lt e;exact Nat.lt_irrefl _ this))).trans hv
 have e1:w.heap.size<W.heap.size:=by rw[hW,zab];omega
 have HB:=zqH e0;have HO:=zqH (fun b hb=>h.own_lt (b:=b) hb);have H4:=zqH b7;have H5:=zqH b8;have HK:=zqH a4;have HN:=zqH d9;have b0:=zqH e1;have f9:=zqH hW;clear b7 b8 a4 d9 e1 h hx hb hy hn hbase hc hbx1 hbx2 a9 a1 e0;go_enter Tryz.func137,Tryz.ntmps137;go_wp2;rw[<-hW];clear hW
 go_region_held (fun w'=>w'.cell? ⟨w.heap.size,0,none⟩=some (.pointer (some ⟨bw,0,none⟩))/\w'.cell? ⟨w.heap.size,1,none⟩=some (.pointer none)) (go_keep) (
  (go_at_call 204
   obtain⟨W5,b5⟩:=zE ((W.alloc (.cells #[.pointer (some ⟨bx,0,none⟩)] 292)).drew);rw[<-b5];have n5:New W W5:=by rw[b5];exact(zU _ _ _).drew
   have e3:W5.cell? ⟨W.heap.size,0,none⟩=some (.pointer (some ⟨bx,0,none⟩)):=by rw[b5];exact zaa (zX W _) 0 _ rfl
   refine(H4.out W5 _ (HN.out.trans n5) e3).mono ?_
   rintro e W6 hw;obtain rfl:e=.returned (.tuple #[]):=hw.1;obtain⟨_,A5,c5,e5,a3,a5⟩:=hw;have s5:w.heap.size<W5.heap.size:=zqL b0.out n5.size;have t0:=HK.out W5 W6 0 _ s5 a3 ((n5.cell (a:=⟨w.heap.size,0,none⟩) b0.out id).trans e6);have t1:=HK.out W5 W6 1 _ s5 a3 ((n5.cell (a:=⟨w.heap.size,1,none⟩) b0.out id).trans e7);have H6:=zqH (fun lb=>H5.out W5 W6 lb A5 c5 (HN.out.trans n5) a3 e5 a5);have HX:=zqH (zN (HN.out.trans n5) (zN a3 a5));have d0:=zqH (zqL s5 a3.size);have f0:=zqH s5;clear n5 e3 b5 e5 a3 a5 s5))
 all_goals go_wp2
 go_region_held (fun w'=>w'.cell? ⟨w.heap.size,0,none⟩=some (.pointer (some ⟨bw,0,none⟩))/\w'.cell? ⟨w.heap.size,1,none⟩=some (.pointer none)) (go_keep) (
  (go_at_call 205
   obtain⟨W7,b6⟩:=zE ((W6.alloc (.cells #[.pointer (some ⟨bx,1,none⟩)] 294)).drew);rw[<-b6];have n7:New W6 W7:=by rw[b6];exact(zU _ _ _).drew
   have e4:W7.cell? ⟨W6.heap.size,0,none⟩=some (.pointer (some ⟨bx,1,none⟩)):=by rw[b6];exact zaa (zX W6 _) 0 _ rfl
   refine(H6.out _ W7 n7 e4).mono ?_
   rintro e W8 hw;obtain rfl:e=.returned (.tuple #[]):=hw.1;have HY:=zqH (zN n7 hw);obtain⟨_,A9,c9,d6,a6,d7⟩:=hw;have d5:¬(w.heap.size=bw\/(Value.slice A5 (n+(1+F1.nb x)) c5).ownBlock=some w.heap.size):=fun h=>h.elim (fun e=>by have:=HB.out;omega) (fun e=>HX.out.2.2.elim (fun e2=>by rw[e2]at e;exact Nat.lt_irrefl _ (HO.out _ e)) (fun⟨g,e2,hg⟩=>by rw[e2]at e;injection e with e;have:=HX.out.1.size;have:=b0.out;have:=f0.out;omega));have s7:w.heap.size<W7.heap.size:=zqL d0.out n7.size;have u0:W8.cell? ⟨w.heap.size,0,none⟩=some (.pointer (some ⟨bw,0,none⟩)):=(a6.cell (a:=⟨w.heap.size,0,none⟩) s7 d5).trans ((n7.cell (a:=⟨w.heap.size,0,none⟩) d0.out id).trans t0);have u1:W8.cell? ⟨w.heap.size,1,none⟩=some (.pointer none):=(a6.cell (a:=⟨w.heap.size,1,none⟩) s7 d5).trans ((n7.cell (a:=⟨w.heap.size,1,none⟩) d0.out id).trans t1);clear n7 e4 b6 d6 a6 d7 d5 s7))
 all_goals go_wp2
 all_goals go_end0
 obtain⟨f2,a3,a5⟩:=HX.out;obtain⟨f3,hw⟩:=HY.out;obtain⟨_,A9,c9,d6,a6,d7⟩:=Wrote.from f3 hw;have:=Wrote.both f2 a3 a5 d6 a6 d7;rw[show F1.nb x :: be (F1.nb x) x ++ be 8 y=F1.encH x y by simp[F1.encH]]at this;exact this
def ByR (w:World) (bs:List Nat) (e:Ending) (w':World):Prop:=∃A n c,e=.returned (.slice A n c)/\By w' A n c bs/\New w w'/\∀a,A=some a->w.heap.size<=a.block
theorem put_h1 {Q:Nat->Prop} {w:World} {cb:Nat} {A2:Option Addr} {m d x y:Nat} (hx:LQ Q w A2 m d x) (hb:F1.nb x<=255) (hy:y<18446744073709551616) (hcb:w.cell? ⟨cb,0,none⟩=some (.func (.func 137) #[] #[])):
 Calls Tryz.prog 202 #[.agg #[.slice A2 m d,.int .u64 (y:Int)],.pointer (some ⟨cb,0,none⟩)] w (ByR w (F1.encH x y)):=by
 obtain⟨W1,a2⟩:=zE (w.alloc (.cells #[.slice A2 m d,.int .u64 (y:Int)] 120));obtain⟨W2,a3⟩:=zE (W1.alloc (.cells #[.slice none 0 0,.int .i64 0] 285));obtain⟨W3,a4⟩:=zE (W2.alloc (.cells #[.pointer (some ⟨w.heap.size+1,0,none⟩),.pointer none] 288));have n1:New w W1:=by rw[a2];exact zU _ _ _
 have n2:New W1 W2:=by rw[a3];exact zU _ _ _
 have n3:New W2 W3:=by rw[a4];exact zU _ _ _
 have s1:W1.heap.size=w.heap.size+1:=by rw[a2];exact zab _ _
 have s2:W2.heap.size=w.heap.size+1+1:=by rw[a3,zab,s1]
 have b1:W3.heap[w.heap.size]?=some (.cells #[.slice A2 m d,.int .u64 (y:Int)] 120 (0,0)):=(n3.block _ (by omega) id).trans ((n2.block _ (by omega) id).trans (by rw[a2];exact zX w _));have b2:W3.heap[w.heap.size+1]?=some (.cells #[.slice none 0 0,.int .i64 0] 285 (0,0)):=(n3.block _ (by omega) id).trans (by rw[a3,<-s1];exact zX W1 _);have b3:W3.heap[w.heap.size+1+1]?=some (.cells #[.pointer (some ⟨w.heap.size+1,0,none⟩),.pointer none] 288 (0,0)):=by rw[a4,<-s2];exact zX W2 _
 have hn:New w W3:=n1.trans (n2.trans n3);have s3:W3.heap.size=w.heap.size+1+1+1:=by rw[a4,zab,s2]
 have d0:=(hn.cell (a:=⟨cb,0,none⟩) (zqB w _ hcb) id).trans hcb;have q0:W3.cell? ⟨w.heap.size+1+1,0,none⟩=some (.pointer (some ⟨w.heap.size+1,0,none⟩)):=zaa b3 0 _ rfl;have q1:W3.cell? ⟨w.heap.size+1+1,1,none⟩=some (.pointer none):=zaa b3 1 _ rfl;have a7:=whist (Wr.fresh b2) (hx.new hn) hb hy (by omega) (by omega) b1 (by omega) (fun e=>by cases e);have H1:=zqH a7;have HN:=zqH hn;have HQ:=zqH q0;have S3:=zqH s3;have HB:=zqH hb;clear a7 hn b1 b2 b3 n1 n2 n3 hx hb hy s1 s2 s3;go_enter Tryz.func202,Tryz.ntmps202
 go_upto_region 2 with fail
 rw[<-a2,<-a3,<-a4];clear a2 a3 a4
 go_wp2_with (first
  | (go_at_call 137;refine H1.out.mono ?_;rintro e w1 ⟨rfl,A4,c4,b8,b0,c6⟩;have k0:=(b0.cell (a:=⟨w.heap.size+1+1,0,none⟩) (by have:=S3.out;show w.heap.size+1+1<_;omega) (fun h=>h.elim (fun h=>by have h:w.heap.size+1+1=w.heap.size+1:=h;omega) (fun h=>by cases h))).trans HQ.out;have a8:=wOut b8 (by have:=HB.out;omega);have H4:=zqH b0;clear b8 b0 c6 H1)
  | (go_at_call 203;refine a8.mono ?_;rintro e w2 ⟨A5,c5,rfl,a5,a6,a1,_⟩;have H5:=zqH (zN a5 (zN a6 a1));clear a8 a5 a6 a1))
 go_ret
 obtain⟨a5,a6,a1⟩:=H5.out;have b5:New w w1:=HN.out.then H4.out (fun b hb h=>h.elim (fun h=>by omega) (fun h=>by cases h));exact⟨A5,_,c5,rfl,by simpa using a5,b5.trans a6,fun a ha=>zT b5.size (a1 a ha)⟩
theorem putter_h (w:World):Calls Tryz.prog 136 #[.func (.func 137) #[] #[]] w fun e w'=>e=.returned (.func (.func 202) #[] #[.pointer (some ⟨w.heap.size,0,none⟩)])/\w'=w.alloc (.cells #[.func (.func 137) #[] #[]] 214):=by
 go_enter Tryz.func136,Tryz.ntmps136
 go_wp2
 go_ret
 exact⟨rfl,rfl⟩
theorem puthist_c {Q:Nat->Prop} {w:World} {A2:Option Addr} {m d x y:Nat} (hx:LQ Q w A2 m d x) (hb:F1.nb x<=255) (hy:y<18446744073709551616):
 Calls Tryz.prog 79 #[.agg #[.slice A2 m d,.int .u64 (y:Int)]] w (ByR w (F1.encH x y)):=by
 obtain⟨W1,a3⟩:=zE (w.alloc (.cells #[.slice A2 m d,.int .u64 (y:Int)] 120));have n1:New w W1:=by rw[a3];exact zU _ _ _
 have b1:=zX w (.cells #[.slice A2 m d,.int .u64 (y:Int)] 120);rw[<-a3]at b1;have q0:W1.cell? ⟨w.heap.size,0,none⟩=some (.slice A2 m d):=zaa b1 0 _ rfl;have q1:W1.cell? ⟨w.heap.size,1,none⟩=some (.int .u64 (y:Int)):=zaa b1 1 _ rfl;have a5:∀W cb,New w W->W.cell? ⟨cb,0,none⟩=some (.func (.func 137) #[] #[])->Calls Tryz.prog 202 #[.agg #[.slice A2 m d,.int .u64 (y:Int)],.pointer (some ⟨cb,0,none⟩)] W (ByR W (F1.encH x y)):=fun W cb hn hc=>put_h1 (hx.new hn) hb hy hc;have H2:=zqH a5;have N1:=zqH n1;have BL:=zqH (zqA.1 b1).1;clear a5 n1 b1 hx hb hy;go_enter Tryz.func79,Tryz.ntmps79
 go_upto_region 1 with fail
 rw[<-a3];clear a3
 go_region_held (fun w'=>w'.cell? ⟨w.heap.size,0,none⟩=some (.slice A2 m d)/\w'.cell? ⟨w.heap.size,1,none⟩=some (.int .u64 (y:Int))) (go_keep) (first
  | (go_at_call 136
     refine(putter_h _).mono ?_
     rintro e W2 ⟨rfl,a7⟩;have n2:New W1 W2:=(by rw[a7];exact(Upd.refl _ W1).drew.trans (zU _ _ _));have a8:W2.cell? ⟨W1.drew.heap.size,0,none⟩=some (.func (.func 137) #[] #[]):=(by rw[a7];exact zaa (zX W1.drew _) 0 _ rfl);have p0:=(n2.cell (a:=⟨w.heap.size,0,none⟩) BL.out id).trans q0;have p1:=(n2.cell (a:=⟨w.heap.size,1,none⟩) BL.out id).trans q1;have b6:=zqH a8;have N2:=zqH n2;clear a7 a8 n2)
  | (go_at_call 202
     refine(H2.out W2 _ (N1.out.trans N2.out) b6.out).mono ?_
     rintro e W3 ⟨A5,n5,c5,rfl,a4,a2,a1⟩;have r0:=(a2.cell (a:=⟨w.heap.size,0,none⟩) (zqL BL.out N2.out.size) id).trans p0;have r1:=(a2.cell (a:=⟨w.heap.size,1,none⟩) (zqL BL.out N2.out.size) id).trans p1;have H5:=zqH (zN a4 (zN a2 a1));clear a4 a2 a1))
 all_goals go_wp2
 all_goals go_ret
 all_goals
  obtain⟨a4,a2,a1⟩:=H5.out;have hn:=(N1.out.trans N2.out)
  exact⟨A5,n5,c5,rfl,a4,hn.trans a2,fun a ha=>zT hn.size (a1 a ha)⟩
theorem limb_of {l:List Nat} (hl:Gn.Lim l) {q:Nat} (hq:q<l.length):l[q]=Gn.val l / Gn.B ^ q % Gn.B:=by
 have h1:=Gn.val_split l q (by omega);have h2:Gn.val (l.take q)<Gn.B ^ q:=by
  have:=Gn.val_lt (hl.take q)
  rwa [List.length_take_of_le (by omega)]at this
 have h3:l.drop q=l[q] :: l.drop (q+1):=List.drop_eq_getElem_cons hq;rw[h3,Gn.val_cons]at h1;rw[h1,Nat.add_mul_div_left _ _ (Nat.pow_pos Gn.B_pos),Nat.div_eq_of_lt h2,Nat.zero_add,Nat.add_mul_mod_self_left,Nat.mod_eq_of_lt (hl.get q hq)]
theorem Bpow (q:Nat):Gn.B ^ q=256 ^ (8*q):=by rw[Nat.pow_mul];rfl
def tailN (bs:List Nat) (k:Nat):Nat:=num (bs.drop (bs.length-k))
theorem num_cons (x:Nat) (l:List Nat):num (x :: l)=x*256 ^ l.length+num l:=by
 have key:∀(l:List Nat) (a:Nat),l.foldl (fun a b=>a*256+b) a=a*256 ^ l.length+l.foldl (fun a b=>a*256+b) 0:=by
  intro l
  induction l with
  | nil=>intro a;simp
  | cons y l ih=>
    intro a;simp only[List.foldl_cons,List.length_cons];rw[show 0*256+y=y by omega,ih (a*256+y),ih y,Nat.pow_succ];have:(a*256+y)*256 ^ l.length=a*(256 ^ l.length*256)+y*256 ^ l.length:=by
     rw[Nat.add_mul,Nat.mul_assoc,Nat.mul_comm 256]
    rw[this];omega
 show(x :: l).foldl _ 0=_
 rw[List.foldl_cons,key,Nat.zero_mul,Nat.zero_add];rfl
theorem tailN_succ {bs:List Nat} {k:Nat} (h:k<bs.length):tailN bs (k+1)=bs[bs.length-1-k]'(by omega)*256 ^ k+tailN bs k:=by
 unfold tailN;have e:bs.drop (bs.length-(k+1))=bs[bs.length-1-k]'(by omega) :: bs.drop (bs.length-k):=by
  rw[show bs.length-(k+1)=bs.length-1-k by omega,List.drop_eq_getElem_cons (by omega),show bs.length-1-k+1=bs.length-k by omega]
 rw[e,num_cons,List.length_drop,show bs.length-(bs.length-k)=k by omega]
theorem tailN_lt {bs:List Nat} (hs:Small bs) {k:Nat} (h:k<=bs.length):tailN bs k<256 ^ k:=num_lt k _ (by rw[List.length_drop];omega) (fun x hx=>hs x (List.mem_of_mem_drop hx))
theorem lay_byte {o:List Nat} (ho:Gn.Lim o) {bs:List Nat} (hs:Small bs) {k:Nat} (hk:k<bs.length) (hq:k / 8<o.length) (hv:Gn.val o=tailN bs k):
 o[k / 8]<2 ^ (8*(k % 8))/\Gn.val (o.set (k / 8) (bs[bs.length-1-k]'(by omega)*2 ^ (8*(k % 8))+o[k / 8]))=tailN bs (k+1)/\bs[bs.length-1-k]'(by omega)*2 ^ (8*(k % 8))+o[k / 8]<Gn.B:=by
 have h1:=limb_of ho hq;have hb:bs[bs.length-1-k]'(by omega)<256:=hs _ (List.getElem_mem _);have ht:=tailN_lt hs (Nat.le_of_lt hk);have hr:k % 8<8:=Nat.mod_lt _ (by omega);have b5:k=8*(k / 8)+k % 8:=by omega
 have e1:256 ^ k=256 ^ (k % 8)*Gn.B ^ (k / 8):=by
  rw[Bpow,<-Nat.pow_add];congr 1;omega
 have a4:tailN bs k / Gn.B ^ (k / 8)<256 ^ (k % 8):=Nat.div_lt_of_lt_mul (by rw[Nat.mul_comm,<-e1];exact ht);have a5:256 ^ (k % 8)*256<=Gn.B:=by
  rw[<-Nat.pow_succ];have:256 ^ (k % 8+1)<=256 ^ 8:=Nat.pow_le_pow_right (by decide) (by omega);exact zT this (by decide)
 have a6:0<256 ^ (k % 8):=Nat.pow_pos (by decide);rw[hv,Nat.mod_eq_of_lt (by omega)]at h1;rw[F1.pow28];have h2:o[k / 8]<256 ^ (k % 8):=by rw[h1];exact a4
 obtain⟨P,hP⟩:=zE (256 ^ (k % 8));obtain⟨b,a1⟩:=zE (bs[bs.length-1-k]'(by omega));obtain⟨v,a2⟩:=zE (o[k / 8]);rw[<-hP]at h2 a5 e1 a6 ⊢;rw[<-a1]at hb ⊢;rw[<-a2]at h2 ⊢;refine⟨h2,?_,?_⟩
 · have h3:=Gn.val_set o (k / 8) (b*P+v) hq;rw[<-a2,hv]at h3;have h4:=tailN_succ hk;rw[<-a1,e1]at h4;rw[h4];have:Gn.B ^ (k / 8)*(b*P+v)=b*(P*Gn.B ^ (k / 8))+Gn.B ^ (k / 8)*v:=by
    rw[Nat.mul_add,Nat.mul_comm (Gn.B ^ (k / 8)) (b*P),Nat.mul_assoc]
   omega
 · have:b*P<=255*P:=Nat.mul_le_mul_right _ (by omega);omega
theorem or_byte {v b r:Nat} (hv:v<2 ^ (8*r)) (hb:b<256) (hr:r<8):bits .or .u64 (v:Int) (IntKind.u64.wrap ((b:Int)*2 ^ (8*r)))=((b*2 ^ (8*r)+v:Nat):Int):=by
 have hP:2 ^ (8*r)<=2 ^ 56:=Nat.pow_le_pow_right (by decide) (by omega);have a3:b*2 ^ (8*r)<=255*2 ^ 56:=Nat.mul_le_mul (by omega) hP;obtain⟨X,hX⟩:=zE (b*2 ^ (8*r));have h3:(BitVec.ofInt (IntKind.bits .u64) (v:Int) ||| BitVec.ofInt (IntKind.bits .u64) (X:Int)).toNat=X+v:=by
  rw[BitVec.toNat_or,BitVec.toNat_ofInt,BitVec.toNat_ofInt];have e1:((X:Int) % ((2 ^ IntKind.bits .u64:Nat):Int)).toNat=X:=by simp[IntKind.bits];omega
  have e2:((v:Int) % ((2 ^ IntKind.bits .u64:Nat):Int)).toNat=v:=by simp[IntKind.bits];omega
  rw[e1,e2,Nat.or_comm,hX,Nat.mul_comm b,<-Nat.two_pow_add_eq_or_of_lt hv b]
 have hc:((b:Int)*2 ^ (8*r))=(X:Int):=by rw[hX];push_cast;rfl
 have hw:IntKind.u64.wrap (X:Int)=(X:Int):=by simp[IntKind.wrap,IntKind.bits,IntKind.signed];omega
 rw[hc,hw,<-hX];show IntKind.u64.wrap ((BitVec.ofInt (IntKind.bits .u64) (v:Int) ||| BitVec.ofInt (IntKind.bits .u64) (X:Int)).toNat:Int)=_;rw[h3];simp[IntKind.wrap,IntKind.bits,IntKind.signed];omega
theorem nfrom {w:World} {A:Option Addr} {n c:Nat} {bs:List Nat} (h:By w A n c bs) (hn:n<=4000) (h0:∀hp:0<bs.length,bs[0]≠0):
 Calls Tryz.prog 292 #[.slice A n c] w fun e w'=>∃R m d,e=.returned (.tuple #[.slice R m d,.int .i64 0])/\LN (NB w) w' R m d (num bs)/\New w w':=by
 obtain⟨i0,e3,e4,e5,e6⟩:=info_parts info22;have a8:=h.len;obtain⟨M,hM⟩:=zE ((n+7) / 8);have d6:M<=1000:=by omega
 have b7:∀W:World,(Instr.makeSlice 24 (.int .i64 (M:Int)) (.int .i64 (M:Int))).run Tryz.prog W=.ok (.slice (some ⟨W.heap.size,0,none⟩) M M) (W.alloc (.cells ((List.replicate M 0).map Gn.u64).toArray 22)):=fun W=>Gn.run_make_limbs (P:=Tryz.prog) 24 22 i0 Tryz.underlying24 e3 e4 e5 e6 M (by omega) W;have f0:((n:Int)+7).tdiv 8=(M:Int):=by rw[hM,Int.tdiv_eq_ediv_of_nonneg (by omega)];omega
 have d7:(0<n/\∃(b off v:Nat),A=some ⟨b,off,none⟩/\w.cell? ⟨b,off,none⟩=some (.int .u8 (v:Int))/\(((v:Nat):Int) == 0)=false)\/n=0:=by
  rcases Nat.eq_zero_or_pos n with h1|h1
  · exact .inr h1
  · obtain⟨b,off,hA,_⟩:=h.addr h1;refine .inl ⟨h1,b,off,bs[0]'(by omega),hA,?_,?_⟩
    · have:=h.cell hA 0 (by omega)
      rwa [Nat.add_zero]at this
    · have:=h0 (by omega);rw[beq_eq_false_iff_ne];omega
 have H:=zqH h;have HL:=zqH a8;have HM:=zqH hM;have f6:n<=c/\c<=maxLen:=⟨h.sl.le,h.sl.max⟩
 clear h a8 h0 hM;rcases d7 with⟨hpos,b,off,v,rfl,hcv,hv0⟩|rfl
 · go_enter Tryz.func292,Tryz.ntmps292
   go_wp2
   go_loopw [22] (fun i wr=>∃(k:Nat) (o:List Nat),k<=n/\i=.int .i64 (k:Int)/\Gn.LB 22 wr w.heap.size o/\Hid (o.length=M/\Gn.Lim o/\Gn.val o=tailN bs k)/\Hid (New w wr)) (fun i _=>n-(intOf i).toNat)
   case atStart=>exact⟨0,List.replicate M 0,Nat.zero_le _,rfl,Gn.LB.zeros _ _ _,zqH ⟨by simp,Gn.Lim.zeros _,by rw[Gn.val_zeros];unfold tailN;simp[num]⟩,zqH (zU _ _ _)⟩
   case round=>
    obtain⟨k,o,hk,rfl,a4,hI,b5⟩:=hrel;by_cases hkn:k<n
    · obtain⟨hol,a1,a6⟩:=hI.out;have b0:k / 8<o.length:=(by rw[hol,HM.out];omega);obtain⟨l1,l2,l3⟩:=lay_byte a1 H.out.small (by rw[HL.out];exact hkn) b0 a6;obtain⟨y,hy⟩:=zE (bs[bs.length-1-k]'(by rw[HL.out];omega));obtain⟨z,hz⟩:=zE (o[k / 8]);rw[<-hy,<-hz]at l2 l3;rw[<-hz]at l1;have d8:y<256:=(by rw[hy];exact H.out.small _ (List.getElem_mem _));have f7:wr.cell? ⟨b,off+(n-1-k),none⟩=some (.int .u8 (y:Int)):=by
       have h1:=H.out.cell rfl (bs.length-1-k) (by have:=HL.out;omega);rw[<-hy,HL.out]at h1;exact(b5.out.cell (a:=⟨b,off+(n-1-k),none⟩) (zqB w ⟨b,off+(n-1-k),none⟩ h1) id).trans h1
      have b8:=a4.cell (k / 8) b0;rw[<-hz]at b8;simp only[Gn.u64]at b8;have f8:=a4.frozen (k / 8);have f9:k / 8<M:=(by rw[<-hol];exact b0);have g0:(k:Int).tdiv 8=((k / 8:Nat):Int):=(by rw[Int.tdiv_eq_ediv_of_nonneg (by omega)];omega);have b9:=or_byte l1 d8 (Nat.mod_lt k (by omega));have d9:=zqH b9;clear b9;have HX:=zqH (zN hol (zN a1 (zN l2 l3)));have HB:=zqH a4;clear hol a1 a6 l1 l2 l3 hy hz a4;go_wp2
      go_region
      all_goals go_wp2
      all_goals
       rw[d9.out];obtain⟨hol,a1,l2,l3⟩:=HX.out;refine⟨⟨k+1,o.set (k / 8) (y*2 ^ (8*(k % 8))+z),by omega,by congr 1,(HB.out.set (k / 8) _).drew,zqH ⟨by simp[hol],a1.set _ _ l3,l2⟩,zqH ?_⟩,by simp[intOf];omega⟩;exact(b5.out.then (Upd.setCell (S:=fun b=>b=w.heap.size) wr _ rfl) (fun b hb e=>by omega)).drew
    · obtain rfl:k=n:=(by omega);obtain⟨hol,a1,a6⟩:=hI.out;have a5:=a4.natV a1 hol (zR M) (by unfold maxLen;omega);have a9:Gn.val o=num bs:=(by rw[a6];unfold tailN;rw[HL.out,Nat.sub_self,List.drop_zero]);have a3:=zqH a5;have HV:=zqH a9;have e0:=zqH hol;clear hol a1 a6 a5 a9 a4
      go_wp2_with (go_at_call 81;refine(zbb a3.out).mono ?_;rintro e w' ⟨rfl,rfl⟩)
      go_ret2
      refine⟨_,_,_,rfl,?_,b5.out⟩;have h1:=LN.of (Q:=NB w) a3.out.trim (Gn.norm_trim _) (by
       rw[Gn.val_trim];have:=Gn.val_lt a3.out.lim;rw[e0.out]at this;exact zqL this (@zbe _ 1000 d6)) (fun a e=>by cases e;exact zR _)
      rwa [Gn.val_trim,HV.out]at h1
 · go_enter Tryz.func292,Tryz.ntmps292
   have e1:bs=[]:=List.length_eq_zero_iff.1 HL.out;have e2:M=0:=by rw[HM.out]
   subst e2;have f3:∀W:World,(Instr.makeSlice 24 (.int .i64 0) (.int .i64 0)).run Tryz.prog W=.ok (.slice (some ⟨W.heap.size,0,none⟩) 0 0) (W.alloc (.cells #[] 22)):=fun W=>by simpa using b7 W
   obtain⟨W1,a7⟩:=zE (w.alloc (.cells #[] 22));have n1:New w W1:=by rw[a7];exact zU _ _ _
   have a5:Gn.NatV 22 W1 (some ⟨w.heap.size,0,none⟩) 0 0 []:=⟨rfl,zR _,Nat.zero_le _,Gn.Lim.nil,fun h=>absurd h (by omega)⟩
   have N1:=zqH n1;have a3:=zqH a5;have HW:=zqH a7;clear n1 a5 b7;go_wp2;rw[<-a7];clear a7
   go_loopw [22] (fun i wr=>i=.int .i64 0/\wr=W1) (fun i _=>0)
   case atStart=>exact⟨rfl,rfl⟩
   case round=>
    obtain⟨rfl,rfl⟩:=hrel
    go_wp2_with (go_at_call 81;refine(zbb a3.out).mono ?_;rintro e w' ⟨rfl,rfl⟩)
    go_ret2
    refine⟨_,_,_,rfl,?_,N1.out⟩;have h1:=LN.of (Q:=NB w) a3.out.trim (Gn.norm_trim _) (by rw[Gn.val_trim];exact zqL (show 0<Gn.B ^ 0 by decide) (@zbe 0 1000 (by omega))) (fun a e=>by cases e;exact zR _);rw[Gn.val_trim]at h1;rw[e1];exact h1
theorem rpiece {br:Nat} {w:World} {A:Option Addr} {n c N:Nat} {bs:List Nat} (hR:Rd br w A n c bs 0) (hN:1+N<n) (hn:n<=4000) (h0:∀hp:0<((bs.drop 1).take N).length,((bs.drop 1).take N)[0]≠0):
 Calls Tryz.prog 291 #[.pointer (some ⟨br,0,none⟩),.int .i64 1,.int .i64 (N:Int),.func (.func 292) #[] #[]] w fun e w'=>∃R m d A' n' c',e=.returned (.slice R m d)/\LN (NB w) w' R m d (num ((bs.drop 1).take N))/\Rd br w' A' n' c' (bs.drop (1+N)) 0/\(∀a',A'=some a'->∃a,A=some a/\a'.block=a.block)/\Upd (fun b=>b=br) w w':=by
 obtain⟨i0,d6,d7,d8,d9⟩:=info_parts info5;have a4:=hR.by_.len;obtain⟨b,off,rfl,hb⟩:=hR.by_.addr (by omega);have e2:=hR.cell0;have e3:=hR.by_.sl.le;have e4:=hR.by_.sl.max;obtain⟨b',b7,eA,a7⟩:=hR.by_.sl.row (by omega);cases eA;have a5:Row w b (off+1) (((bs.drop 1).take N).map u8):=by
  rw[List.map_take,List.map_drop];exact(a7.drop 1).take N
 have a2:Src w (some ⟨b,off+1,none⟩) N (((bs.drop 1).take N).map u8):=fun _=>⟨_,_,rfl,fun j u hu=>a5.2 j u hu⟩
 have a8:((bs.drop 1).take N).length=N:=by rw[List.length_take,List.length_drop];omega
 have a9:Small ((bs.drop 1).take N):=fun x hx=>hR.by_.small x (List.mem_of_mem_drop (List.mem_of_mem_take hx));obtain⟨ys,b8⟩:=zE ((bs.drop 1).take N);rw[<-b8]at a2 a8 a9 h0 ⊢;have H:=zqH hR;have HS:=zqH a2;have HL:=zqH a8;have c6:=zqH a9;have H0:=zqH h0;have b0:=zqH a4;have e8:N<=4000:=by omega
 have e9:1+N<c:=by omega
 clear hR a5 a2 a8 a9 h0 b8 a7 a4 hb;go_enter Tryz.func291,Tryz.ntmps291
 go_wp2_with (first
  | (at_builtin
     refine wpList_append_src _ rfl _ _ _ rfl w.heap.size 5 i0 _ 1 1 Tryz.underlying113 d6 d7 d8 d9 rfl (by omega) (.slice none 0 0) 0 [] rfl (World.ownsRow_nil _ _ _ _) _ _ _ (ys.map u8) rfl (by simp[HL.out]) (by rw[show 1+N-1=N by omega];exact HS.out) (zav _) (by simp only[maxLen];omega) (by omega) (zR _) ?_
     intro A' c' w1 hown1 hg1 hat1;have b5:New w w1:=Upd.of_grown hg1 (fun c hc=>by cases hc);simp only[Nat.zero_add,List.nil_append]at hown1;rw[show 1+N-1=N by omega]at hown1;have a6:=nfrom (By.of_own hown1 c6.out) (by omega) H0.out;have b6:=zqH b5;clear hown1 hg1 hat1 b5)
  | (go_at_call 292
     refine a6.mono ?_
     rintro e w2 ⟨R,m,d,rfl,hr,b9⟩;have a3:=b6.out.trans b9;have a1:=H.out.upd a3 id (fun _ _ _=>id);have f0:=a1.cell0;have f2:=a1.frozen 0;have H2:=zqH (zN hr (zN a3 a1));have d0:=zqH b6.out.size;clear a6 hr b9 a3 a1))
 go_ret
 obtain⟨hr,a3,a1⟩:=H2.out;have d5:=a1.next (A':=some ⟨b,off+(1+N),none⟩) (n':=n-(1+N)) (c':=c-(1+N)) (bs':=bs.drop (1+N)) ?_ (fun a ha=>by cases ha;exact a1.ne ⟨b,off,none⟩ rfl)
 · refine⟨R,m,d,_,_,_,rfl,?_,d5,fun a' ha'=>⟨_,rfl,by cases ha';rfl⟩,(a3.mono (fun _ _ h=>h.elim)).trans (Upd.setCell w2 _ rfl)⟩;have f4:=H.out.lt;exact(hr.mono (Q':=NB w) (fun b _ hb=>zT d0.out hb)).upd (Upd.setCell (S:=fun b=>b=br) w2 _ rfl) (fun b hb e=>by have hb:w.heap.size<=b:=hb;have e:b=br:=e;omega)
 · obtain⟨b',b7,eA,e1⟩:=a1.by_.sl.row (by omega);cases eA;have hd:=e1.drop (1+N);rw[<-List.map_drop]at hd;exact⟨⟨by simp[b0.out],by omega,by omega,fun _=>⟨b,off+(1+N),rfl,hd⟩,fun e=>by cases e⟩,fun x hx=>a1.by_.small x (List.mem_of_mem_drop hx)⟩
theorem nb_head {x:Nat} (hp:0<(be (F1.nb x) x).length):(be (F1.nb x) x)[0]≠0:=by
 rw[zah]at hp;have hx:x≠0:=fun e=>by rw[e]at hp;exact absurd hp (by decide)
 obtain⟨k,hk⟩:∃k,F1.nb x=k+1:=⟨F1.nb x-1,by omega⟩
 have a3:k=x.log2 / 8:=by unfold F1.nb at hk;rw[if_neg hx]at hk;omega
 have h1:2 ^ x.log2<=x:=Nat.log2_self_le hx;have h2:2 ^ (8*k)<=x:=zT (Nat.pow_le_pow_right (by decide) (by omega)) h1;have h3:=F1.nb_lt x;rw[hk,Nat.pow_succ,<-F1.pow28]at h3;have h4:x / 2 ^ (8*k)<256:=Nat.div_lt_of_lt_mul h3;have h5:0<x / 2 ^ (8*k):=Nat.div_pos h2 (Nat.pow_pos (by decide));have e:(be (F1.nb x) x)[0]?=some (x / 2 ^ (8*k) % 256):=by rw[hk];rfl
 rw[zG (by rw[zah];exact hp)]at e
 injection e with e
 rw[e,Nat.mod_eq_of_lt h4];omega
def NatRd (br:Nat) (w:World) (A:Option Addr) (x:Nat) (rest:List Nat) (v:Value->Value) (e:Ending) (w':World):Prop:=
 ∃R m d A' n' c',e=.returned (v (.slice R m d))/\LN (NB w) w' R m d x/\Rd br w' A' n' c' rest 0/\(∀a',A'=some a'->∃a,A=some a/\a'.block=a.block)/\Upd (fun b=>b=br) w w'
theorem rNat {br:Nat} {w:World} {A:Option Addr} {n c x:Nat} {rest:List Nat} (hR:Rd br w A n c (F1.nb x :: (be (F1.nb x) x ++ rest)) 0) (hb:F1.nb x<=255) (hn:n<=4000) (hr:0<rest.length):
 Calls Tryz.prog 269 #[.pointer (some ⟨br,0,none⟩)] w (NatRd br w A x rest id):=by
 have a4:=hR.by_.len;simp only[List.length_cons,List.length_append,zah]at a4;have P:=rpeek hR 1 (by omega) (by omega) (by omega);obtain⟨N,hN⟩:=zE (F1.nb x);have a6:((F1.nb x :: (be (F1.nb x) x ++ rest)).drop 1).take N=be N x:=by rw[List.drop_succ_cons,List.drop_zero,hN,List.take_left' (zah _ _)]
 have a8:(F1.nb x :: (be (F1.nb x) x ++ rest)).drop (1+N)=rest:=by rw[Nat.add_comm,List.drop_succ_cons,hN,List.drop_left' (zah _ _)]
 have a5:num ((F1.nb x :: (be (F1.nb x) x ++ rest)).take 1)=N:=by rw[hN];simp[num]
 have a9:num (be N x)=x:=F1.num_be N x (by rw[hN];exact F1.nb_lt x);rw[a5]at P;have b0:∀w',Upd (fun b=>b=br) w w'->Rd br w' A n c (F1.nb x :: (be (F1.nb x) x ++ rest)) 0->Calls Tryz.prog 291 #[.pointer (some ⟨br,0,none⟩),.int .i64 1,.int .i64 (N:Int),.func (.func 292) #[] #[]] w' (NatRd br w' A x rest id):=fun w' _ hR'=>by
  have:=rpiece hR' (N:=N) (by omega) hn (by rw[a6,hN];exact fun hp=>nb_head hp);rw[a6,a8,a9]at this;exact this
 have HP:=zqH P;have b7:=zqH b0;have HN:=zqH hN;have b8:N<=255:=by omega
 have h1:0=0/\1<=n:=⟨rfl,by omega⟩
 have H1:=zqH h1;clear P b0 hN hR hb a6 a8 a5 a9 a4 h1;go_enter Tryz.func269,Tryz.ntmps269
 go_wp2_with (first
  | (go_at_call 290;refine HP.out.mono ?_;rintro e w1 ⟨h1,_,hu⟩;obtain⟨rfl,b6⟩:=h1 H1.out;have h2:=b7.out w1 hu b6;have HU:=zqH hu;clear h1 hu b6)
  | (go_at_call 291;refine h2.mono ?_;rintro e w2 ⟨R,m,d,A',n',c',rfl,hr,a1,a2,a3⟩;have H2:=zqH (zN hr (zN a1 (zN a2 a3)));clear h2 hr a1 a2 a3))
 go_ret
 obtain⟨hr,a1,a2,a3⟩:=H2.out;exact⟨R,m,d,A',n',c',rfl,hr.mono (fun b _ hb=>zT HU.out.size hb),a1,a2,HU.out.trans a3⟩
theorem rDec {br:Nat} {w:World} {A:Option Addr} {n c x:Nat} {rest:List Nat} (hR:Rd br w A n c (F1.nb x :: (be (F1.nb x) x ++ rest)) 0) (hb:F1.nb x<=255) (hn:n<=4000) (hr:0<rest.length):
 Calls Tryz.prog 242 #[.pointer (some ⟨br,0,none⟩)] w (NatRd br w A x rest (fun v=>.agg #[v])):=by
 obtain⟨W,hW⟩:=zE (w.alloc (.cells #[.slice none 0 0] 26));have a6:New w W:=by rw[hW];exact zU _ _ _
 have a7:=zX w (.cells #[.slice none 0 0] 26);rw[<-hW]at a7;have c6:=hR.lt;have a9:0<n:=by have:=hR.by_.len;simp only[List.length_cons]at this;omega
 have d0:W.heap.size=w.heap.size+1:=by rw[hW];exact zab _ _
 have h1:=rNat (hR.upd a6 id (fun _ _ _=>id)) hb hn hr;have H1:=zqH h1;have HN:=zqH a6;have HB:=zqH a7;have b5:=zqH (fun a ha h0=>hR.by_.sl.lt (a:=a) ha h0);clear h1 a6 a7 hR hb hn hr;go_enter Tryz.func242,Tryz.ntmps242
 go_wp2_with (rw[<-hW];go_at_call 269;refine H1.out.mono ?_;rintro e w2 ⟨R,m,d,A',n',c',rfl,hr,a5,a2,a3⟩;have a4:=(a3.block w.heap.size (zqA.1 HB.out).1 (by omega)).trans HB.out;have q1:=zaa a4 0 _ rfl;have q2:=zad a4 0;have H2:=zqH (zN hr (zN a5 (zN a2 a3)));have b6:=zqH a4;clear hr a5 a2 a3 a4 H1)
 have q0:(w2.setCell ⟨w.heap.size,0,none⟩ (.slice R m d)).cell? ⟨w.heap.size,0,none⟩=some (.slice R m d):=zaa (zac b6.out (.slice R m d) (i:=0)) 0 _ rfl;refine bodyPost_ret (by simp[results,Tryz.results242,go_sem,q0];try rfl) rfl ?_
 obtain⟨hr,a5,a2,a3⟩:=H2.out;have a1:Upd (fun b=>b=w.heap.size) w2 (w2.setCell ⟨w.heap.size,0,none⟩ (.slice R m d)):=Upd.setCell w2 _ rfl;refine⟨R,m,d,A',n',c',rfl,?_,a5.upd a1 (by omega) (fun a' ha' h0 e=>?_),a2,((HN.out.mono (fun _ _ h=>h.elim)).trans a3).then a1 (fun b hb e=>by omega)⟩
 · exact(hr.upd a1 (fun b hb e=>by have hb:W.heap.size<=b:=hb;have e:b=w.heap.size:=e;omega)).mono (fun b _ hb=>zT HN.out.size hb)
 · obtain⟨a,ha,d7⟩:=a2 a' ha';have h1:=b5.out a ha a9;have e:a'.block=w.heap.size:=e;omega
def FieldRd (br bx ox:Nat) (cs:Array Value) (t:TypeId) (w:World) (A:Option Addr) (rest:List Nat) (P:World->Value->Prop) (e:Ending) (w':World):Prop:=
 ∃v A' n' c',e=.returned (.tuple #[])/\P w' v/\w'.heap[bx]?=some (.cells (cs.setIfInBounds ox v) t (0,0))/\Rd br w' A' n' c' rest 0/\(∀a',A'=some a'->∃a,A=some a/\a'.block=a.block)/\Upd (fun b=>b=br\/b=bx) w w'
theorem rdecs {br bx ox lb:Nat} {cs:Array Value} {t:TypeId} {w:World} {A:Option Addr} {n c x:Nat} {rest:List Nat} (hR:Rd br w A n c (F1.nb x :: (be (F1.nb x) x ++ rest)) 0) (hb:F1.nb x<=255) (hn:n<=4000) (hr:0<rest.length)
 (hl:w.cell? ⟨lb,0,none⟩=some (.pointer (some ⟨bx,ox,none⟩))) (hx:w.heap[bx]?=some (.cells cs t (0,0))) (hox:ox<cs.size) (hbx:bx≠br) (hA:∀a,A=some a->a.block≠bx):
 Calls Tryz.prog 204 #[.agg #[.pointer none,.pointer (some ⟨br,0,none⟩)],.slice (some ⟨lb,0,none⟩) 1 1] w (FieldRd br bx ox cs t w A rest (fun w' v=>∃R m d,v=.slice R m d/\LN (NB w) w' R m d x)):=by
 obtain⟨W,hW⟩:=zE (w.alloc (.cells #[.pointer none,.pointer (some ⟨br,0,none⟩)] 288));have a1:New w W:=by rw[hW];exact zU _ _ _
 have a5:=zX w (.cells #[.pointer none,.pointer (some ⟨br,0,none⟩)] 288);rw[<-hW]at a5;have b0:=(a1.cell (a:=⟨lb,0,none⟩) (zqB w _ hl) id).trans hl;have b5:W.cell? ⟨w.heap.size,0,none⟩=some (.pointer none):=zaa a5 0 _ rfl;have b6:W.cell? ⟨w.heap.size,1,none⟩=some (.pointer (some ⟨br,0,none⟩)):=zaa a5 1 _ rfl;have d5:=hR.lt;have a8:=(zqA.1 hx).1;have b8:=(a1.block _ a8 id).trans hx;have a9:=rDec (hR.upd a1 id (fun _ _ _=>id)) hb hn hr;have H1:=zqH a9;have HN:=zqH a1;have HX:=zqH b8;have HC:=zqH (zN b0 (zN b5 b6));have d9:=zqH hW;have HA:=zqH hA;have e1:=zqH hR;have b9:W.heap.size=w.heap.size+1:=by rw[hW];exact zab _ _
 have e2:=zqH b9;clear a9 a1 hR hb hn hr hl hx b8 a5 hA b0 b5 b6 b9;go_enter Tryz.func204,Tryz.ntmps204;go_wp2;rw[<-hW];clear hW
 go_loopw [8] (fun i wr=>(i=.int .i64 0/\wr=W)\/(i=.int .i64 1/\Hid (FieldRd br bx ox cs t w A rest (fun w' v=>∃R m d,v=.slice R m d/\LN (NB w) w' R m d x) (.returned (.tuple #[])) wr))) (fun i _=>1-(intOf i).toNat)
 case atStart=>exact .inl ⟨rfl,rfl⟩
 case round=>
  rcases hrel with⟨rfl,rfl⟩|⟨rfl,hw⟩
  · obtain⟨b0,b5,b6⟩:=HC.out
    go_wp2_with (go_at_call 242
                 refine H1.out.mono ?_
                 rintro e w2 ⟨R,m,d,A',n',c',rfl,hr,a7,a3,a4⟩;have a6:=(a4.block bx (zqL a8 HN.out.size) hbx).trans HX.out;have q1:=zaa a6 ox _ (Array.getElem?_eq_getElem hox);have q2:=zad a6 ox;have H2:=zqH (zN hr (zN a7 (zN a3 a4)));have c6:=zqH a6;clear hr a7 a3 a4 a6)
    obtain⟨hr,a7,a3,a4⟩:=H2.out;have a2:Upd (fun b=>b=bx) w2 (w2.setCell ⟨bx,ox,none⟩ (.slice R m d)):=Upd.setCell w2 _ rfl;refine⟨.inr ⟨rfl,zqH ⟨.slice R m d,A',n',c',rfl,⟨R,m,d,rfl,?_⟩,zac c6.out _,a7.upd a2 (fun e=>hbx e.symm) (fun a' ha' h0 e=>?_),a3,?_⟩⟩,by simp[intOf]⟩
    · exact(hr.upd a2 (fun b hb e=>by have hb:wr.heap.size<=b:=hb;have e:b=bx:=e;have:=HN.out.size;omega)).mono (fun b _ hb=>zT HN.out.size hb)
    · obtain⟨a,ha,d0⟩:=a3 a' ha';exact HA.out a ha (d0▸e)
    · exact((HN.out.mono (fun _ _ h=>h.elim)).trans (a4.mono (fun b _ h=>.inl h))).trans (a2.mono (fun b _ h=>.inr h))
  · go_wp2
    go_end0
    exact hw.out
theorem rU64' {br:Nat} {w:World} {A:Option Addr} {n c y:Nat} {rest:List Nat} (hR:Rd br w A n c (be 8 y ++ rest) 0) (hy:y<18446744073709551616) (hn:n<=1073741824):
 Calls Tryz.prog 244 #[.pointer (some ⟨br,0,none⟩)] w fun e w'=>e=.returned (.int .u64 (y:Int))/\∃A' n' c',Rd br w' A' n' c' rest 0/\Upd (fun b=>b=br) w w'/\∀a',A'=some a'->∃a,A=some a/\a'.block=a.block:=by
 refine(rU64 hR hn).mono ?_
 rintro e w' ⟨rfl,A',n',c',h1,h2,h3⟩;have a1:rOk 8 (be 8 y ++ rest) 0=true:=decide_eq_true ⟨rfl,by simp[zah]⟩;unfold rb re at h1;rw[a1,if_pos rfl,if_pos rfl,List.drop_left' (zah _ _)]at h1;refine⟨?_,A',n',c',h1,h2,h3⟩;unfold rv;rw[a1,if_pos rfl,List.take_left' (zah _ _),F1.num_be 8 y (by simpa using hy)]
theorem rnum1 {br bx ox lb:Nat} {cs:Array Value} {t:TypeId} {w:World} {A:Option Addr} {n c y:Nat} {rest:List Nat} (hR:Rd br w A n c (be 8 y ++ rest) 0) (hy:y<18446744073709551616) (hn:n<=1073741824)
 (hl:w.cell? ⟨lb,0,none⟩=some (.pointer (some ⟨bx,ox,none⟩))) (hx:w.heap[bx]?=some (.cells cs t (0,0))) (hox:ox<cs.size) (hbx:bx≠br) (hA:∀a,A=some a->a.block≠bx):
 Calls Tryz.prog 205 #[.agg #[.pointer none,.pointer (some ⟨br,0,none⟩)],.slice (some ⟨lb,0,none⟩) 1 1] w (FieldRd br bx ox cs t w A rest (fun w' v=>v=.int .u64 (y:Int))):=by
 obtain⟨W,hW⟩:=zE (w.alloc (.cells #[.pointer none,.pointer (some ⟨br,0,none⟩)] 288));have a1:New w W:=by rw[hW];exact zU _ _ _
 have a4:=zX w (.cells #[.pointer none,.pointer (some ⟨br,0,none⟩)] 288);rw[<-hW]at a4;have b0:=(a1.cell (a:=⟨lb,0,none⟩) (zqB w _ hl) id).trans hl;have b5:W.cell? ⟨w.heap.size,0,none⟩=some (.pointer none):=zaa a4 0 _ rfl;have b6:W.cell? ⟨w.heap.size,1,none⟩=some (.pointer (some ⟨br,0,none⟩)):=zaa a4 1 _ rfl;have d5:=hR.lt;have a7:=(zqA.1 hx).1;have b8:=(a1.block _ a7 id).trans hx;have a8:=rU64' (hR.upd a1 id (fun _ _ _=>id)) hy hn;have H1:=zqH a8;have HN:=zqH a1;have HX:=zqH b8;have HC:=zqH (zN b0 (zN b5 b6));have d9:=zqH hW;have HA:=zqH hA;have e1:=zqH hR;have b9:W.heap.size=w.heap.size+1:=by rw[hW];exact zab _ _
 have e2:=zqH b9;clear a8 a1 hR hy hn hl hx b8 a4 hA b0 b5 b6 b9;go_enter Tryz.func205,Tryz.ntmps205;go_wp2;rw[<-hW];clear hW
 go_loopw [8] (fun i wr=>(i=.int .i64 0/\wr=W)\/(i=.int .i64 1/\Hid (FieldRd br bx ox cs t w A rest (fun w' v=>v=.int .u64 (y:Int)) (.returned (.tuple #[])) wr))) (fun i _=>1-(intOf i).toNat)
 case atStart=>exact .inl ⟨rfl,rfl⟩
 case round=>
  rcases hrel with⟨rfl,rfl⟩|⟨rfl,hw⟩
  · obtain⟨b0,b5,b6⟩:=HC.out
    go_wp2_with (go_at_call 244
                 refine H1.out.mono ?_
                 rintro e w2 ⟨rfl,A',n',c',a6,a3,a2⟩;have a5:=(a3.block bx (zqL a7 HN.out.size) hbx).trans HX.out;have q1:=zaa a5 ox _ (Array.getElem?_eq_getElem hox);have q2:=zad a5 ox;have H2:=zqH (zN a6 (zN a2 a3));have c5:=zqH a5;clear a6 a2 a3 a5)
    obtain⟨a6,a2,a3⟩:=H2.out;have a9:Upd (fun b=>b=bx) w2 (w2.setCell ⟨bx,ox,none⟩ (.int .u64 (y:Int))):=Upd.setCell w2 _ rfl;refine⟨.inr ⟨rfl,zqH ⟨.int .u64 (y:Int),A',n',c',rfl,rfl,zac c5.out _,a6.upd a9 (fun e=>hbx e.symm) (fun a' ha' h0 e=>?_),a2,?_⟩⟩,by simp[intOf]⟩
    · obtain⟨a,ha,c6⟩:=a2 a' ha';exact HA.out a ha (c6▸e)
    · exact((HN.out.mono (fun _ _ h=>h.elim)).trans (a3.mono (fun b _ h=>.inl h))).trans (a9.mono (fun b _ h=>.inr h))
  · go_wp2
    go_end0
    exact hw.out
end Gz

/- Part of the proof. -/
import Derived.Test.YtbhnjkegkadodaaGreatDoorG10
import Derived.Test.YtbhnjkegkadodaaGreatDoorG14
set_option linter.all false
set_option maxRecDepth 100000
set_option maxHeartbeats 8000000
namespace Go.Proofs.YtbhnjkegkadodaaGreatDoor
open Go Go.RowKit Go.Proofs Gl
theorem nb_bits (x:Nat):(bitsN x+7) / 8=F1.nb x:=by
 unfold bitsN F1.nb
 by_cases h:x=0
 · rw[if_pos h,if_pos h]
 · rw[if_neg h,if_neg h];omega
theorem byte_of_limb {l:List Nat} (hl:Gn.Lim l) {q r:Nat} (hq:q<l.length) (hr:r<8):l[q] / 2 ^ (8*r) % 256=Gn.val l / 2 ^ (8*(8*q+r)) % 256:=by
 have h1:=Gn.val_split l q (by omega)
 have h2:Gn.val (l.take q)<Gn.B ^ q:=by
  have:=Gn.val_lt (hl.take q)
  rwa [List.length_take_of_le (by omega)]at this
 have h3:l.drop q=l[q] :: l.drop (q+1):=List.drop_eq_getElem_cons hq
 rw[h3,Gn.val_cons]at h1
 have hB:Gn.B ^ q=2 ^ (8*(8*q)):=by unfold Gn.B;rw[show(18446744073709551616:Nat)=2 ^ 64 by decide,<-Nat.pow_mul];congr 1;omega
 have e:Gn.val l / Gn.B ^ q=l[q]+Gn.B*Gn.val (l.drop (q+1)):=by
  rw[h1,Nat.add_mul_div_left _ _ (Nat.pow_pos Gn.B_pos),Nat.div_eq_of_lt h2,Nat.zero_add]
 rw[Nat.mul_add,Nat.pow_add,<-hB,<-Nat.div_div_eq_div_mul,e]
 have e2:Gn.B*Gn.val (l.drop (q+1))=2 ^ (8*r)*(256*(2 ^ (56-8*r)*Gn.val (l.drop (q+1)))):=by
  have:Gn.B=2 ^ (8*r)*(256*2 ^ (56-8*r)):=by
   rw[show(256:Nat)=2 ^ 8 by decide,<-Nat.pow_add,<-Nat.pow_add,show 8*r+(8+(56-8*r))=64 by omega];rfl
  rw[this,Nat.mul_assoc,Nat.mul_assoc]
 rw[e2,Nat.add_mul_div_left _ _ (Nat.pow_pos (by decide)),Nat.add_mul_mod_self_left]
theorem run_make_bytes (n:Nat) (hn:n<=1073741824) (w:World):
 (Instr.makeSlice 113 (.int .i64 (n:Int)) (.int .i64 (n:Int))).run Tryz.prog w=.ok (.slice (some ⟨w.heap.size,0,none⟩) n n) (w.alloc (.cells ((List.replicate n 0).map u8).toArray 5)):=by
 obtain⟨i0,hi0,hz0,hz1,hz2⟩:=info_parts info5
 have hr:=run_make (P:=Tryz.prog) w 113 5 i0 (.int .u8 0) Tryz.underlying113 hi0 hz0 .i64 .i64 n n (by omega) (by omega) (by rw[hz2];omega) (by omega)
 simp only[Int.toNat_natCast,hz1,Nat.mul_one]at hr
 rw[hr]
 have e:madeCells (Value.int .u8 0).cells n=((List.replicate n 0).map u8).toArray:=by
  apply Array.ext'
  apply List.ext_getElem
  · simp[madeCells]
  · intro j h1 h2
    simp[madeCells,Value.cells,Nat.mod_one]
 rw[e]
theorem rep_set (m x:Nat) (bs:List Nat):(List.replicate (m+1) 0 ++ bs).set m x=List.replicate m 0 ++ x :: bs:=by
 rw[List.replicate_succ',List.append_assoc,List.set_append_right _ _ (by simp)]
 simp
def BytR (w:World) (x:Nat) (e:Ending) (w':World):Prop:=∃A c,e=.returned (.slice A (F1.nb x) c)/\By w' A (F1.nb x) c (be (F1.nb x) x)/\New w w'/\∀a,A=some a->w.heap.size<=a.block
theorem nbytes {Q:Nat->Prop} {w:World} {A:Option Addr} {n c x:Nat} (h:LQ Q w A n c x):Calls Tryz.prog 287 #[.slice A n c] w (BytR w x):=by
 have hf:=h.few
 obtain⟨l,h1,rfl⟩:=h.nat
 have hB:=zqH (Bits_c h1 (by omega))
 have hll:=h1.len
 have hlim:=h1.lim
 obtain⟨N,hN⟩:∃N,N=F1.nb (Gn.val l):=⟨_,rfl⟩
 have hbn:(bitsN (Gn.val l)+7) / 8=N:=by rw[nb_bits,hN]
 have hN8:N<=8*n:=by
  rw[hN]
  refine F1.nb_le ?_
  have:=Gn.val_lt hlim
  rw[hll]at this
  rwa [Nat.pow_mul,show(256:Nat) ^ 8=Gn.B by decide]
 obtain⟨b,hb⟩:∃b,b=bitsN (Gn.val l):=⟨_,rfl⟩
 rw[<-hb]at hB hbn
 have hdiv:((b:Int)+7).tdiv 8=(N:Int):=by
  rw[<-hbn,Int.tdiv_eq_ediv_of_nonneg (by omega)];omega
 unfold BytR
 rw[<-hN]
 obtain⟨X,hX⟩:∃X,X=Gn.val l:=⟨_,rfl⟩
 rw[<-hX]at hN ⊢
 have HX:=zqH hX;have HN:=zqH hN;have HL:=zqH h1;have HLI:=zqH hlim;have HLL:=zqH hll
 have hb2:b<=64000+1000:=by omega
 have hmk:=fun W=>run_make_bytes N (by omega) W
 clear hX hN h1 hlim hll h hb hbn
 go_enter Tryz.func287,Tryz.ntmps287
 go_wp2_with (go_at_call 76;refine hB.out.mono ?_;rintro e w' ⟨rfl,rfl⟩)
 go_loopw [13] (fun i wr=>∃(k:Nat),k<=N/\i=.int .i64 (k:Int)/\Hid (wr.heap[w.heap.size]?=some (.cells ((List.replicate (N-k) 0 ++ be k X).map u8).toArray 5 (0,0))/\New w wr)) (fun i _=>N-(intOf i).toNat)
 case atStart=>
  refine⟨0,Nat.zero_le _,rfl,zqH ⟨?_,Upd.alloc _ _ _⟩⟩
  rw[Ex.alloc_new w _];simp[be]
 case round=>
  obtain⟨k,hk,rfl,hI⟩:=hrel
  by_cases hkN:k<N
  · obtain⟨hh,hn⟩:=hI.out
    have hq:k / 8<l.length:=by rw[HLL.out];omega
    obtain⟨b0,off,rfl,hrow⟩:=HL.out.row (by omega)
    obtain⟨z,hz⟩:∃z,z=l[k / 8]:=⟨_,rfl⟩
    have hcz:wr.cell? ⟨b0,off+k / 8,none⟩=some (.int .u64 (z:Int)):=by
     have h0:=HL.out.cell rfl (k / 8) hq
     rw[hz,hn.cell (a:=⟨b0,off+k / 8,none⟩) hrow.lt id];exact h0
    obtain⟨y,hy⟩:∃y,y=z / 2 ^ (8*(k % 8)):=⟨_,rfl⟩
    have hyv:y % 256=X / 2 ^ (8*k) % 256:=by
     rw[hy,hz,HX.out,byte_of_limb HLI.out hq (Nat.mod_lt _ (by omega)),show 8*(k / 8)+k % 8=k by omega]
    have hsh:∀W,(Op.shift .shr .u64 (z:Int) .i64 (IntKind.i64.wrap (8*(k:Int).tmod 8))).run Tryz.prog W=.ok (.int .u64 ((y:Nat):Int)) W:=fun W=>by
     rw[hy]
     refine run_shr_nat z (8*(k % 8)) _ ?_ (by omega) W
     rw[Int.tmod_eq_emod_of_nonneg (by omega),IntKind.wrap_i64];omega
    have hqd:(k:Int).tdiv 8=((k / 8:Nat):Int):=by rw[Int.tdiv_eq_ediv_of_nonneg (by omega)];omega
    have hkm:k / 8<n:=by rw[<-HLL.out];exact hq
    have hcs:n<=c/\c<=maxLen:=⟨HL.out.le,HL.out.max⟩
    have hg:wr.frozen? ⟨w.heap.size,N-1-k,none⟩=false:=zac hh _
    have hgc:∃u,wr.cell? ⟨w.heap.size,N-1-k,none⟩=some u:=⟨_,zaa hh _ _ (by rw[Array.getElem?_eq_getElem (by simp[zah];omega)])⟩
    obtain⟨u,hgu⟩:=hgc
    have HH:=zqH hh;have HNW:=zqH hn;have HY:=zqH hyv;have HYD:=zqH hy
    have hwr:IntKind.u8.wrap (y:Int)=((y % 256:Nat):Int):=wrap_u8_nat y
    clear hh hn hyv hy hz hrow hq
    go_wp2
    obtain⟨m,hm⟩:∃m,m=N-1-k:=⟨_,rfl⟩
    have hv:(Value.int .u8 ((z:Int) / 2 ^ (8*(k % 8)) % 256))=u8 (X / 2 ^ (8*k) % 256):=by
     rw[<-HY.out,HYD.out];congr 1
    rw[hv]
    refine⟨⟨k+1,by omega,by congr 1,zqH ⟨?_,?_⟩⟩,by simp[intOf];omega⟩
    · rw[zab HH.out,<-hm,show N-k=m+1 by omega,show N-(k+1)=m by omega,List.setIfInBounds_toArray,<-List.map_set,rep_set];rfl
    · exact HNW.out.then (Upd.setCell (S:=fun b=>b=w.heap.size) wr _ rfl) (fun b hb e=>by omega)
  · obtain rfl:k=N:=by omega
    obtain⟨hh,hn⟩:=hI.out
    rw[Nat.sub_self,List.replicate_zero,List.nil_append]at hh
    have hby:By wr (some ⟨w.heap.size,0,none⟩) k k (be k X):=by
     refine⟨⟨by simp[zah],Nat.le_refl _,by unfold maxLen;omega,fun _=>⟨_,_,rfl,(zqA.1 hh).1,fun i v hv=>?_⟩,fun e=>by cases e⟩,be_small _ _⟩
     rw[Nat.zero_add];exact zaa hh i v (by simpa using hv)
    have HBY:=zqH hby;have HN2:=zqH hn
    clear hh hn hby
    go_wp2
    go_ret
    exact⟨_,_,rfl,HBY.out,HN2.out,fun a e=>by cases e;exact Nat.le_refl _⟩
theorem Wr.upd {T:Nat->Prop} {base bw:Nat} {w w':World} {A:Option Addr} {n c:Nat} {bs:List Nat} (h:Wr base bw w A n c bs) (hu:Upd T w w') (h1:¬T bw) (h2:∀b,(Value.slice A n c).ownBlock=some b->¬T b):Wr base bw w' A n c bs:=by
 obtain⟨t,ht⟩:=h.blk
 exact⟨⟨t,(hu.block _ h.lt h1).trans ht⟩,zae h.own (fun b hb hl=>hu.block b hl (h2 b hb)),h.ne,h.small,h.hb⟩
theorem Wr.new {base bw:Nat} {w w':World} {A:Option Addr} {n c:Nat} {bs:List Nat} (h:Wr base bw w A n c bs) (hu:New w w'):Wr base bw w' A n c bs:=h.upd hu id (fun _ _=>id)
theorem Wr.own_lt {base bw:Nat} {w:World} {A:Option Addr} {n c:Nat} {bs:List Nat} (h:Wr base bw w A n c bs) {b:Nat} (hb:(Value.slice A n c).ownBlock=some b):b<w.heap.size:=(zak h.own hb).1
theorem Wrote.both {base bw:Nat} {w w1 w2 w3:World} {A A1 A2:Option Addr} {n c c1 c2 k k2:Nat} {bs news news2:List Nat} (hn:New w w1)
 (hu1:Upd (fun b=>b=bw\/(Value.slice A n c).ownBlock=some b) w1 w2) (hf1:(Value.slice A1 (n+k) c1).ownBlock=(Value.slice A n c).ownBlock\/∃g,(Value.slice A1 (n+k) c1).ownBlock=some g/\w1.heap.size<=g)
 (hw2:Wr base bw w3 A2 (n+k+k2) c2 (bs ++ news ++ news2)) (hu2:Upd (fun b=>b=bw\/(Value.slice A1 (n+k) c1).ownBlock=some b) w2 w3) (hf2:(Value.slice A2 (n+k+k2) c2).ownBlock=(Value.slice A1 (n+k) c1).ownBlock\/∃g,(Value.slice A2 (n+k+k2) c2).ownBlock=some g/\w2.heap.size<=g):
 Wrote base bw w A n c bs (k+k2) (news ++ news2) (.returned (.tuple #[])) w3:=by
 have hs1:=hn.size
 have hs2:=hu1.size
 refine⟨rfl,A2,c2,by rw[<-Nat.add_assoc,<-List.append_assoc];exact hw2,?_,?_⟩
 · refine((hn.mono (fun _ _ h=>h.elim)).trans hu1).then hu2 (fun b hb h=>?_)
   rcases h with h|h
   · exact .inl h
   · rcases hf1 with e|⟨g,e,hg⟩
     · rw[e]at h;exact .inr h
     · rw[e]at h;injection h with h;omega
 · rw[<-Nat.add_assoc]
   rcases hf2 with e|⟨g,e,hg⟩
   · rw[e]
     rcases hf1 with e1|⟨g,e1,hg⟩
     · exact .inl e1
     · exact .inr ⟨g,e1,by omega⟩
   · exact .inr ⟨g,e,by omega⟩
theorem wNat {Q:Nat->Prop} {base bw:Nat} {w:World} {A A2:Option Addr} {n c m d x:Nat} {bs:List Nat} (h:Wr base bw w A n c bs) (hx:LQ Q w A2 m d x) (hb:F1.nb x<=255) (hn:n+1000<=1073741824) (hbase:base<=w.heap.size):
 Calls Tryz.prog 268 #[.pointer (some ⟨bw,0,none⟩),.slice A2 m d] w (Wrote base bw w A n c bs (1+F1.nb x) (F1.nb x :: be (F1.nb x) x)):=by
 have h1:=nbytes hx
 obtain⟨N,hN⟩:∃N,N=F1.nb x:=⟨_,rfl⟩
 unfold BytR at h1
 rw[<-hN]at h1 hb ⊢
 have hw:IntKind.u8.wrap (N:Int)=(N:Int):=by simp[IntKind.wrap,IntKind.bits,IntKind.signed];omega
 have H1:=zqH h1;have HW:=zqH h
 clear hN h1 h hx
 go_enter Tryz.func268,Tryz.ntmps268
 go_wp2_with (first
  | (go_at_call 287;refine H1.out.mono ?_;rintro e w1 ⟨A3,c3,rfl,hby,hn1,hat⟩;have h2:=wU8 (HW.out.new hn1) N (by omega) (by omega) (Nat.le_trans hbase hn1.size);have H2:=zqH (And.intro hby (And.intro hn1 hat));clear H1 hby hn1 hat)
  | (go_at_call 288;refine h2.mono ?_;rintro e w2 ⟨rfl,A4,c4,hw4,hu4,hf4⟩;have h3:=wall hw4 (H2.out.1.upd hu4 (fun a ha h0 hh=>by
      have h5:=H2.out.2.2 a ha
      rcases hh with hh|hh
      · have:=HW.out.lt;omega
      · have:=HW.out.own_lt hh;omega)) (by omega) (Nat.le_trans hbase (Nat.le_trans H2.out.2.1.size hu4.size));have H4:=zqH (And.intro hw4 (And.intro hu4 hf4));clear h2 hw4 hu4 hf4)
  | (go_at_call 289;refine h3.mono ?_;rintro e w3 ⟨rfl,A5,c5,hw5,hu5,hf5⟩;have H5:=zqH (And.intro hw5 (And.intro hu5 hf5));clear h3 hw5 hu5 hf5))
 all_goals go_end0
 obtain⟨hby,hn1,hat⟩:=H2.out
 obtain⟨hw4,hu4,hf4⟩:=H4.out
 obtain⟨hw5,hu5,hf5⟩:=H5.out
 have e1:be 1 N=[N]:=by simp[be];omega
 have:=Wrote.both hn1 hu4 hf4 hw5 hu5 hf5
 rw[e1]at this
 exact this
theorem zad (w:World) (o:Obj):(w.alloc o).heap.size=w.heap.size+1:=by show(w.heap.push _).size=_;simp
theorem Wr.fresh {w:World} {bw:Nat} {t:TypeId} (h:w.heap[bw]?=some (.cells #[.slice none 0 0,.int .i64 0] t (0,0))):Wr bw bw w none 0 0 []:=
 ⟨⟨t,h⟩,World.ownsRow_nil _ _ _ _,fun a e=>(by cases e),fun b hb=>(by cases hb),Nat.le_refl _⟩
theorem wDec {Q:Nat->Prop} {base bw:Nat} {w:World} {A A2:Option Addr} {n c m d x:Nat} {bs:List Nat} (h:Wr base bw w A n c bs) (hx:LQ Q w A2 m d x) (hb:F1.nb x<=255) (hn:n+1000<=1073741824) (hbase:base<=w.heap.size):
 Calls Tryz.prog 240 #[.pointer (some ⟨bw,0,none⟩),.agg #[.slice A2 m d]] w (Wrote base bw w A n c bs (1+F1.nb x) (F1.nb x :: be (F1.nb x) x)):=by
 obtain⟨W,hW⟩:∃W,W=w.alloc (.cells #[.slice A2 m d] 26):=⟨_,rfl⟩
 have hnw:New w W:=by rw[hW];exact Upd.alloc _ _ _
 have h1:=wNat (h.new hnw) (hx.new hnw) hb hn (Nat.le_trans hbase hnw.size)
 have H1:=zqH h1;have HN:=zqH hnw
 clear h1 hnw h hx hb hn hbase
 go_enter Tryz.func240,Tryz.ntmps240
 go_wp2_with (rw[<-hW];go_at_call 268;refine H1.out.mono ?_;rintro e w1 ⟨rfl,hr⟩)
 go_end0
 obtain⟨A',c',hw,hu,hf⟩:=hr
 refine⟨rfl,A',c',hw,(HN.out.mono (fun _ _ h=>h.elim)).trans hu,hf.imp id (fun⟨g,e,hg⟩=>⟨g,e,Nat.le_trans HN.out.size hg⟩)⟩
theorem short_c' {Q:Nat->Prop} {w:World} {A:Option Addr} {m d x:Nat} (hx:LQ Q w A m d x) (hb:F1.nb x<=255):
 Calls Tryz.prog 241 #[.agg #[.slice A m d]] w fun e w'=>e=.returned (.agg #[.slice A m d])/\New w w':=by
 obtain⟨W1,hW1⟩:∃W1,W1=w.alloc (.cells #[.slice A m d] 26):=⟨_,rfl⟩
 obtain⟨W2,hW2⟩:∃W2,W2=W1.alloc (.cells #[.slice none 0 0] 26):=⟨_,rfl⟩
 obtain⟨W3,hW3⟩:∃W3,W3=W2.alloc (.cells #[.slice none 0 0,.int .i64 0] 285):=⟨_,rfl⟩
 have n1:New w W1:=by rw[hW1];exact Upd.alloc _ _ _
 have n2:New W1 W2:=by rw[hW2];exact Upd.alloc _ _ _
 have n3:New W2 W3:=by rw[hW3];exact Upd.alloc _ _ _
 have s1:W1.heap.size=w.heap.size+1:=by rw[hW1];exact zad _ _
 have s2:W2.heap.size=w.heap.size+1+1:=by rw[hW2,zad,s1]
 have b1:W3.heap[w.heap.size]?=some (.cells #[.slice A m d] 26 (0,0)):=(n3.block _ (by omega) id).trans ((n2.block _ (by omega) id).trans (by rw[hW1];exact Ex.alloc_new w _))
 have b2:W3.heap[w.heap.size+1]?=some (.cells #[.slice none 0 0] 26 (0,0)):=(n3.block _ (by omega) id).trans (by rw[hW2,<-s1];exact Ex.alloc_new W1 _)
 have b3:W3.heap[w.heap.size+1+1]?=some (.cells #[.slice none 0 0,.int .i64 0] 285 (0,0)):=by rw[hW3,<-s2];exact Ex.alloc_new W2 _
 have hn:New w W3:=n1.trans (n2.trans n3)
 have s3:W3.heap.size=w.heap.size+1+1+1:=by rw[hW3,zad,s2]
 have hc:=zaa b1 0 _ rfl
 have hd:=wDec (Wr.fresh b3) (hx.new hn) hb (by omega) (by omega)
 have HD:=zqH hd;have HN:=zqH hn;have B1:=zqH b1;have B2:=zqH b2
 clear hd hn b1 b2 b3 hx n1 n2 n3
 go_enter Tryz.func241,Tryz.ntmps241
 go_wp2_with (first
  | (rw[<-hW1,<-hW2,<-hW3];go_at_call 240;refine HD.out.mono ?_;rintro e w1 ⟨rfl,A4,c4,hw4,hu4,hf4⟩;have k1:=(hu4.block _ (by omega) (fun h=>h.elim (fun h=>by omega) (fun h=>by cases h))).trans B1.out;have k2:=(hu4.block _ (by omega) (fun h=>h.elim (fun h=>by omega) (fun h=>by cases h))).trans B2.out;have h203:=wOut hw4 (by omega);have H4:=zqH hu4;have K1:=zqH (And.intro k1 k2);clear hw4 hu4 hf4 HD k1 k2 hc)
  | (go_at_call 203;refine h203.mono ?_;rintro e w2 ⟨A5,c5,rfl,_,hn5,_⟩;have k1:=(hn5.block _ (zqA.1 K1.out.1).1 id).trans K1.out.1;have k2:=(hn5.block _ (zqA.1 K1.out.2).1 id).trans K1.out.2;have q1:=zaa k1 0 _ rfl;have q2:=zaa k2 0 _ rfl;have q3:=zac k2 0;have K2:=zqH k2;have HN5:=zqH hn5;clear h203 hn5 k1 k2))
 have q0:(w2.setCell ⟨w.heap.size+1,0,none⟩ (.slice A m d)).cell? ⟨w.heap.size+1,0,none⟩=some (.slice A m d):=zaa (zab K2.out (.slice A m d) (i:=0)) 0 _ rfl
 refine bodyPost_ret (by simp[results,Tryz.results241,go_sem,q0];try rfl) rfl ?_
 refine⟨rfl,?_⟩
 exact(((HN.out.mono (fun _ _ h=>h.elim)).then H4.out (fun b hb h=>h.elim (fun h=>by omega) (fun h=>by cases h))).trans HN5.out).then (Upd.setCell (S:=fun b=>b=w.heap.size+1) w2 _ rfl) (fun b hb e=>by omega)
theorem Wrote.from {base bw:Nat} {w w1:World} {A:Option Addr} {n c k:Nat} {bs news:List Nat} {e:Ending} {w2:World} (hn:New w w1) (h:Wrote base bw w1 A n c bs k news e w2):Wrote base bw w A n c bs k news e w2:=by
 obtain⟨he,A',c',hw,hu,hf⟩:=h
 exact⟨he,A',c',hw,(hn.mono (fun _ _ h=>h.elim)).trans hu,hf.imp id (fun⟨g,e,hg⟩=>⟨g,e,Nat.le_trans hn.size hg⟩)⟩
theorem wdecs {Q:Nat->Prop} {base bw lb bx ox:Nat} {w:World} {A A2:Option Addr} {n c m d x:Nat} {bs:List Nat} (h:Wr base bw w A n c bs) (hx:LQ Q w A2 m d x) (hb:F1.nb x<=255) (hn:n+1000<=1073741824) (hbase:base<=w.heap.size)
 (hl:w.cell? ⟨lb,0,none⟩=some (.pointer (some ⟨bx,ox,none⟩))) (hc:w.cell? ⟨bx,ox,none⟩=some (.slice A2 m d)) (hbx1:bx≠bw) (hbx2:(Value.slice A n c).ownBlock≠some bx):
 Calls Tryz.prog 204 #[.agg #[.pointer (some ⟨bw,0,none⟩),.pointer none],.slice (some ⟨lb,0,none⟩) 1 1] w (Wrote base bw w A n c bs (1+F1.nb x) (F1.nb x :: be (F1.nb x) x)):=by
 obtain⟨W,hW⟩:∃W,W=w.alloc (.cells #[.pointer (some ⟨bw,0,none⟩),.pointer none] 288):=⟨_,rfl⟩
 have hnw:New w W:=by rw[hW];exact Upd.alloc _ _ _
 have hbx:=Ex.alloc_new w (.cells #[.pointer (some ⟨bw,0,none⟩),.pointer none] 288)
 rw[<-hW]at hbx
 have hl1:=(hnw.cell (a:=⟨lb,0,none⟩) (zqB w _ hl) id).trans hl
 have hc1:=(hnw.cell (a:=⟨bx,ox,none⟩) (zqB w _ hc) id).trans hc
 have ht0:=zaa hbx 0 _ rfl
 have hbl:=h.lt
 have hol:=fun b hb=>h.own_lt (b:=b) hb
 have hbxl:=zqB w _ hc
 have hfar:∀w5 w6,New w w5->Upd (fun b=>b=bw\/(Value.slice A n c).ownBlock=some b) w5 w6->w5.cell? ⟨w.heap.size,0,none⟩=some (.pointer (some ⟨bw,0,none⟩))->w.heap.size<w5.heap.size->w5.cell? ⟨bx,ox,none⟩=some (.slice A2 m d)->w6.cell? ⟨w.heap.size,0,none⟩=some (.pointer (some ⟨bw,0,none⟩))/\w6.cell? ⟨bx,ox,none⟩=some (.slice A2 m d):=fun w5 w6 h5 h6 k1 k3 k2=>
  ⟨(h6.cell (a:=⟨w.heap.size,0,none⟩) k3 (fun h=>h.elim (fun h=>by have h:w.heap.size=bw:=h;omega) (fun h=>by have:=hol _ h;exact Nat.lt_irrefl _ this))).trans k1,(h6.cell (a:=⟨bx,ox,none⟩) (zqL hbxl h5.size) (fun h=>h.elim hbx1 hbx2)).trans k2⟩
 have HFAR:=zqH hfar
 have hWs:w.heap.size<W.heap.size:=by rw[hW,zad];omega
 have HWS:=zqH hWs
 have h241:∀W',New w W'->Calls Tryz.prog 241 #[.agg #[.slice A2 m d]] W' _:=fun W' hn'=>short_c' (hx.new hn') hb
 have h240:∀W',New w W'->Calls Tryz.prog 240 #[.pointer (some ⟨bw,0,none⟩),.agg #[.slice A2 m d]] W' _:=fun W' hn'=>wDec (h.new hn') (hx.new hn') hb hn (Nat.le_trans hbase hn'.size)
 have H1:=zqH h241;have H0:=zqH h240;have HN:=zqH hnw;have HC:=zqH (And.intro hl1 (And.intro hc1 ht0))
 clear h241 h240 hnw h hx hb hn hbase hl hc hbx hfar hbl hol hbxl hbx1 hbx2 hWs
 go_enter Tryz.func204,Tryz.ntmps204
 go_wp2
 rw[<-hW]
 have HWW:=zqH hW
 clear hW
 go_loopw [8] (fun i wr=>(i=.int .i64 0/\wr=W)\/(i=.int .i64 1/\Hid (Wrote base bw w A n c bs (1+F1.nb x) (F1.nb x :: be (F1.nb x) x) (.returned (.tuple #[])) wr))) (fun i _=>1-(intOf i).toNat)
 case atStart=>exact .inl ⟨rfl,rfl⟩
 case round=>
  rcases hrel with⟨rfl,rfl⟩|⟨rfl,hw⟩
  · obtain⟨hl1,hc1,ht0⟩:=HC.out
    simp only[List.getElem_toArray,List.getElem_cons_zero]at ht0
    go_wp2
    go_region_held (fun w'=>w'.cell? ⟨w.heap.size,0,none⟩=some (.pointer (some ⟨bw,0,none⟩))/\w'.cell? ⟨bx,ox,none⟩=some (.slice A2 m d)) (go_keep) (first
     | (go_at_call 241;refine(H1.out _ HN.out.drew).mono ?_;rintro e w5 ⟨rfl,hn5⟩;have f0:=(hn5.cell (a:=⟨w.heap.size,0,none⟩) HWS.out id).trans ht0;have f1:=(hn5.cell (a:=⟨bx,ox,none⟩) (zqB wr _ hc1) id).trans hc1;have hn6:New w w5:=HN.out.drew.trans hn5;have HS5:=zqH (zqL HWS.out hn5.size);have HN6:=zqH hn6;clear hn5 hn6)
     | (go_at_call 240;refine(H0.out _ HN6.out).mono ?_;rintro e w6 hw;obtain rfl:e=.returned (.tuple #[]):=hw.1;obtain⟨_,A7,c7,hw7,hu7,hf7⟩:=hw;obtain⟨g0,g1⟩:=HFAR.out _ _ HN6.out hu7 f0 HS5.out f1;have HR:=zqH (Wrote.from HN6.out (⟨rfl,A7,c7,hw7,hu7,hf7⟩:Wrote base bw w5 A n c bs _ _ _ w6));clear hw7 hu7 hf7))
    all_goals go_wp2
    all_goals exact⟨.inr ⟨rfl,HR⟩,by simp[intOf]⟩
  · go_wp2
    go_end0
    exact hw.out
theorem wnum1 {base bw lb bx ox:Nat} {w:World} {A:Option Addr} {n c y:Nat} {bs:List Nat} (h:Wr base bw w A n c bs) (hy:y<18446744073709551616) (hn:n+1000<=1073741824) (hbase:base<=w.heap.size)
 (hl:w.cell? ⟨lb,0,none⟩=some (.pointer (some ⟨bx,ox,none⟩))) (hc:w.cell? ⟨bx,ox,none⟩=some (.int .u64 (y:Int))) (hbx1:bx≠bw) (hbx2:(Value.slice A n c).ownBlock≠some bx):
 Calls Tryz.prog 205 #[.agg #[.pointer (some ⟨bw,0,none⟩),.pointer none],.slice (some ⟨lb,0,none⟩) 1 1] w (Wrote base bw w A n c bs 8 (be 8 y)):=by
 obtain⟨W,hW⟩:∃W,W=w.alloc (.cells #[.pointer (some ⟨bw,0,none⟩),.pointer none] 288):=⟨_,rfl⟩
 have hnw:New w W:=by rw[hW];exact Upd.alloc _ _ _
 have hbx:=Ex.alloc_new w (.cells #[.pointer (some ⟨bw,0,none⟩),.pointer none] 288)
 rw[<-hW]at hbx
 have hl1:=(hnw.cell (a:=⟨lb,0,none⟩) (zqB w _ hl) id).trans hl
 have hc1:=(hnw.cell (a:=⟨bx,ox,none⟩) (zqB w _ hc) id).trans hc
 have ht0:=zaa hbx 0 _ rfl
 have hbl:=h.lt
 have hol:=fun b hb=>h.own_lt (b:=b) hb
 have hbxl:=zqB w _ hc
 have hfar:∀w5 w6,New w w5->Upd (fun b=>b=bw\/(Value.slice A n c).ownBlock=some b) w5 w6->w5.cell? ⟨w.heap.size,0,none⟩=some (.pointer (some ⟨bw,0,none⟩))->w.heap.size<w5.heap.size->w5.cell? ⟨bx,ox,none⟩=some (.int .u64 (y:Int))->w6.cell? ⟨w.heap.size,0,none⟩=some (.pointer (some ⟨bw,0,none⟩))/\w6.cell? ⟨bx,ox,none⟩=some (.int .u64 (y:Int)):=fun w5 w6 h5 h6 k1 k3 k2=>
  ⟨(h6.cell (a:=⟨w.heap.size,0,none⟩) k3 (fun h=>h.elim (fun h=>by have h:w.heap.size=bw:=h;omega) (fun h=>by have:=hol _ h;exact Nat.lt_irrefl _ this))).trans k1,(h6.cell (a:=⟨bx,ox,none⟩) (zqL hbxl h5.size) (fun h=>h.elim hbx1 hbx2)).trans k2⟩
 have HFAR:=zqH hfar
 have hWs:w.heap.size<W.heap.size:=by rw[hW,zad];omega
 have HWS:=zqH hWs
 have h240:∀W',New w W'->Calls Tryz.prog 243 #[.pointer (some ⟨bw,0,none⟩),.int .u64 (y:Int)] W' _:=fun W' hn'=>wU64 (h.new hn') y hy (by omega) (Nat.le_trans hbase hn'.size)
 have H0:=zqH h240;have HN:=zqH hnw;have HC:=zqH (And.intro hl1 (And.intro hc1 ht0))
 clear h240 hnw h hy hn hbase hl hc hbx hfar hbl hol hbxl hbx1 hbx2 hWs
 go_enter Tryz.func205,Tryz.ntmps205
 go_wp2
 rw[<-hW]
 have HWW:=zqH hW
 clear hW
 go_loopw [8] (fun i wr=>(i=.int .i64 0/\wr=W)\/(i=.int .i64 1/\Hid (Wrote base bw w A n c bs 8 (be 8 y) (.returned (.tuple #[])) wr))) (fun i _=>1-(intOf i).toNat)
 case atStart=>exact .inl ⟨rfl,rfl⟩
 case round=>
  rcases hrel with⟨rfl,rfl⟩|⟨rfl,hw⟩
  · obtain⟨hl1,hc1,ht0⟩:=HC.out
    simp only[List.getElem_toArray,List.getElem_cons_zero]at ht0
    go_wp2
    go_region_held (fun w'=>w'.cell? ⟨w.heap.size,0,none⟩=some (.pointer (some ⟨bw,0,none⟩))/\w'.cell? ⟨bx,ox,none⟩=some (.int .u64 (y:Int))) (go_keep) (
     (go_at_call 243;refine(H0.out _ HN.out.drew).mono ?_;rintro e w6 hw;obtain rfl:e=.returned (.tuple #[]):=hw.1;obtain⟨_,A7,c7,hw7,hu7,hf7⟩:=hw;obtain⟨g0,g1⟩:=HFAR.out _ _ HN.out.drew hu7 ht0 HWS.out hc1;have HR:=zqH (Wrote.from HN.out.drew (⟨rfl,A7,c7,hw7,hu7,hf7⟩:Wrote base bw wr.drew A n c bs _ _ _ w6));clear hw7 hu7 hf7))
    all_goals go_wp2
    all_goals exact⟨.inr ⟨rfl,HR⟩,by simp[intOf]⟩
  · go_wp2
    go_end0
    exact hw.out
theorem whist {Q:Nat->Prop} {base bw bx:Nat} {tx:TypeId} {w:World} {A A2:Option Addr} {n c m d x y:Nat} {bs:List Nat} (h:Wr base bw w A n c bs) (hx:LQ Q w A2 m d x) (hb:F1.nb x<=255) (hy:y<18446744073709551616) (hn:n+2000<=1073741824) (hbase:base<=w.heap.size)
 (hc:w.heap[bx]?=some (.cells #[.slice A2 m d,.int .u64 (y:Int)] tx (0,0))) (hbx1:bx≠bw) (hbx2:(Value.slice A n c).ownBlock≠some bx):
 Calls Tryz.prog 137 #[.agg #[.pointer (some ⟨bw,0,none⟩),.pointer none],.pointer (some ⟨bx,0,none⟩)] w (Wrote base bw w A n c bs (1+F1.nb x+8) (F1.encH x y)):=by
 obtain⟨W,hW⟩:∃W,W=w.alloc (.cells #[.pointer (some ⟨bw,0,none⟩),.pointer none] 288):=⟨_,rfl⟩
 have hnw:New w W:=by rw[hW];exact Upd.alloc _ _ _
 have hbt:=Ex.alloc_new w (.cells #[.pointer (some ⟨bw,0,none⟩),.pointer none] 288)
 rw[<-hW]at hbt
 have hbxl:=(zqA.1 hc).1
 have hbl:=h.lt
 have ht0:W.cell? ⟨w.heap.size,0,none⟩=some (.pointer (some ⟨bw,0,none⟩)):=zaa hbt 0 _ rfl
 have ht1:W.cell? ⟨w.heap.size,1,none⟩=some (.pointer none):=zaa hbt 1 _ rfl
 have h204:∀W' lb,New w W'->W'.cell? ⟨lb,0,none⟩=some (.pointer (some ⟨bx,0,none⟩))->Calls Tryz.prog 204 #[.agg #[.pointer (some ⟨bw,0,none⟩),.pointer none],.slice (some ⟨lb,0,none⟩) 1 1] W' (Wrote base bw W' A n c bs (1+F1.nb x) (F1.nb x :: be (F1.nb x) x)):=fun W' lb hn' hl=>
  wdecs (h.new hn') (hx.new hn') hb (by omega) (Nat.le_trans hbase hn'.size) hl (zaa ((hn'.block _ hbxl id).trans hc) 0 _ rfl) hbx1 hbx2
 have h205:∀W5 W6 lb A5 c5,New w W5->Upd (fun b=>b=bw\/(Value.slice A n c).ownBlock=some b) W5 W6->Wr base bw W6 A5 (n+(1+F1.nb x)) c5 (bs ++ F1.nb x :: be (F1.nb x) x) → ((Value.slice A5 (n+(1+F1.nb x)) c5).ownBlock=(Value.slice A n c).ownBlock\/∃g,(Value.slice A5 (n+(1+F1.nb x)) c5).ownBlock=some g/\W5.heap.size<=g)->∀W7,New W6 W7->W7.cell? ⟨lb,0,none⟩=some (.pointer (some ⟨bx,1,none⟩)) ->
    Calls Tryz.prog 205 #[.agg #[.pointer (some ⟨bw,0,none⟩),.pointer none],.slice (some ⟨lb,0,none⟩) 1 1] W7 (Wrote base bw W7 A5 (n+(1+F1.nb x)) c5 (bs ++ F1.nb x :: be (F1.nb x) x) 8 (be 8 y)):=fun W5 W6 lb A5 c5 h5 h6 hw hf W7 h7 hl=>
  wnum1 (hw.new h7) hy (by omega) (Nat.le_trans hbase (Nat.le_trans h5.size (Nat.le_trans h6.size h7.size))) hl (zaa ((h7.block _ (zqL hbxl (Nat.le_trans h5.size h6.size)) id).trans ((h6.block _ (zqL hbxl h5.size) (fun h=>h.elim hbx1 hbx2)).trans ((h5.block _ hbxl id).trans hc))) 1 _ rfl) hbx1 (fun e=>hf.elim (fun e2=>hbx2 (e2▸e)) (fun⟨g,e2,hg⟩=>by rw[e2]at e;injection e with e;have:=h5.size;omega))
 have hkeep:∀W5 W6 i v,W5.heap.size > w.heap.size->Upd (fun b=>b=bw\/(Value.slice A n c).ownBlock=some b) W5 W6->W5.cell? ⟨w.heap.size,i,none⟩=some v->W6.cell? ⟨w.heap.size,i,none⟩=some v:=fun W5 W6 i v hs hu hv=>
  (hu.cell (a:=⟨w.heap.size,i,none⟩) hs (fun e=>e.elim (fun e=>by have e:w.heap.size=bw:=e;omega) (fun e=>by have:=h.own_lt e;exact Nat.lt_irrefl _ this))).trans hv
 have hWs:w.heap.size<W.heap.size:=by rw[hW,zad];omega
 have HB:=zqH hbl;have HO:=zqH (fun b hb=>h.own_lt (b:=b) hb)
 have H4:=zqH h204;have H5:=zqH h205;have HK:=zqH hkeep;have HN:=zqH hnw;have HWS:=zqH hWs;have HWW:=zqH hW
 clear h204 h205 hkeep hnw hWs h hx hb hy hn hbase hc hbx1 hbx2 hbt hbxl hbl
 go_enter Tryz.func137,Tryz.ntmps137
 go_wp2
 rw[<-hW]
 clear hW
 go_region_held (fun w'=>w'.cell? ⟨w.heap.size,0,none⟩=some (.pointer (some ⟨bw,0,none⟩))/\w'.cell? ⟨w.heap.size,1,none⟩=some (.pointer none)) (go_keep) (
  (go_at_call 204
   obtain⟨W5,hW5⟩:∃W5,W5=(W.alloc (.cells #[.pointer (some ⟨bx,0,none⟩)] 292)).drew:=⟨_,rfl⟩
   rw[<-hW5]
   have n5:New W W5:=by rw[hW5];exact(Upd.alloc _ _ _).drew
   have hl5:W5.cell? ⟨W.heap.size,0,none⟩=some (.pointer (some ⟨bx,0,none⟩)):=by rw[hW5];exact zaa (Ex.alloc_new W _) 0 _ rfl
   refine(H4.out W5 _ (HN.out.trans n5) hl5).mono ?_
   rintro e W6 hw
   obtain rfl:e=.returned (.tuple #[]):=hw.1
   obtain⟨_,A5,c5,hw5,hu5,hf5⟩:=hw
   have s5:w.heap.size<W5.heap.size:=zqL HWS.out n5.size
   have t0:=HK.out W5 W6 0 _ s5 hu5 ((n5.cell (a:=⟨w.heap.size,0,none⟩) HWS.out id).trans ht0)
   have t1:=HK.out W5 W6 1 _ s5 hu5 ((n5.cell (a:=⟨w.heap.size,1,none⟩) HWS.out id).trans ht1)
   have H6:=zqH (fun lb=>H5.out W5 W6 lb A5 c5 (HN.out.trans n5) hu5 hw5 hf5)
   have HX:=zqH (And.intro (HN.out.trans n5) (And.intro hu5 hf5))
   have HS6:=zqH (zqL s5 hu5.size);have HS5:=zqH s5
   clear n5 hl5 hW5 hw5 hu5 hf5 s5))
 all_goals go_wp2
 go_region_held (fun w'=>w'.cell? ⟨w.heap.size,0,none⟩=some (.pointer (some ⟨bw,0,none⟩))/\w'.cell? ⟨w.heap.size,1,none⟩=some (.pointer none)) (go_keep) (
  (go_at_call 205
   obtain⟨W7,hW7⟩:∃W7,W7=(W6.alloc (.cells #[.pointer (some ⟨bx,1,none⟩)] 294)).drew:=⟨_,rfl⟩
   rw[<-hW7]
   have n7:New W6 W7:=by rw[hW7];exact(Upd.alloc _ _ _).drew
   have hl7:W7.cell? ⟨W6.heap.size,0,none⟩=some (.pointer (some ⟨bx,1,none⟩)):=by rw[hW7];exact zaa (Ex.alloc_new W6 _) 0 _ rfl
   refine(H6.out _ W7 n7 hl7).mono ?_
   rintro e W8 hw
   obtain rfl:e=.returned (.tuple #[]):=hw.1
   have HY:=zqH (And.intro n7 hw)
   obtain⟨_,A9,c9,hw9,hu9,hf9⟩:=hw
   have hno:¬(w.heap.size=bw\/(Value.slice A5 (n+(1+F1.nb x)) c5).ownBlock=some w.heap.size):=fun h=>h.elim (fun e=>by have:=HB.out;omega) (fun e=>HX.out.2.2.elim (fun e2=>by rw[e2]at e;exact Nat.lt_irrefl _ (HO.out _ e)) (fun⟨g,e2,hg⟩=>by rw[e2]at e;injection e with e;have:=HX.out.1.size;have:=HWS.out;have:=HS5.out;omega))
   have s7:w.heap.size<W7.heap.size:=zqL HS6.out n7.size
   have u0:W8.cell? ⟨w.heap.size,0,none⟩=some (.pointer (some ⟨bw,0,none⟩)):=(hu9.cell (a:=⟨w.heap.size,0,none⟩) s7 hno).trans ((n7.cell (a:=⟨w.heap.size,0,none⟩) HS6.out id).trans t0)
   have u1:W8.cell? ⟨w.heap.size,1,none⟩=some (.pointer none):=(hu9.cell (a:=⟨w.heap.size,1,none⟩) s7 hno).trans ((n7.cell (a:=⟨w.heap.size,1,none⟩) HS6.out id).trans t1)
   clear n7 hl7 hW7 hw9 hu9 hf9 hno s7))
 all_goals go_wp2
 all_goals go_end0
 obtain⟨hn5,hu5,hf5⟩:=HX.out
 obtain⟨hn7,hw⟩:=HY.out
 obtain⟨_,A9,c9,hw9,hu9,hf9⟩:=Wrote.from hn7 hw
 have:=Wrote.both hn5 hu5 hf5 hw9 hu9 hf9
 rw[show F1.nb x :: be (F1.nb x) x ++ be 8 y=F1.encH x y by simp[F1.encH]]at this
 exact this
def ByR (w:World) (bs:List Nat) (e:Ending) (w':World):Prop:=∃A n c,e=.returned (.slice A n c)/\By w' A n c bs/\New w w'/\∀a,A=some a->w.heap.size<=a.block
theorem put_h1 {Q:Nat->Prop} {w:World} {cb:Nat} {A2:Option Addr} {m d x y:Nat} (hx:LQ Q w A2 m d x) (hb:F1.nb x<=255) (hy:y<18446744073709551616) (hcb:w.cell? ⟨cb,0,none⟩=some (.func (.func 137) #[] #[])):
 Calls Tryz.prog 202 #[.agg #[.slice A2 m d,.int .u64 (y:Int)],.pointer (some ⟨cb,0,none⟩)] w (ByR w (F1.encH x y)):=by
 obtain⟨W1,hW1⟩:∃W1,W1=w.alloc (.cells #[.slice A2 m d,.int .u64 (y:Int)] 120):=⟨_,rfl⟩
 obtain⟨W2,hW2⟩:∃W2,W2=W1.alloc (.cells #[.slice none 0 0,.int .i64 0] 285):=⟨_,rfl⟩
 obtain⟨W3,hW3⟩:∃W3,W3=W2.alloc (.cells #[.pointer (some ⟨w.heap.size+1,0,none⟩),.pointer none] 288):=⟨_,rfl⟩
 have n1:New w W1:=by rw[hW1];exact Upd.alloc _ _ _
 have n2:New W1 W2:=by rw[hW2];exact Upd.alloc _ _ _
 have n3:New W2 W3:=by rw[hW3];exact Upd.alloc _ _ _
 have s1:W1.heap.size=w.heap.size+1:=by rw[hW1];exact zad _ _
 have s2:W2.heap.size=w.heap.size+1+1:=by rw[hW2,zad,s1]
 have b1:W3.heap[w.heap.size]?=some (.cells #[.slice A2 m d,.int .u64 (y:Int)] 120 (0,0)):=(n3.block _ (by omega) id).trans ((n2.block _ (by omega) id).trans (by rw[hW1];exact Ex.alloc_new w _))
 have b2:W3.heap[w.heap.size+1]?=some (.cells #[.slice none 0 0,.int .i64 0] 285 (0,0)):=(n3.block _ (by omega) id).trans (by rw[hW2,<-s1];exact Ex.alloc_new W1 _)
 have b3:W3.heap[w.heap.size+1+1]?=some (.cells #[.pointer (some ⟨w.heap.size+1,0,none⟩),.pointer none] 288 (0,0)):=by rw[hW3,<-s2];exact Ex.alloc_new W2 _
 have hn:New w W3:=n1.trans (n2.trans n3)
 have s3:W3.heap.size=w.heap.size+1+1+1:=by rw[hW3,zad,s2]
 have hcb3:=(hn.cell (a:=⟨cb,0,none⟩) (zqB w _ hcb) id).trans hcb
 have q0:W3.cell? ⟨w.heap.size+1+1,0,none⟩=some (.pointer (some ⟨w.heap.size+1,0,none⟩)):=zaa b3 0 _ rfl
 have q1:W3.cell? ⟨w.heap.size+1+1,1,none⟩=some (.pointer none):=zaa b3 1 _ rfl
 have h137:=whist (Wr.fresh b2) (hx.new hn) hb hy (by omega) (by omega) b1 (by omega) (fun e=>by cases e)
 have H1:=zqH h137;have HN:=zqH hn;have HQ:=zqH q0;have S3:=zqH s3;have HB:=zqH hb
 clear h137 hn b1 b2 b3 n1 n2 n3 hx hb hy s1 s2 s3
 go_enter Tryz.func202,Tryz.ntmps202
 go_upto_region 2 with fail
 rw[<-hW1,<-hW2,<-hW3]
 clear hW1 hW2 hW3
 go_wp2_with (first
  | (go_at_call 137;refine H1.out.mono ?_;rintro e w1 ⟨rfl,A4,c4,hw4,hu4,hf4⟩;have k0:=(hu4.cell (a:=⟨w.heap.size+1+1,0,none⟩) (by have:=S3.out;show w.heap.size+1+1<_;omega) (fun h=>h.elim (fun h=>by have h:w.heap.size+1+1=w.heap.size+1:=h;omega) (fun h=>by cases h))).trans HQ.out;have h203:=wOut hw4 (by have:=HB.out;omega);have H4:=zqH hu4;clear hw4 hu4 hf4 H1)
  | (go_at_call 203;refine h203.mono ?_;rintro e w2 ⟨A5,c5,rfl,hb5,hn5,hat5,_⟩;have H5:=zqH (And.intro hb5 (And.intro hn5 hat5));clear h203 hb5 hn5 hat5))
 go_ret
 obtain⟨hb5,hn5,hat5⟩:=H5.out
 have hn4:New w w1:=HN.out.then H4.out (fun b hb h=>h.elim (fun h=>by omega) (fun h=>by cases h))
 exact⟨A5,_,c5,rfl,by simpa using hb5,hn4.trans hn5,fun a ha=>Nat.le_trans hn4.size (hat5 a ha)⟩
theorem putter_h (w:World):Calls Tryz.prog 136 #[.func (.func 137) #[] #[]] w fun e w'=>e=.returned (.func (.func 202) #[] #[.pointer (some ⟨w.heap.size,0,none⟩)])/\w'=w.alloc (.cells #[.func (.func 137) #[] #[]] 214):=by
 go_enter Tryz.func136,Tryz.ntmps136
 go_wp2
 go_ret
 exact⟨rfl,rfl⟩
theorem puthist_c {Q:Nat->Prop} {w:World} {A2:Option Addr} {m d x y:Nat} (hx:LQ Q w A2 m d x) (hb:F1.nb x<=255) (hy:y<18446744073709551616):
 Calls Tryz.prog 79 #[.agg #[.slice A2 m d,.int .u64 (y:Int)]] w (ByR w (F1.encH x y)):=by
 obtain⟨W1,hW1⟩:∃W1,W1=w.alloc (.cells #[.slice A2 m d,.int .u64 (y:Int)] 120):=⟨_,rfl⟩
 have n1:New w W1:=by rw[hW1];exact Upd.alloc _ _ _
 have b1:=Ex.alloc_new w (.cells #[.slice A2 m d,.int .u64 (y:Int)] 120)
 rw[<-hW1]at b1
 have q0:W1.cell? ⟨w.heap.size,0,none⟩=some (.slice A2 m d):=zaa b1 0 _ rfl
 have q1:W1.cell? ⟨w.heap.size,1,none⟩=some (.int .u64 (y:Int)):=zaa b1 1 _ rfl
 have h202:∀W cb,New w W->W.cell? ⟨cb,0,none⟩=some (.func (.func 137) #[] #[])->Calls Tryz.prog 202 #[.agg #[.slice A2 m d,.int .u64 (y:Int)],.pointer (some ⟨cb,0,none⟩)] W (ByR W (F1.encH x y)):=fun W cb hn hc=>put_h1 (hx.new hn) hb hy hc
 have H2:=zqH h202;have N1:=zqH n1;have BL:=zqH (zqA.1 b1).1
 clear h202 n1 b1 hx hb hy
 go_enter Tryz.func79,Tryz.ntmps79
 go_upto_region 1 with fail
 rw[<-hW1]
 clear hW1
 go_region_held (fun w'=>w'.cell? ⟨w.heap.size,0,none⟩=some (.slice A2 m d)/\w'.cell? ⟨w.heap.size,1,none⟩=some (.int .u64 (y:Int))) (go_keep) (first
  | (go_at_call 136
     refine(putter_h _).mono ?_
     rintro e W2 ⟨rfl,hW2⟩
     have n2:New W1 W2:=by rw[hW2];exact(Upd.refl _ W1).drew.trans (Upd.alloc _ _ _)
     have hcb:W2.cell? ⟨W1.drew.heap.size,0,none⟩=some (.func (.func 137) #[] #[]):=by rw[hW2];exact zaa (Ex.alloc_new W1.drew _) 0 _ rfl
     have p0:=(n2.cell (a:=⟨w.heap.size,0,none⟩) BL.out id).trans q0
     have p1:=(n2.cell (a:=⟨w.heap.size,1,none⟩) BL.out id).trans q1
     have HCB:=zqH hcb;have N2:=zqH n2
     clear hW2 hcb n2)
  | (go_at_call 202
     refine(H2.out W2 _ (N1.out.trans N2.out) HCB.out).mono ?_
     rintro e W3 ⟨A5,n5,c5,rfl,hb5,hn5,hat5⟩
     have r0:=(hn5.cell (a:=⟨w.heap.size,0,none⟩) (zqL BL.out N2.out.size) id).trans p0
     have r1:=(hn5.cell (a:=⟨w.heap.size,1,none⟩) (zqL BL.out N2.out.size) id).trans p1
     have H5:=zqH (And.intro hb5 (And.intro hn5 hat5))
     clear hb5 hn5 hat5))
 all_goals go_wp2
 all_goals go_ret
 all_goals
  obtain⟨hb5,hn5,hat5⟩:=H5.out
  have hn:=(N1.out.trans N2.out)
  exact⟨A5,n5,c5,rfl,hb5,hn.trans hn5,fun a ha=>Nat.le_trans hn.size (hat5 a ha)⟩
theorem limb_of {l:List Nat} (hl:Gn.Lim l) {q:Nat} (hq:q<l.length):l[q]=Gn.val l / Gn.B ^ q % Gn.B:=by
 have h1:=Gn.val_split l q (by omega)
 have h2:Gn.val (l.take q)<Gn.B ^ q:=by
  have:=Gn.val_lt (hl.take q)
  rwa [List.length_take_of_le (by omega)]at this
 have h3:l.drop q=l[q] :: l.drop (q+1):=List.drop_eq_getElem_cons hq
 rw[h3,Gn.val_cons]at h1
 rw[h1,Nat.add_mul_div_left _ _ (Nat.pow_pos Gn.B_pos),Nat.div_eq_of_lt h2,Nat.zero_add,Nat.add_mul_mod_self_left,Nat.mod_eq_of_lt (hl.get q hq)]
theorem Bpow (q:Nat):Gn.B ^ q=256 ^ (8*q):=by rw[Nat.pow_mul];rfl
def tailN (bs:List Nat) (k:Nat):Nat:=num (bs.drop (bs.length-k))
theorem num_cons (x:Nat) (l:List Nat):num (x :: l)=x*256 ^ l.length+num l:=by
 have key:∀(l:List Nat) (a:Nat),l.foldl (fun a b=>a*256+b) a=a*256 ^ l.length+l.foldl (fun a b=>a*256+b) 0:=by
  intro l
  induction l with
  | nil=>intro a;simp
  | cons y l ih=>
    intro a
    simp only[List.foldl_cons,List.length_cons]
    rw[show 0*256+y=y by omega,ih (a*256+y),ih y,Nat.pow_succ]
    have:(a*256+y)*256 ^ l.length=a*(256 ^ l.length*256)+y*256 ^ l.length:=by
     rw[Nat.add_mul,Nat.mul_assoc,Nat.mul_comm 256]
    rw[this];omega
 show(x :: l).foldl _ 0=_
 rw[List.foldl_cons,key,Nat.zero_mul,Nat.zero_add];rfl
theorem tailN_succ {bs:List Nat} {k:Nat} (h:k<bs.length):tailN bs (k+1)=bs[bs.length-1-k]'(by omega)*256 ^ k+tailN bs k:=by
 unfold tailN
 have e:bs.drop (bs.length-(k+1))=bs[bs.length-1-k]'(by omega) :: bs.drop (bs.length-k):=by
  rw[show bs.length-(k+1)=bs.length-1-k by omega,List.drop_eq_getElem_cons (by omega),show bs.length-1-k+1=bs.length-k by omega]
 rw[e,num_cons,List.length_drop,show bs.length-(bs.length-k)=k by omega]
theorem tailN_lt {bs:List Nat} (hs:Small bs) {k:Nat} (h:k<=bs.length):tailN bs k<256 ^ k:=num_lt k _ (by rw[List.length_drop];omega) (fun x hx=>hs x (List.mem_of_mem_drop hx))
theorem lay_byte {o:List Nat} (ho:Gn.Lim o) {bs:List Nat} (hs:Small bs) {k:Nat} (hk:k<bs.length) (hq:k / 8<o.length) (hv:Gn.val o=tailN bs k):
 o[k / 8]<2 ^ (8*(k % 8))/\Gn.val (o.set (k / 8) (bs[bs.length-1-k]'(by omega)*2 ^ (8*(k % 8))+o[k / 8]))=tailN bs (k+1)/\bs[bs.length-1-k]'(by omega)*2 ^ (8*(k % 8))+o[k / 8]<Gn.B:=by
 have h1:=limb_of ho hq
 have hb:bs[bs.length-1-k]'(by omega)<256:=hs _ (List.getElem_mem _)
 have ht:=tailN_lt hs (Nat.le_of_lt hk)
 have hr:k % 8<8:=Nat.mod_lt _ (by omega)
 have hkq:k=8*(k / 8)+k % 8:=by omega
 have e1:256 ^ k=256 ^ (k % 8)*Gn.B ^ (k / 8):=by
  rw[Bpow,<-Nat.pow_add];congr 1;omega
 have hlt:tailN bs k / Gn.B ^ (k / 8)<256 ^ (k % 8):=Nat.div_lt_of_lt_mul (by rw[Nat.mul_comm,<-e1];exact ht)
 have hle:256 ^ (k % 8)*256<=Gn.B:=by
  rw[<-Nat.pow_succ]
  have:256 ^ (k % 8+1)<=256 ^ 8:=Nat.pow_le_pow_right (by decide) (by omega)
  exact Nat.le_trans this (by decide)
 have hp0:0<256 ^ (k % 8):=Nat.pow_pos (by decide)
 rw[hv,Nat.mod_eq_of_lt (by omega)]at h1
 rw[F1.pow28]
 have h2:o[k / 8]<256 ^ (k % 8):=by rw[h1];exact hlt
 obtain⟨P,hP⟩:∃P,P=256 ^ (k % 8):=⟨_,rfl⟩
 obtain⟨b,hbb⟩:∃b,b=bs[bs.length-1-k]'(by omega):=⟨_,rfl⟩
 obtain⟨v,hvv⟩:∃v,v=o[k / 8]:=⟨_,rfl⟩
 rw[<-hP]at h2 hle e1 hp0 ⊢
 rw[<-hbb]at hb ⊢
 rw[<-hvv]at h2 ⊢
 refine⟨h2,?_,?_⟩
 · have h3:=Gn.val_set o (k / 8) (b*P+v) hq
   rw[<-hvv,hv]at h3
   have h4:=tailN_succ hk
   rw[<-hbb,e1]at h4
   rw[h4]
   have:Gn.B ^ (k / 8)*(b*P+v)=b*(P*Gn.B ^ (k / 8))+Gn.B ^ (k / 8)*v:=by
    rw[Nat.mul_add,Nat.mul_comm (Gn.B ^ (k / 8)) (b*P),Nat.mul_assoc]
   omega
 · have:b*P<=255*P:=Nat.mul_le_mul_right _ (by omega)
   omega
theorem or_byte {v b r:Nat} (hv:v<2 ^ (8*r)) (hb:b<256) (hr:r<8):bits .or .u64 (v:Int) (IntKind.u64.wrap ((b:Int)*2 ^ (8*r)))=((b*2 ^ (8*r)+v:Nat):Int):=by
 have hP:2 ^ (8*r)<=2 ^ 56:=Nat.pow_le_pow_right (by decide) (by omega)
 have hbP:b*2 ^ (8*r)<=255*2 ^ 56:=Nat.mul_le_mul (by omega) hP
 obtain⟨X,hX⟩:∃X,X=b*2 ^ (8*r):=⟨_,rfl⟩
 have h3:(BitVec.ofInt (IntKind.bits .u64) (v:Int) ||| BitVec.ofInt (IntKind.bits .u64) (X:Int)).toNat=X+v:=by
  rw[BitVec.toNat_or,BitVec.toNat_ofInt,BitVec.toNat_ofInt]
  have e1:((X:Int) % ((2 ^ IntKind.bits .u64:Nat):Int)).toNat=X:=by simp[IntKind.bits];omega
  have e2:((v:Int) % ((2 ^ IntKind.bits .u64:Nat):Int)).toNat=v:=by simp[IntKind.bits];omega
  rw[e1,e2,Nat.or_comm,hX,Nat.mul_comm b,<-Nat.two_pow_add_eq_or_of_lt hv b]
 have hc:((b:Int)*2 ^ (8*r))=(X:Int):=by rw[hX];push_cast;rfl
 have hw:IntKind.u64.wrap (X:Int)=(X:Int):=by simp[IntKind.wrap,IntKind.bits,IntKind.signed];omega
 rw[hc,hw,<-hX]
 show IntKind.u64.wrap ((BitVec.ofInt (IntKind.bits .u64) (v:Int) ||| BitVec.ofInt (IntKind.bits .u64) (X:Int)).toNat:Int)=_
 rw[h3]
 simp[IntKind.wrap,IntKind.bits,IntKind.signed];omega
theorem nfrom {w:World} {A:Option Addr} {n c:Nat} {bs:List Nat} (h:By w A n c bs) (hn:n<=4000) (h0:∀hp:0<bs.length,bs[0]≠0):
 Calls Tryz.prog 292 #[.slice A n c] w fun e w'=>∃R m d,e=.returned (.tuple #[.slice R m d,.int .i64 0])/\LN (NB w) w' R m d (num bs)/\New w w':=by
 obtain⟨i0,hi0,hz0,hz1,hz2⟩:=info_parts info22
 have hlen:=h.len
 obtain⟨M,hM⟩:∃M,M=(n+7) / 8:=⟨_,rfl⟩
 have hM1:M<=1000:=by omega
 have hmk:∀W:World,(Instr.makeSlice 24 (.int .i64 (M:Int)) (.int .i64 (M:Int))).run Tryz.prog W=.ok (.slice (some ⟨W.heap.size,0,none⟩) M M) (W.alloc (.cells ((List.replicate M 0).map Gn.u64).toArray 22)):=fun W=>Gn.run_make_limbs (P:=Tryz.prog) 24 22 i0 Tryz.underlying24 hi0 hz0 hz1 hz2 M (by omega) W
 have hdiv:((n:Int)+7).tdiv 8=(M:Int):=by rw[hM,Int.tdiv_eq_ediv_of_nonneg (by omega)];omega
 have hg1:(0<n/\∃(b off v:Nat),A=some ⟨b,off,none⟩/\w.cell? ⟨b,off,none⟩=some (.int .u8 (v:Int))/\(((v:Nat):Int) == 0)=false)\/n=0:=by
  rcases Nat.eq_zero_or_pos n with h1|h1
  · exact .inr h1
  · obtain⟨b,off,hA,_⟩:=h.addr h1
    refine .inl ⟨h1,b,off,bs[0]'(by omega),hA,?_,?_⟩
    · have:=h.cell hA 0 (by omega)
      rwa [Nat.add_zero]at this
    · have:=h0 (by omega)
      rw[beq_eq_false_iff_ne];omega
 have H:=zqH h;have HL:=zqH hlen;have HM:=zqH hM
 have hcs:n<=c/\c<=maxLen:=⟨h.sl.le,h.sl.max⟩
 clear h hlen h0 hM
 rcases hg1 with⟨hpos,b,off,v,rfl,hcv,hv0⟩|rfl
 · go_enter Tryz.func292,Tryz.ntmps292
   go_wp2
   go_loopw [22] (fun i wr=>∃(k:Nat) (o:List Nat),k<=n/\i=.int .i64 (k:Int)/\Gn.LB 22 wr w.heap.size o/\Hid (o.length=M/\Gn.Lim o/\Gn.val o=tailN bs k)/\Hid (New w wr)) (fun i _=>n-(intOf i).toNat)
   case atStart=>exact⟨0,List.replicate M 0,Nat.zero_le _,rfl,Gn.LB.zeros _ _ _,zqH ⟨by simp,Gn.Lim.zeros _,by rw[Gn.val_zeros];unfold tailN;simp[num]⟩,zqH (Upd.alloc _ _ _)⟩
   case round=>
    obtain⟨k,o,hk,rfl,hlb,hI,hnw⟩:=hrel
    by_cases hkn:k<n
    · obtain⟨hol,hoL,hov⟩:=hI.out
      have hkq:k / 8<o.length:=by rw[hol,HM.out];omega
      obtain⟨l1,l2,l3⟩:=lay_byte hoL H.out.small (by rw[HL.out];exact hkn) hkq hov
      obtain⟨y,hy⟩:∃y,y=bs[bs.length-1-k]'(by rw[HL.out];omega):=⟨_,rfl⟩
      obtain⟨z,hz⟩:∃z,z=o[k / 8]:=⟨_,rfl⟩
      rw[<-hy,<-hz]at l2 l3
      rw[<-hz]at l1
      have hyb:y<256:=by rw[hy];exact H.out.small _ (List.getElem_mem _)
      have hcb:wr.cell? ⟨b,off+(n-1-k),none⟩=some (.int .u8 (y:Int)):=by
       have h1:=H.out.cell rfl (bs.length-1-k) (by have:=HL.out;omega)
       rw[<-hy,HL.out]at h1
       exact(hnw.out.cell (a:=⟨b,off+(n-1-k),none⟩) (zqB w ⟨b,off+(n-1-k),none⟩ h1) id).trans h1
      have hcz:=hlb.cell (k / 8) hkq
      rw[<-hz]at hcz
      simp only[Gn.u64]at hcz
      have hfz:=hlb.frozen (k / 8)
      have hkM:k / 8<M:=by rw[<-hol];exact hkq
      have hqd:(k:Int).tdiv 8=((k / 8:Nat):Int):=by rw[Int.tdiv_eq_ediv_of_nonneg (by omega)];omega
      have hOR:=or_byte l1 hyb (Nat.mod_lt k (by omega))
      have HOR:=zqH hOR
      clear hOR
      have HX:=zqH (And.intro hol (And.intro hoL (And.intro l2 l3)));have HB:=zqH hlb
      clear hol hoL hov l1 l2 l3 hy hz hlb
      go_wp2
      go_region
      all_goals go_wp2
      all_goals
       rw[HOR.out]
       obtain⟨hol,hoL,l2,l3⟩:=HX.out
       refine⟨⟨k+1,o.set (k / 8) (y*2 ^ (8*(k % 8))+z),by omega,by congr 1,(HB.out.set (k / 8) _).drew,zqH ⟨by simp[hol],hoL.set _ _ l3,l2⟩,zqH ?_⟩,by simp[intOf];omega⟩
       exact(hnw.out.then (Upd.setCell (S:=fun b=>b=w.heap.size) wr _ rfl) (fun b hb e=>by omega)).drew
    · obtain rfl:k=n:=by omega
      obtain⟨hol,hoL,hov⟩:=hI.out
      have hnv:=hlb.natV hoL hol (Nat.le_refl M) (by unfold maxLen;omega)
      have hval:Gn.val o=num bs:=by rw[hov];unfold tailN;rw[HL.out,Nat.sub_self,List.drop_zero]
      have HNV:=zqH hnv;have HV:=zqH hval;have HLL:=zqH hol
      clear hol hoL hov hnv hval hlb
      go_wp2_with (go_at_call 81;refine(zax HNV.out).mono ?_;rintro e w' ⟨rfl,rfl⟩)
      go_ret2
      refine⟨_,_,_,rfl,?_,hnw.out⟩
      have h1:=LN.of (Q:=NB w) HNV.out.trim (Gn.norm_trim _) (by
       rw[Gn.val_trim]
       have:=Gn.val_lt HNV.out.lim
       rw[HLL.out]at this
       exact zqL this (@zbj _ 1000 hM1)) (fun a e=>by cases e;exact Nat.le_refl _)
      rwa [Gn.val_trim,HV.out]at h1
 · go_enter Tryz.func292,Tryz.ntmps292
   have hbs:bs=[]:=List.length_eq_zero_iff.1 HL.out
   have hM0:M=0:=by rw[HM.out]
   subst hM0
   have hmk0:∀W:World,(Instr.makeSlice 24 (.int .i64 0) (.int .i64 0)).run Tryz.prog W=.ok (.slice (some ⟨W.heap.size,0,none⟩) 0 0) (W.alloc (.cells #[] 22)):=fun W=>by simpa using hmk W
   obtain⟨W1,hW1⟩:∃W1,W1=w.alloc (.cells #[] 22):=⟨_,rfl⟩
   have n1:New w W1:=by rw[hW1];exact Upd.alloc _ _ _
   have hnv:Gn.NatV 22 W1 (some ⟨w.heap.size,0,none⟩) 0 0 []:=⟨rfl,Nat.le_refl _,Nat.zero_le _,Gn.Lim.nil,fun h=>absurd h (by omega)⟩
   have N1:=zqH n1;have HNV:=zqH hnv;have HW:=zqH hW1
   clear n1 hnv hmk
   go_wp2
   rw[<-hW1]
   clear hW1
   go_loopw [22] (fun i wr=>i=.int .i64 0/\wr=W1) (fun i _=>0)
   case atStart=>exact⟨rfl,rfl⟩
   case round=>
    obtain⟨rfl,rfl⟩:=hrel
    go_wp2_with (go_at_call 81;refine(zax HNV.out).mono ?_;rintro e w' ⟨rfl,rfl⟩)
    go_ret2
    refine⟨_,_,_,rfl,?_,N1.out⟩
    have h1:=LN.of (Q:=NB w) HNV.out.trim (Gn.norm_trim _) (by rw[Gn.val_trim];exact zqL (show 0<Gn.B ^ 0 by decide) (@zbj 0 1000 (by omega))) (fun a e=>by cases e;exact Nat.le_refl _)
    rw[Gn.val_trim]at h1
    rw[hbs];exact h1
theorem rpiece {br:Nat} {w:World} {A:Option Addr} {n c N:Nat} {bs:List Nat} (hR:Rd br w A n c bs 0) (hN:1+N<n) (hn:n<=4000) (h0:∀hp:0<((bs.drop 1).take N).length,((bs.drop 1).take N)[0]≠0):
 Calls Tryz.prog 291 #[.pointer (some ⟨br,0,none⟩),.int .i64 1,.int .i64 (N:Int),.func (.func 292) #[] #[]] w fun e w'=>∃R m d A' n' c',e=.returned (.slice R m d)/\LN (NB w) w' R m d (num ((bs.drop 1).take N))/\Rd br w' A' n' c' (bs.drop (1+N)) 0/\(∀a',A'=some a'->∃a,A=some a/\a'.block=a.block)/\Upd (fun b=>b=br) w w':=by
 obtain⟨i0,hi0,hz0,hz1,hz2⟩:=info_parts info5
 have hlen:=hR.by_.len
 obtain⟨b,off,rfl,hb⟩:=hR.by_.addr (by omega)
 have hc0:=hR.cell0
 have hle:=hR.by_.sl.le
 have hmx:=hR.by_.sl.max
 obtain⟨b',off',eA,hrow⟩:=hR.by_.sl.row (by omega)
 cases eA
 have hsub:Row w b (off+1) (((bs.drop 1).take N).map u8):=by
  rw[List.map_take,List.map_drop];exact(hrow.drop 1).take N
 have hsrc:Src w (some ⟨b,off+1,none⟩) N (((bs.drop 1).take N).map u8):=fun _=>⟨_,_,rfl,fun j u hu=>hsub.2 j u hu⟩
 have hsl:((bs.drop 1).take N).length=N:=by rw[List.length_take,List.length_drop];omega
 have hsm:Small ((bs.drop 1).take N):=fun x hx=>hR.by_.small x (List.mem_of_mem_drop (List.mem_of_mem_take hx))
 obtain⟨ys,hys⟩:∃ys,ys=(bs.drop 1).take N:=⟨_,rfl⟩
 rw[<-hys]at hsrc hsl hsm h0 ⊢
 have H:=zqH hR;have HS:=zqH hsrc;have HL:=zqH hsl;have HSM:=zqH hsm;have H0:=zqH h0;have HLEN:=zqH hlen
 have hN1:N<=4000:=by omega
 have hcN:1+N<c:=by omega
 clear hR hsub hsrc hsl hsm h0 hys hrow hlen hb
 go_enter Tryz.func291,Tryz.ntmps291
 go_wp2_with (first
  | (at_builtin
     refine wpList_append_src _ rfl _ _ _ rfl w.heap.size 5 i0 _ 1 1 Tryz.underlying113 hi0 hz0 hz1 hz2 rfl (by omega) (.slice none 0 0) 0 [] rfl (World.ownsRow_nil _ _ _ _) _ _ _ (ys.map u8) rfl (by simp[HL.out]) (by rw[show 1+N-1=N by omega];exact HS.out) (zar _) (by simp only[maxLen];omega) (by omega) (Nat.le_refl _) ?_
     intro A' c' w1 hown1 hg1 hat1
     have hu1:New w w1:=Upd.of_grown hg1 (fun c hc=>by cases hc)
     simp only[Nat.zero_add,List.nil_append]at hown1
     rw[show 1+N-1=N by omega]at hown1
     have h292:=nfrom (By.of_own hown1 HSM.out) (by omega) H0.out
     have HU1:=zqH hu1
     clear hown1 hg1 hat1 hu1)
  | (go_at_call 292
     refine h292.mono ?_
     rintro e w2 ⟨R,m,d,rfl,hr,hn2⟩
     have hu2:=HU1.out.trans hn2
     have hR2:=H.out.upd hu2 id (fun _ _ _=>id)
     have hd0:=hR2.cell0
     have hdf:=hR2.frozen 0
     have H2:=zqH (And.intro hr (And.intro hu2 hR2));have HS2:=zqH HU1.out.size
     clear h292 hr hn2 hu2 hR2))
 go_ret
 obtain⟨hr,hu2,hR2⟩:=H2.out
 have hnx:=hR2.next (A':=some ⟨b,off+(1+N),none⟩) (n':=n-(1+N)) (c':=c-(1+N)) (bs':=bs.drop (1+N)) ?_ (fun a ha=>by cases ha;exact hR2.ne ⟨b,off,none⟩ rfl)
 · refine⟨R,m,d,_,_,_,rfl,?_,hnx,fun a' ha'=>⟨_,rfl,by cases ha';rfl⟩,(hu2.mono (fun _ _ h=>h.elim)).trans (Upd.setCell w2 _ rfl)⟩
   have hbr:=H.out.lt
   exact(hr.mono (Q':=NB w) (fun b _ hb=>Nat.le_trans HS2.out hb)).upd (Upd.setCell (S:=fun b=>b=br) w2 _ rfl) (fun b hb e=>by have hb:w.heap.size<=b:=hb;have e:b=br:=e;omega)
 · obtain⟨b',off',eA,hr3⟩:=hR2.by_.sl.row (by omega)
   cases eA
   have hd:=hr3.drop (1+N)
   rw[<-List.map_drop]at hd
   exact⟨⟨by simp[HLEN.out],by omega,by omega,fun _=>⟨b,off+(1+N),rfl,hd⟩,fun e=>by cases e⟩,fun x hx=>hR2.by_.small x (List.mem_of_mem_drop hx)⟩
theorem nb_head {x:Nat} (hp:0<(be (F1.nb x) x).length):(be (F1.nb x) x)[0]≠0:=by
 rw[zah]at hp
 have hx:x≠0:=fun e=>by rw[e]at hp;exact absurd hp (by decide)
 obtain⟨k,hk⟩:∃k,F1.nb x=k+1:=⟨F1.nb x-1,by omega⟩
 have hk2:k=x.log2 / 8:=by unfold F1.nb at hk;rw[if_neg hx]at hk;omega
 have h1:2 ^ x.log2<=x:=Nat.log2_self_le hx
 have h2:2 ^ (8*k)<=x:=Nat.le_trans (Nat.pow_le_pow_right (by decide) (by omega)) h1
 have h3:=F1.nb_lt x
 rw[hk,Nat.pow_succ,<-F1.pow28]at h3
 have h4:x / 2 ^ (8*k)<256:=Nat.div_lt_of_lt_mul h3
 have h5:0<x / 2 ^ (8*k):=Nat.div_pos h2 (Nat.pow_pos (by decide))
 have e:(be (F1.nb x) x)[0]?=some (x / 2 ^ (8*k) % 256):=by rw[hk];rfl
 rw[List.getElem?_eq_getElem (by rw[zah];exact hp)]at e
 injection e with e
 rw[e,Nat.mod_eq_of_lt h4];omega
def NatRd (br:Nat) (w:World) (A:Option Addr) (x:Nat) (rest:List Nat) (v:Value->Value) (e:Ending) (w':World):Prop:=
 ∃R m d A' n' c',e=.returned (v (.slice R m d))/\LN (NB w) w' R m d x/\Rd br w' A' n' c' rest 0/\(∀a',A'=some a'->∃a,A=some a/\a'.block=a.block)/\Upd (fun b=>b=br) w w'
theorem rNat {br:Nat} {w:World} {A:Option Addr} {n c x:Nat} {rest:List Nat} (hR:Rd br w A n c (F1.nb x :: (be (F1.nb x) x ++ rest)) 0) (hb:F1.nb x<=255) (hn:n<=4000) (hr:0<rest.length):
 Calls Tryz.prog 269 #[.pointer (some ⟨br,0,none⟩)] w (NatRd br w A x rest id):=by
 have hlen:=hR.by_.len
 simp only[List.length_cons,List.length_append,zah]at hlen
 have P:=rpeek hR 1 (by omega) (by omega) (by omega)
 obtain⟨N,hN⟩:∃N,N=F1.nb x:=⟨_,rfl⟩
 have hys:((F1.nb x :: (be (F1.nb x) x ++ rest)).drop 1).take N=be N x:=by rw[List.drop_succ_cons,List.drop_zero,hN,List.take_left' (zah _ _)]
 have hdr:(F1.nb x :: (be (F1.nb x) x ++ rest)).drop (1+N)=rest:=by rw[Nat.add_comm,List.drop_succ_cons,hN,List.drop_left' (zah _ _)]
 have hnum:num ((F1.nb x :: (be (F1.nb x) x ++ rest)).take 1)=N:=by rw[hN];simp[num]
 have hnb:num (be N x)=x:=F1.num_be N x (by rw[hN];exact F1.nb_lt x)
 rw[hnum]at P
 have hpc:∀w',Upd (fun b=>b=br) w w'->Rd br w' A n c (F1.nb x :: (be (F1.nb x) x ++ rest)) 0->Calls Tryz.prog 291 #[.pointer (some ⟨br,0,none⟩),.int .i64 1,.int .i64 (N:Int),.func (.func 292) #[] #[]] w' (NatRd br w' A x rest id):=fun w' _ hR'=>by
  have:=rpiece hR' (N:=N) (by omega) hn (by rw[hys,hN];exact fun hp=>nb_head hp)
  rw[hys,hdr,hnb]at this
  exact this
 have HP:=zqH P;have HPC:=zqH hpc;have HN:=zqH hN;have hN255:N<=255:=by omega
 have h1:0=0/\1<=n:=⟨rfl,by omega⟩
 have H1:=zqH h1
 clear P hpc hN hR hb hys hdr hnum hnb hlen h1
 go_enter Tryz.func269,Tryz.ntmps269
 go_wp2_with (first
  | (go_at_call 290;refine HP.out.mono ?_;rintro e w1 ⟨h1,_,hu⟩;obtain⟨rfl,hR1⟩:=h1 H1.out;have h2:=HPC.out w1 hu hR1;have HU:=zqH hu;clear h1 hu hR1)
  | (go_at_call 291;refine h2.mono ?_;rintro e w2 ⟨R,m,d,A',n',c',rfl,hr,hR2,haw,hu2⟩;have H2:=zqH (And.intro hr (And.intro hR2 (And.intro haw hu2)));clear h2 hr hR2 haw hu2))
 go_ret
 obtain⟨hr,hR2,haw,hu2⟩:=H2.out
 exact⟨R,m,d,A',n',c',rfl,hr.mono (fun b _ hb=>Nat.le_trans HU.out.size hb),hR2,haw,HU.out.trans hu2⟩
theorem rDec {br:Nat} {w:World} {A:Option Addr} {n c x:Nat} {rest:List Nat} (hR:Rd br w A n c (F1.nb x :: (be (F1.nb x) x ++ rest)) 0) (hb:F1.nb x<=255) (hn:n<=4000) (hr:0<rest.length):
 Calls Tryz.prog 242 #[.pointer (some ⟨br,0,none⟩)] w (NatRd br w A x rest (fun v=>.agg #[v])):=by
 obtain⟨W,hW⟩:∃W,W=w.alloc (.cells #[.slice none 0 0] 26):=⟨_,rfl⟩
 have hnw:New w W:=by rw[hW];exact Upd.alloc _ _ _
 have hbt:=Ex.alloc_new w (.cells #[.slice none 0 0] 26)
 rw[<-hW]at hbt
 have hbl:=hR.lt
 have hn0:0<n:=by have:=hR.by_.len;simp only[List.length_cons]at this;omega
 have hWs:W.heap.size=w.heap.size+1:=by rw[hW];exact zad _ _
 have h1:=rNat (hR.upd hnw id (fun _ _ _=>id)) hb hn hr
 have H1:=zqH h1;have HN:=zqH hnw;have HB:=zqH hbt;have HAL:=zqH (fun a ha h0=>hR.by_.sl.lt (a:=a) ha h0)
 clear h1 hnw hbt hR hb hn hr
 go_enter Tryz.func242,Tryz.ntmps242
 go_wp2_with (rw[<-hW];go_at_call 269;refine H1.out.mono ?_;rintro e w2 ⟨R,m,d,A',n',c',rfl,hr,hR2,haw,hu2⟩;have hb2:=(hu2.block w.heap.size (zqA.1 HB.out).1 (by omega)).trans HB.out;have q1:=zaa hb2 0 _ rfl;have q2:=zac hb2 0;have H2:=zqH (And.intro hr (And.intro hR2 (And.intro haw hu2)));have HB2:=zqH hb2;clear hr hR2 haw hu2 hb2 H1)
 have q0:(w2.setCell ⟨w.heap.size,0,none⟩ (.slice R m d)).cell? ⟨w.heap.size,0,none⟩=some (.slice R m d):=zaa (zab HB2.out (.slice R m d) (i:=0)) 0 _ rfl
 refine bodyPost_ret (by simp[results,Tryz.results242,go_sem,q0];try rfl) rfl ?_
 obtain⟨hr,hR2,haw,hu2⟩:=H2.out
 have hset:Upd (fun b=>b=w.heap.size) w2 (w2.setCell ⟨w.heap.size,0,none⟩ (.slice R m d)):=Upd.setCell w2 _ rfl
 refine⟨R,m,d,A',n',c',rfl,?_,hR2.upd hset (by omega) (fun a' ha' h0 e=>?_),haw,((HN.out.mono (fun _ _ h=>h.elim)).trans hu2).then hset (fun b hb e=>by omega)⟩
 · exact(hr.upd hset (fun b hb e=>by have hb:W.heap.size<=b:=hb;have e:b=w.heap.size:=e;omega)).mono (fun b _ hb=>Nat.le_trans HN.out.size hb)
 · obtain⟨a,ha,hab⟩:=haw a' ha'
   have h1:=HAL.out a ha hn0
   have e:a'.block=w.heap.size:=e
   omega
def FieldRd (br bx ox:Nat) (cs:Array Value) (t:TypeId) (w:World) (A:Option Addr) (rest:List Nat) (P:World->Value->Prop) (e:Ending) (w':World):Prop:=
 ∃v A' n' c',e=.returned (.tuple #[])/\P w' v/\w'.heap[bx]?=some (.cells (cs.setIfInBounds ox v) t (0,0))/\Rd br w' A' n' c' rest 0/\(∀a',A'=some a'->∃a,A=some a/\a'.block=a.block)/\Upd (fun b=>b=br\/b=bx) w w'
theorem rdecs {br bx ox lb:Nat} {cs:Array Value} {t:TypeId} {w:World} {A:Option Addr} {n c x:Nat} {rest:List Nat} (hR:Rd br w A n c (F1.nb x :: (be (F1.nb x) x ++ rest)) 0) (hb:F1.nb x<=255) (hn:n<=4000) (hr:0<rest.length)
 (hl:w.cell? ⟨lb,0,none⟩=some (.pointer (some ⟨bx,ox,none⟩))) (hx:w.heap[bx]?=some (.cells cs t (0,0))) (hox:ox<cs.size) (hbx:bx≠br) (hA:∀a,A=some a->a.block≠bx):
 Calls Tryz.prog 204 #[.agg #[.pointer none,.pointer (some ⟨br,0,none⟩)],.slice (some ⟨lb,0,none⟩) 1 1] w (FieldRd br bx ox cs t w A rest (fun w' v=>∃R m d,v=.slice R m d/\LN (NB w) w' R m d x)):=by
 obtain⟨W,hW⟩:∃W,W=w.alloc (.cells #[.pointer none,.pointer (some ⟨br,0,none⟩)] 288):=⟨_,rfl⟩
 have hnw:New w W:=by rw[hW];exact Upd.alloc _ _ _
 have hbt:=Ex.alloc_new w (.cells #[.pointer none,.pointer (some ⟨br,0,none⟩)] 288)
 rw[<-hW]at hbt
 have hl1:=(hnw.cell (a:=⟨lb,0,none⟩) (zqB w _ hl) id).trans hl
 have ht0:W.cell? ⟨w.heap.size,0,none⟩=some (.pointer none):=zaa hbt 0 _ rfl
 have ht1:W.cell? ⟨w.heap.size,1,none⟩=some (.pointer (some ⟨br,0,none⟩)):=zaa hbt 1 _ rfl
 have hbl:=hR.lt
 have hbxl:=(zqA.1 hx).1
 have hx1:=(hnw.block _ hbxl id).trans hx
 have h242:=rDec (hR.upd hnw id (fun _ _ _=>id)) hb hn hr
 have H1:=zqH h242;have HN:=zqH hnw;have HX:=zqH hx1;have HC:=zqH (And.intro hl1 (And.intro ht0 ht1));have HWW:=zqH hW;have HA:=zqH hA;have HRR:=zqH hR
 have hWs:W.heap.size=w.heap.size+1:=by rw[hW];exact zad _ _
 have HWS:=zqH hWs
 clear h242 hnw hR hb hn hr hl hx hx1 hbt hA hl1 ht0 ht1 hWs
 go_enter Tryz.func204,Tryz.ntmps204
 go_wp2
 rw[<-hW]
 clear hW
 go_loopw [8] (fun i wr=>(i=.int .i64 0/\wr=W)\/(i=.int .i64 1/\Hid (FieldRd br bx ox cs t w A rest (fun w' v=>∃R m d,v=.slice R m d/\LN (NB w) w' R m d x) (.returned (.tuple #[])) wr))) (fun i _=>1-(intOf i).toNat)
 case atStart=>exact .inl ⟨rfl,rfl⟩
 case round=>
  rcases hrel with⟨rfl,rfl⟩|⟨rfl,hw⟩
  · obtain⟨hl1,ht0,ht1⟩:=HC.out
    go_wp2_with (go_at_call 242
                 refine H1.out.mono ?_
                 rintro e w2 ⟨R,m,d,A',n',c',rfl,hr,hR2,haw,hu2⟩
                 have hx2:=(hu2.block bx (zqL hbxl HN.out.size) hbx).trans HX.out
                 have q1:=zaa hx2 ox _ (Array.getElem?_eq_getElem hox)
                 have q2:=zac hx2 ox
                 have H2:=zqH (And.intro hr (And.intro hR2 (And.intro haw hu2)));have HX2:=zqH hx2
                 clear hr hR2 haw hu2 hx2)
    obtain⟨hr,hR2,haw,hu2⟩:=H2.out
    have hset:Upd (fun b=>b=bx) w2 (w2.setCell ⟨bx,ox,none⟩ (.slice R m d)):=Upd.setCell w2 _ rfl
    refine⟨.inr ⟨rfl,zqH ⟨.slice R m d,A',n',c',rfl,⟨R,m,d,rfl,?_⟩,zab HX2.out _,hR2.upd hset (fun e=>hbx e.symm) (fun a' ha' h0 e=>?_),haw,?_⟩⟩,by simp[intOf]⟩
    · exact(hr.upd hset (fun b hb e=>by have hb:wr.heap.size<=b:=hb;have e:b=bx:=e;have:=HN.out.size;omega)).mono (fun b _ hb=>Nat.le_trans HN.out.size hb)
    · obtain⟨a,ha,hab⟩:=haw a' ha'
      exact HA.out a ha (hab▸e)
    · exact((HN.out.mono (fun _ _ h=>h.elim)).trans (hu2.mono (fun b _ h=>.inl h))).trans (hset.mono (fun b _ h=>.inr h))
  · go_wp2
    go_end0
    exact hw.out
end Go.Proofs.YtbhnjkegkadodaaGreatDoor

/- Part of the proof. -/
import Derived.Test.YtbhnjkegkadodaaGreatDoorG13
set_option linter.all false
set_option maxRecDepth 100000
set_option maxHeartbeats 8000000
namespace Gl
open Go Go.RowKit Ex
structure InsW (P:Program) (f:FuncId) (size:Nat) (t e0:TypeId):Prop extends InsWalks P f size t where
 grow':∀(w:World) (c q n cap i vb vo m vc:Nat) (cells:Array Value) (e:TypeId) (fr:Nat × Nat) (old new:List Value),i<n → 0<m->n<=cap->cap<n+m->n+m<=1048576 ->
  w.heap[c]?=some (.cells cells e fr)->old.length=n*size->new.length=m*size → (∀j v,old[j]?=some v->cells[q+j]?=some v) ->
  (∀j v,new[j]?=some v->w.cell? ⟨vb,vo+j,none⟩=some v) → (∀v ∈ old,oneCell v=true) → (∀v ∈ new,oneCell v=true) ->
  Calls P f #[.slice (some ⟨c,q,none⟩) n cap,.int .i64 i,.slice (some ⟨vb,vo,none⟩) m vc] w fun x w'=>
   ∃(ROW:Array Value) (G:Nat),G<=9223372036854775807/\n+m<=G/\ROW.size=G*size/\(∀j v,j<i*size->old[j]?=some v->ROW[j]?=some v)/\x=.returned (.slice (some ⟨w.heap.size,0,none⟩) (n+m) G) /\
   w'.heap=w.heap.push (.cells (splice (splice ROW (i*size) new) ((i+m)*size) (old.drop (i*size))) e0)/\w'.tape=w.tape/\w'.os=w.os/\w'.output=w.output
theorem oneCell_of (v:Value) (h:v.oneCell'=true):oneCell v=true:=by cases v<;>first|rfl|cases h
theorem take_of_get {X:Array Value} {R:List Value} (h:∀(j:Nat) (v:Value),R[j]?=some v->X[j]?=some v) (hs:R.length<=X.size):X.toList.take R.length=R:=by
 apply List.ext_getElem?;intro j;rw[List.getElem?_take]
 split
 · rename_i hj
   rw[zG hj];have:=h j _ (zG hj)
   simpa using this
 · rename_i hj
   rw[List.getElem?_eq_none (by omega)]
theorem withObj_upd (w:World) (g:Nat) (o:Obj):Upd (fun b=>b=g) w (withObj w.drew g o):=
 ⟨rfl,rfl,rfl,by rw[withObj_size];exact zR _,fun c hc hn=>by
   simp only[withObj,World.drew];rw[Array.getElem?_setIfInBounds_ne (by exact fun e=>hn e.symm)]⟩
end Gl
namespace Gl
open Go Go.RowKit Ex
section
variable {P:Program} {f:FuncId} {size:Nat} {t e:TypeId}
def Inserted (base:Nat) (e:TypeId) (size:Nat) (w:World) (g n:Nat) (cs:List Value) (x:Ending) (w':World):Prop:=
 ∃g' c',x=.returned (.slice (some ⟨g',0,none⟩) (n+1) c')/\w'.ownsRow base e size (.slice (some ⟨g',0,none⟩) (n+1) c') (n+1) cs/\Upd (fun b=>b=g) w w'/\(g'=g\/w.heap.size<=g')
theorem ins_own (I:InsW P f size t e) {i0:TypeInfo} {z:Value} {bytes:Nat} (ht:P.underlying t=some (.slice e)) (hi0:P.info? e=some i0) (hz:i0.zero=some z) (hsize:i0.size=size) (hby:i0.bytes=bytes) (hzs:z.cells.size=size) (hsz:0<size) (hbb:bytes<=1024)
 {w:World} {base g n c i vb:Nat} {xs ns:List Value} {te:TypeId} (hown:w.ownsRow base e size (.slice (some ⟨g,0,none⟩) n c) n xs) (h1:∀v ∈ xs,v.oneCell'=true) (hi:i<=n) (hn:0<n) (hbig:n+1<=1048576)
 (hvb:w.heap[vb]?=some (.cells ns.toArray te (0,0))) (hne:vb≠g) (hnl:ns.length=size) (hn1:∀v ∈ ns,v.oneCell'=true) (hbase:base<=w.heap.size):
 Calls P f #[.slice (some ⟨g,0,none⟩) n c,.int .i64 (i:Int),.slice (some ⟨vb,0,none⟩) 1 1] w (Inserted base e size w g n (xs.take (i*size) ++ ns ++ xs.drop (i*size))):=by
 have a7:=hown.1;have c6:base<=g:=(zal hown (c:=g) rfl).2;obtain⟨cur,hh,b9,d5,a6,d6⟩:∃cur,w.heap[g]?=some (.cells cur e (0,0))/\n<=c/\c<=maxLen/\cur.size=c*size/\cur.toList.take (n*size)=xs:=by
  rcases hown.2 with⟨e,_⟩|⟨g',cap,cur,e,_,h3,h4,h5,h6,h7⟩
  · cases e
  · cases e;exact⟨cur,h3,h4,h5,h6,h7⟩
 have hold:∀j v,xs[j]?=some v->cur[j]?=some v:=fun j v hv=>by
  rw[<-d6,List.getElem?_take]at hv
  split at hv
  · simpa using hv
  · cases hv
 have a2:∀j v,ns[j]?=some v->w.cell? ⟨vb,0+j,none⟩=some v:=fun j v hv=>by
  simp only[World.cell?,hvb,Nat.zero_add];simpa using hv
 have b5:∀v ∈ xs,oneCell v=true:=fun v hv=>oneCell_of v (h1 v hv);have b6:∀v ∈ ns,oneCell v=true:=fun v hv=>oneCell_of v (hn1 v hv);have a3:ns.length=1*size:=by omega
 have a4:(xs.take (i*size)).length=i*size:=by
  rw[List.length_take,a7];exact Nat.min_eq_left (Nat.mul_le_mul_right _ hi)
 have a8:(xs.drop (i*size)).length=n*size-i*size:=by rw[List.length_drop,a7]
 have d9:i*size<=n*size:=Nat.mul_le_mul_right _ hi;have a1:(xs.take (i*size) ++ ns ++ xs.drop (i*size)).length=(n+1)*size:=by
  rw[List.length_append,List.length_append,a4,a8,hnl,Nat.succ_mul];omega
 by_cases hin:i=n
 · subst hin;obtain⟨v',w',hr,ho,hg,d8⟩:=run_append_src (P:=P) w base t t e i0 z size bytes ht hi0 hz hsize hby hzs hsz (.slice (some ⟨g,0,none⟩) i c) i xs hown (some ⟨vb,0,none⟩) 1 1 ns a3 (fun _=>⟨vb,0,rfl,a2⟩) hn1 (by simp only[maxLen];omega) (zT (Nat.mul_le_mul hbig hbb) (by decide)) hbase;refine(I.atEnd w w' g 0 i c vb 0 1 1 v' (by omega) b9 hr).mono fun x w1 ⟨hx,hw1⟩=>?_
   subst hx hw1;obtain⟨A',c',rfl⟩:=ownsRow_form ho;obtain⟨g',rfl⟩:∃g',A'=some ⟨g',0,none⟩:=by
    rcases ho.2 with⟨e,h0⟩|⟨g',_,_,e,_⟩
    · omega
    · injection e with e;exact⟨g',e⟩
   refine⟨g',c',rfl,?_,Upd.of_grown hg (fun k hk=>by simpa[Value.ownBlock] using hk.symm),?_⟩
   · rw[List.take_of_length_le (by omega),List.drop_of_length_le (by omega),List.append_nil];exact ho
   · rcases d8 with e|e
     · simp[Value.ownBlock]at e;exact .inl e
     · simp[Value.ownBlock]at e;exact .inr (by omega)
 · have b7:i<n:=by omega
   by_cases hroom:n+1<=c
   · have d0:w.shape? vb=some (te,ns.toArray.size):=(by simp[World.shape?,hvb]);have b8:w.shape? g=some (e,cur.size):=(by simp[World.shape?,hh]);have a9:cur.size≠0:=by
      rw[a6];exact Nat.ne_of_gt (Nat.mul_pos (by omega) hsz)
     refine(I.shift w g 0 n c i vb 0 1 1 cur e (0,0) xs ns b7 (by omega) hroom hbig hne hh (fun o _=>by simp) a7 a3 (fun j v hv=>by rw[Nat.zero_add];exact hold j v hv) (by rw[Nat.zero_add,a6];exact Nat.mul_le_mul_right _ hroom) a2 b5 b6 te e _ _ d0 b8 a9 (by simp[World.frozen?,hvb]) (by simp[World.frozen?,hvb])).mono fun x w1 ⟨hx,hw1⟩=>?_
     subst hx hw1;refine⟨g,c,rfl,⟨a1,.inr ⟨g,c,splice (splice cur (0+(i+1)*size) (xs.drop (i*size))) (0+i*size) ns,rfl,c6,by rw[withObj_heap _ _ _ _ (by exact(zqA.1 hh).1),if_pos rfl],hroom,d5,by rw[splice_size,splice_size,a6],?_⟩⟩,withObj_upd _ _ _,.inl rfl⟩;have a5:0+(xs.take (i*size)).length+ns.length+(xs.drop (i*size)).length<=cur.size:=by
      rw[a4,hnl,a8,a6];have:=Nat.mul_le_mul_right size hroom;rw[Nat.succ_mul]at this;omega
     have hb:=splice_back (X:=cur) (q:=0) (front:=xs.take (i*size)) (new:=ns) (tail:=xs.drop (i*size)) (fun j v hv=>by
      rw[List.getElem?_take]at hv
      split at hv
      · rw[Nat.zero_add];exact hold j v hv
      · cases hv) a5
     rw[<-a1];refine take_of_get (fun j v hv=>?_) (by rw[splice_size,splice_size,a1,a6];exact Nat.mul_le_mul_right _ hroom);have:=hb j v hv;rw[a4,hnl]at this;rw[show(i+1)*size=i*size+size by rw[Nat.succ_mul]]
     simpa using this
   · refine(I.grow' w g 0 n c i vb 0 1 1 cur e (0,0) xs ns b7 (by omega) b9 (by omega) hbig hh a7 a3 (fun j v hv=>by rw[Nat.zero_add];exact hold j v hv) a2 b5 b6).mono fun x w1 ⟨ROW,G,hG,hnG,hRs,hRo,hx,hw1,ht1,ho1,hu1⟩=>?_
     subst hx;refine⟨w.heap.size,G,rfl,⟨a1,.inr ⟨w.heap.size,G,splice (splice ROW (i*size) ns) ((i+1)*size) (xs.drop (i*size)),rfl,hbase,by rw[hw1];simp,hnG,by simpa[maxLen] using hG,by rw[splice_size,splice_size,hRs],?_⟩⟩,⟨ho1,hu1,ht1,by rw[hw1];simp,fun k hk _=>by rw[hw1,Array.getElem?_push_lt hk];simp[hk]⟩,.inr (zR _)⟩;have a5:0+(xs.take (i*size)).length+ns.length+(xs.drop (i*size)).length<=ROW.size:=by
      rw[a4,hnl,a8,hRs];have:=Nat.mul_le_mul_right size hnG;rw[Nat.succ_mul]at this;omega
     have hb:=splice_front (X:=ROW) (q:=0) (front:=xs.take (i*size)) (new:=ns) (tail:=xs.drop (i*size)) (fun j v hv=>by
      rw[List.getElem?_take]at hv
      split at hv
      · rename_i hj
        rw[Nat.zero_add];exact hRo j v hj hv
      · cases hv) a5
     rw[<-a1];refine take_of_get (fun j v hv=>?_) (by rw[splice_size,splice_size,a1,hRs];exact Nat.mul_le_mul_right _ hnG);have:=hb j v hv;rw[a4,hnl]at this;rw[show(i+1)*size=i*size+size by rw[Nat.succ_mul]]
     simpa using this
end
end Gl
namespace Gl
open Go Go.RowKit
def strB (bs:List Nat):ByteArray:=(List.map (fun n:Nat=>(n:Int)) bs).foldl (fun r n=>r.push (UInt8.ofNat n.toNat)) ByteArray.empty
theorem strB_list (bs:List Nat):(strB bs).data.toList=bs.map fun n=>UInt8.ofNat n:=by
 unfold strB;rw[Ex.foldl_push,show ByteArray.empty.data.toList=[] from rfl,List.nil_append,List.map_map]
 rfl
theorem strB_inj {a b:List Nat} (ha:Small a) (hb:Small b) (h:strB a=strB b):a=b:=by
 have h1:=congrArg (fun s=>s.data.toList.map UInt8.toNat) h;simp only[strB_list,List.map_map]at h1;have e:∀l:List Nat,Small l->l.map (UInt8.toNat ∘ fun n=>UInt8.ofNat n)=l:=fun l hl=>by
  conv=>rhs;rw[<-List.map_id l]
  apply List.map_congr_left;intro x hx;have:=hl x hx;simp[UInt8.toNat_ofNat'];omega
 rw[e a ha,e b hb]at h1;exact h1
theorem conv_by {P:Program} {w:World} {A:Option Addr} {n c:Nat} {bs:List Nat} {s d e:TypeId} (h:By w A n c bs) (hu:P.underlying s=some (.slice e)) (he:P.underlying e=some (.int .u8)) (hd:P.underlying d=some .string):(convert s d (.slice A n c)).run P w=.ok (.string (strB bs)) w:=by
 rw[run_convert_bytes_string w s d e A n c hu he hd];have a1:=h.len;cases A with
 | none=>
   have hc:=h.sl.nil rfl;have hn:n=0:=by have:=h.sl.le;omega
   subst hn;have:bs=[]:=List.length_eq_zero_iff.1 a1;subst this;subst hc
   rfl
 | some a=>
   have hf:(Builtin.firstCells 1 n (.slice (some a) n c)).run P w=.ok ((List.map (fun n:Nat=>(n:Int)) bs).map (Value.int .u8)).toArray w:=by
    rcases Nat.eq_zero_or_pos n with h0|h0
    · subst h0;have:bs=[]:=List.length_eq_zero_iff.1 a1;subst this;rfl
    · obtain⟨b,off,e,hr⟩:=h.sl.row h0;cases e;have:=Go.run_firstCells_some (P:=P) (w:=w) 1 n ⟨b,off,none⟩ n c (bs.map u8) (by simp[a1]) (fun j v hv=>by rw[Ex.addr_add];exact hr.2 j v hv);rw[this]
      congr 2
      simp
   simp only[Builtin.firstCells,Nat.mul_one]at hf;rw[run_bytesToString w a n c _ hf]
   rfl
end Gl
namespace Gz
open Go Go.RowKit Go.Proofs Gl
theorem equal_c {w:World} {A A':Option Addr} {n c n' c':Nat} {xs bs:List Nat} (ha:By w A n c xs) (hb:By w A' n' c' bs):
 Calls Tryz.prog 178 #[.slice A n c,.slice A' n' c'] w fun e w'=>e=.returned (.bool (decide (xs=bs)))/\w'=w:=by
 have h1:=conv_by (P:=Tryz.prog) (s:=113) (d:=9) ha Tryz.underlying113 Tryz.underlying5 Tryz.underlying9;have h2:=conv_by (P:=Tryz.prog) (s:=113) (d:=9) hb Tryz.underlying113 Tryz.underlying5 Tryz.underlying9;obtain⟨sa,a1⟩:=zE (strB xs);obtain⟨sb,a2⟩:=zE (strB bs);rw[<-a1]at h1;rw[<-a2]at h2;have he:(sa.toList == sb.toList)=decide (xs=bs):=by
  rw[a1,a2,ByteArray.toList_eq,ByteArray.toList_eq,Bool.eq_iff_iff,decide_eq_true_eq,beq_iff_eq];exact⟨fun h=>strB_inj ha.small hb.small (by apply ByteArray.ext;apply Array.ext';exact h),fun h=>by rw[h]⟩
 have HE:=zqH he;clear ha hb a1 a2 he;go_enter Tryz.func178,Tryz.ntmps178;go_wp2;go_ret;rw[HE.out];exact⟨rfl,rfl⟩
theorem by_take {w:World} {A:Option Addr} {n c m:Nat} {xs:List Nat} (h:By w A n c xs) (hm:m<=n):By w A m c (xs.take m):=by
 refine⟨⟨by have:=h.len;simp;omega,zT hm h.sl.le,h.sl.max,fun h0=>?_,h.sl.nil⟩,fun b hb=>h.small b (List.mem_of_mem_take hb)⟩;obtain⟨b,off,e,hr⟩:=h.sl.row (by omega);exact⟨b,off,e,hr.1,by rw[List.map_take];exact(hr.take m).2⟩
theorem hasprefix_c {w:World} {A A':Option Addr} {n c n' c':Nat} {xs bs:List Nat} (ha:By w A n c xs) (hb:By w A' n' c' bs):
 Calls Tryz.prog 190 #[.slice A n c,.slice A' n' c'] w fun e w'=>e=.returned (.bool (decide (bs <+: xs)))/\w'=w:=by
 have hl:=ha.len;have a2:=hb.len;have a5:=ha.sl.le;have a3:=ha.sl.max;unfold maxLen at a3;by_cases hg:n'<=n
 · have a1:=equal_c (by_take ha hg) hb;have hd:decide (xs.take n'=bs)=decide (bs <+: xs):=by
    rw[decide_eq_decide,List.prefix_iff_eq_take,a2];exact eq_comm
   rw[hd]at a1;have a4:decide ((n:Int) ≥ (n':Int))=true:=by simp;omega
   have H:=zqH a1;clear a1 hd ha hb;go_enter Tryz.func190,Tryz.ntmps190
   go_wp2_with (go_at_call 178;refine H.out.mono ?_;rintro e w' ⟨rfl,rfl⟩)
   go_ret
   exact⟨by simp,rfl⟩
 · have a4:decide ((n:Int) ≥ (n':Int))=false:=by simp;omega
   have hd:decide (bs <+: xs)=false:=by
    rw[decide_eq_false_iff_not];intro h;have:=h.length_le;omega
   rw[hd];clear hd ha hb;go_enter Tryz.func190,Tryz.ntmps190;go_wp2;go_ret;exact⟨by simp,rfl⟩
end Gz

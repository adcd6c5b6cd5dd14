/- A part of the proof of the statement of this seat: no condition. -/
import Derived.Test.YtbhnjkegkadodaaGreatDoorKP01
import Derived.Test.YtbhnjkegkadodaaGreatDoorXG03
import Derived.Test.YtbhnjkegkadodaaGreatDoorQ02b
import Derived.Deep.QuietTactic
import Derived.BigQuiet
import Derived.Test.YtbhnjkegkadodaaGreatDoorXG07
set_option linter.unusedVariables false
set_option linter.unusedSimpArgs false
set_option maxRecDepth 100000
set_option maxHeartbeats 8000000
namespace Gl
open Go Go.RowKit
def strB (bs:List Nat):ByteArray:=(List.map (fun n:Nat=>(n:Int)) bs).foldl (fun r n=>r.push (UInt8.ofNat n.toNat)) ByteArray.empty
theorem strB_list (bs:List Nat):(strB bs).data.toList=bs.map fun n=>UInt8.ofNat n:=by
 unfold strB
 rw[Ex.foldl_push,show ByteArray.empty.data.toList=[] from rfl,List.nil_append,List.map_map]
 rfl
theorem strB_inj {a b:List Nat} (ha:Small a) (hb:Small b) (h:strB a=strB b):a=b:=by
 have h1:=congrArg (fun s=>s.data.toList.map UInt8.toNat) h
 simp only[strB_list,List.map_map]at h1
 have e:∀l:List Nat,Small l->l.map (UInt8.toNat ∘ fun n=>UInt8.ofNat n)=l:=fun l hl=>by
  conv=>rhs;rw[<-List.map_id l]
  apply List.map_congr_left
  intro x hx
  have:=hl x hx
  simp[UInt8.toNat_ofNat']
  omega
 rw[e a ha,e b hb]at h1
 exact h1
theorem conv_by {P:Program} {w:World} {A:Option Addr} {n c:Nat} {bs:List Nat} {s d e:TypeId} (h:By w A n c bs) (hu:P.underlying s=some (.slice e)) (he:P.underlying e=some (.int .u8)) (hd:P.underlying d=some .string):(convert s d (.slice A n c)).run P w=.ok (.string (strB bs)) w:=by
 rw[run_convert_bytes_string w s d e A n c hu he hd]
 have hlen:=h.len
 cases A with
 | none=>
   have hc:=h.sl.nil rfl
   have hn:n=0:=by have:=h.sl.le;omega
   subst hn
   have:bs=[]:=List.length_eq_zero_iff.1 hlen
   subst this
   subst hc
   rfl
 | some a=>
   have hf:(Builtin.firstCells 1 n (.slice (some a) n c)).run P w=.ok ((List.map (fun n:Nat=>(n:Int)) bs).map (Value.int .u8)).toArray w:=by
    rcases Nat.eq_zero_or_pos n with h0|h0
    · subst h0
      have:bs=[]:=List.length_eq_zero_iff.1 hlen
      subst this;rfl
    · obtain⟨b,off,e,hr⟩:=h.sl.row h0
      cases e
      have:=Go.run_firstCells_some (P:=P) (w:=w) 1 n ⟨b,off,none⟩ n c (bs.map u8) (by simp[hlen]) (fun j v hv=>by rw[Ex.addr_add];exact hr.2 j v hv)
      rw[this]
      congr 2
      simp
   simp only[Builtin.firstCells,Nat.mul_one]at hf
   rw[run_bytesToString w a n c _ hf]
   rfl
end Gl
namespace Go.Proofs.YtbhnjkegkadodaaGreatDoor
open Go Go.RowKit Go.Proofs Gl
theorem equal_c {w:World} {A A':Option Addr} {n c n' c':Nat} {xs bs:List Nat} (ha:By w A n c xs) (hb:By w A' n' c' bs):
 Calls Tryz.prog 178 #[.slice A n c,.slice A' n' c'] w fun e w'=>e=.returned (.bool (decide (xs=bs)))/\w'=w:=by
 have h1:=conv_by (P:=Tryz.prog) (s:=113) (d:=9) ha Tryz.underlying113 Tryz.underlying5 Tryz.underlying9
 have h2:=conv_by (P:=Tryz.prog) (s:=113) (d:=9) hb Tryz.underlying113 Tryz.underlying5 Tryz.underlying9
 obtain⟨sa,hsa⟩:∃sa,sa=strB xs:=⟨_,rfl⟩
 obtain⟨sb,hsb⟩:∃sb,sb=strB bs:=⟨_,rfl⟩
 rw[<-hsa]at h1
 rw[<-hsb]at h2
 have he:(sa.toList == sb.toList)=decide (xs=bs):=by
  rw[hsa,hsb,ByteArray.toList_eq,ByteArray.toList_eq,Bool.eq_iff_iff,decide_eq_true_eq,beq_iff_eq]
  exact⟨fun h=>strB_inj ha.small hb.small (by apply ByteArray.ext;apply Array.ext';exact h),fun h=>by rw[h]⟩
 have HE:=Lib.hid he
 clear ha hb hsa hsb he
 go_enter Tryz.func178,Tryz.ntmps178
 go_wp2
 go_ret
 rw[HE.out]
 exact⟨rfl,rfl⟩
structure Rd (br:Nat) (w:World) (A:Option Addr) (n c:Nat) (bs:List Nat) (err:Nat):Prop where
 blk:∃t,w.heap[br]?=some (.cells #[.slice A n c,.int .i64 (err:Int)] t (0,0))
 by_:By w A n c bs
 ne:∀a,A=some a->a.block≠br
end Go.Proofs.YtbhnjkegkadodaaGreatDoor
namespace Go.Proofs.YtbhnjkegkadodaaGreatDoor
open Go Go.RowKit Go.Proofs Gl
section
variable {br:Nat} {w w':World} {A:Option Addr} {n c:Nat} {bs:List Nat} {err:Nat}
theorem Rd.lt (h:Rd br w A n c bs err):br<w.heap.size:=by
 obtain⟨t,h⟩:=h.blk
 exact(Array.getElem?_eq_some_iff.1 h).1
theorem Rd.cell0 (h:Rd br w A n c bs err):w.cell? ⟨br,0,none⟩=some (.slice A n c):=by
 obtain⟨t,h⟩:=h.blk
 simp[World.cell?,h]
theorem Rd.cell1 (h:Rd br w A n c bs err):w.cell? ⟨br,1,none⟩=some (.int .i64 (err:Int)):=by
 obtain⟨t,h⟩:=h.blk
 simp[World.cell?,h]
theorem Rd.frozen (h:Rd br w A n c bs err) (i:Nat):w.frozen? ⟨br,i,none⟩=false:=by
 obtain⟨t,h⟩:=h.blk
 simp[World.frozen?,h]
theorem Rd.upd {S:Nat->Prop} (h:Rd br w A n c bs err) (hu:Upd S w w') (h1:¬S br) (h2:Away S A n):Rd br w' A n c bs err:=
 ⟨let ⟨t,hb⟩:=h.blk;⟨t,(hu.block br h.lt h1).trans hb⟩,h.by_.upd hu h2,h.ne⟩
theorem Rd.fail (h:Rd br w A n c bs err) (e:Nat):Rd br (w.setCell ⟨br,1,none⟩ (.int .i64 (e:Int))) A n c bs e:=by
 obtain⟨t,hb⟩:=h.blk
 exact⟨⟨t,by simp[World.setCell,Array.getElem?_modify,hb]⟩,h.by_.upd (Upd.setCell (S:=fun b=>b=br) (a:=⟨br,1,none⟩) w _ rfl) (fun a ha _=>h.ne a ha),h.ne⟩
theorem Rd.next (h:Rd br w A n c bs err) {A':Option Addr} {n' c':Nat} {bs':List Nat} (hb':By w A' n' c' bs') (hn:∀a,A'=some a->a.block≠br):Rd br (w.setCell ⟨br,0,none⟩ (.slice A' n' c')) A' n' c' bs' err:=by
 obtain⟨t,hb⟩:=h.blk
 exact⟨⟨t,by simp[World.setCell,Array.getElem?_modify,hb]⟩,hb'.upd (Upd.setCell (S:=fun b=>b=br) (a:=⟨br,0,none⟩) w _ rfl) (fun a ha _=>hn a ha),hn⟩
theorem Rd.drewN (h:Rd br w A n c bs err) (m:Nat):Rd br (w.drewN m) A n c bs err:=⟨h.blk,⟨h.by_.sl.drewN m,h.by_.small⟩,h.ne⟩
end
end Go.Proofs.YtbhnjkegkadodaaGreatDoor
namespace Go.Proofs.YtbhnjkegkadodaaGreatDoor
open Go Go.RowKit Go.Proofs Gl
theorem rfails {br:Nat} {w:World} {A:Option Addr} {n c:Nat} {bs:List Nat} {err:Nat} (hR:Rd br w A n c bs err) (e0:Nat):
 Calls Tryz.prog 265 #[.pointer (some ⟨br,0,none⟩),.int .i64 (e0:Int)] w fun e w'=>e=.returned (.tuple #[])/\Rd br w' A n c bs (if err=0 then e0 else err)/\Upd (fun b=>b=br) w w':=by
 have hc1:=hR.cell1
 have hf1:=hR.frozen 1
 by_cases he:err=0
 · subst he
   go_enter Tryz.func265,Tryz.ntmps265
   go_wp2
   all_goals (try go_region)
   all_goals (try go_wp2)
   all_goals go_end0
   all_goals exact⟨rfl,by simpa using hR.fail e0,Upd.setCell w _ rfl⟩
 · have hb:(((err:Nat):Int) == 0)=false:=by rw[beq_eq_false_iff_ne];omega
   go_enter Tryz.func265,Tryz.ntmps265
   go_wp2
   all_goals go_end0
   all_goals exact⟨rfl,by first|exact hR|(rw[if_neg he];exact hR),Upd.refl _ _⟩
theorem num_snoc (l:List Nat) (b:Nat):num (l ++ [b])=num l*256+b:=by simp[num]
theorem num_lt:∀(n:Nat) (bs:List Nat),bs.length=n->Small bs->num bs<256 ^ n
 | 0,bs,hl,_=>by
   have:bs=[]:=List.length_eq_zero_iff.1 hl
   subst this;decide
 | n+1,bs,hl,h=>by
   have hne:bs≠[]:=fun e=>by rw[e]at hl;simp at hl
   have e:=List.dropLast_concat_getLast hne
   have h1:=num_lt n bs.dropLast (by simp[hl]) (fun x hx=>h x ((List.dropLast_sublist bs).subset hx))
   have h2:=h _ (List.getLast_mem hne)
   rw[<-e,num_snoc,Nat.pow_succ]
   omega
theorem rpeek {br:Nat} {w:World} {A:Option Addr} {n c:Nat} {bs:List Nat} {err:Nat} (hR:Rd br w A n c bs err) (k:Nat) (hk0:0<k) (hk:k<=8) (hn:n<=1073741824):
 Calls Tryz.prog 290 #[.pointer (some ⟨br,0,none⟩),.int .i64 (k:Int)] w fun e w'=>
  (err=0/\k<=n->e=.returned (.tuple #[.int .u64 (num (bs.take k):Int),.bool true])/\Rd br w' A n c bs 0) /\
  (¬(err=0/\k<=n)->e=.returned (.tuple #[.int .u64 0,.bool false])/\Rd br w' A n c bs (if err=0 then 40 else err))/\Upd (fun b=>b=br) w w':=by
 have hc0:=hR.cell0
 have hc1:=hR.cell1
 have hf1:=hR.frozen 1
 by_cases he:err=0
 · subst he
   by_cases hkn:k<=n
   · obtain⟨b,off,rfl,hb⟩:=hR.by_.addr (by omega)
     have hle:=hR.by_.sl.le
     have hmx:=hR.by_.sl.max
     have hkc:k<=c:=by omega
     have hlen:=hR.by_.len
     have HR':=Lib.hid hR
     clear hR
     go_enter Tryz.func290,Tryz.ntmps290
     go_wp2
     go_loopw [6,43] (fun x i wr=>∃j:Nat,j<=k/\i=.int .i64 (j:Int)/\x=.int .u64 (num (bs.take j):Int)/\Hid (∃q,wr=w.drewN q)) (fun x i _=>(k-(intOf i).toNat))
     case atStart=>exact⟨0,Nat.zero_le _,rfl,rfl,Lib.hid ⟨0,rfl⟩⟩
     case round=>
      obtain⟨j,hj,rfl,rfl,hq⟩:=hrel
      by_cases hjk:j<k
      · obtain⟨v,hv⟩:∃v,v=bs[j]'(by omega):=⟨_,rfl⟩
        have hcj:wr.cell? ⟨b,off+j,none⟩=some (.int .u8 (v:Int)):=by
         obtain⟨q,rfl⟩:=hq.out
         rw[hv];exact HR'.out.by_.cell rfl j (by omega)
        have HV:=Lib.hid hv
        clear hv
        obtain⟨X,hX⟩:∃X,X=num (bs.take j):=⟨_,rfl⟩
        rw[<-hX]
        have HXX:=Lib.hid hX
        clear hX
        go_wp2
        have hvb:v<256:=by rw[HV.out];exact HR'.out.by_.small _ (List.getElem_mem _)
        have hXb:X<72057594037927936:=by
         rw[HXX.out]
         have h1:=num_lt j (bs.take j) (by rw[List.length_take];omega) (fun x hx=>HR'.out.by_.small x (List.mem_of_mem_take hx))
         have h2:256 ^ j<=256 ^ 7:=Nat.pow_le_pow_right (by decide) (by omega)
         omega
        refine⟨⟨j+1,by omega,by congr 1,?_,hq⟩,by simp[intOf];omega⟩
        rw[or_bytes hXb hvb,HV.out,HXX.out,<-num_snoc]
        congr 3
        rw[List.take_succ_eq_append_getElem (by omega)]
      · go_wp2
        obtain rfl:j=k:=by omega
        go_ret2
        obtain⟨q,rfl⟩:=hq.out
        exact⟨⟨rfl,HR'.out.drewN q⟩,(Upd.refl _ _).drewN q⟩
   · go_enter Tryz.func290,Tryz.ntmps290
     go_wp2_with (go_at_call 265;refine(rfails hR 40).mono ?_;rintro e w' ⟨rfl,hR1,hu⟩;have hd1:=hR1.cell1)
     go_ret2
     exact⟨⟨rfl,by simpa using hR1⟩,hu⟩
 · have hb:(((err:Nat):Int) == 0)=false:=by rw[beq_eq_false_iff_ne];omega
   have hb2:(((err:Nat):Int) != 0)=true:=by rw[bne_iff_ne];omega
   go_enter Tryz.func290,Tryz.ntmps290
   go_wp2
   go_ret2
   exact⟨⟨rfl,hR⟩,Upd.refl _ _⟩
def rOk (k:Nat) (bs:List Nat) (err:Nat):Bool:=decide (err=0/\k<=bs.length)
def rv (k:Nat) (bs:List Nat) (err:Nat):Nat:=if rOk k bs err then num (bs.take k) else 0
def rb (k:Nat) (bs:List Nat) (err:Nat):List Nat:=if rOk k bs err then bs.drop k else bs
def re (k:Nat) (bs:List Nat) (err:Nat):Nat:=if rOk k bs err then 0 else if err=0 then 40 else err
def Took (br:Nat) (w:World) (A:Option Addr) (k:Nat) (bs:List Nat) (err:Nat) (v:Value) (e:Ending) (w':World):Prop:=
 e=.returned v/\∃A' n' c',Rd br w' A' n' c' (rb k bs err) (re k bs err)/\Upd (fun b=>b=br) w w'/\∀a',A'=some a'->∃a,A=some a/\a'.block=a.block
theorem rnumber {br:Nat} {w:World} {A:Option Addr} {n c:Nat} {bs:List Nat} {err:Nat} (hR:Rd br w A n c bs err) (k:Nat) (hk0:0<k) (hk:k<=8) (hn:n<=1073741824):
 Calls Tryz.prog 271 #[.pointer (some ⟨br,0,none⟩),.int .i64 (k:Int)] w (Took br w A k bs err (.int .u64 (rv k bs err:Int))):=by
 have hlen:=hR.by_.len
 have P:=Lib.hid (rpeek hR k hk0 hk hn)
 by_cases ho:err=0/\k<=n
 · have hok:rOk k bs err=true:=decide_eq_true (by rw[hlen];exact ho)
   obtain⟨b,off,rfl,hb⟩:=hR.by_.addr (by omega)
   have hle:=hR.by_.sl.le
   have hkc:k<=c:=by omega
   have hkn:=ho.2
   have HR':=Lib.hid hR
   have HO:=Lib.hid ho
   clear hR ho
   have hres:∀(w':World) (A':Option Addr) (n' c':Nat),Rd br w' A' n' c' (bs.drop k) 0->Upd (fun b=>b=br) w w' → (∀a',A'=some a'->a'.block=b)->Took br w (some ⟨b,off,none⟩) k bs err (.int .u64 (num (bs.take k):Int)) (.returned (.int .u64 (num (bs.take k):Int))) w':=fun w' A' n' c' h1 h2 h3=>by
    unfold Took rb re
    rw[hok]
    exact⟨rfl,A',n',c',h1,h2,fun a' ha'=>⟨_,rfl,h3 a' ha'⟩⟩
   have hv:rv k bs err=num (bs.take k):=by unfold rv;rw[hok];rfl
   rw[hv]
   have HRS:=Lib.hid hres
   clear hres
   go_enter Tryz.func271,Tryz.ntmps271
   go_wp2_with (go_at_call 290;refine P.out.mono ?_;rintro e w' ⟨h1,_,hu⟩;obtain⟨rfl,hR1⟩:=h1 HO.out;have hd0:=hR1.cell0;have hdf:=hR1.frozen 0;clear h1)
   all_goals go_ret
   · have e0:bs.drop k=[]:=List.drop_eq_nil_of_le (by omega)
     have hz:n-k=0:=by omega
     refine HRS.out _ _ _ _ (hR1.next (A':=some ⟨b,off,none⟩) (n':=n-k) (c':=0) ?_ (fun a ha=>by cases ha;exact hR1.ne _ rfl)) (hu.trans (Upd.setCell w' _ rfl)) (fun a' ha'=>by cases ha';rfl)
     rw[e0,hz]
     exact⟨⟨by simp,Nat.le_refl _,Nat.zero_le _,fun h=>absurd h (by omega),fun _=>rfl⟩,fun x hx=>by cases hx⟩
   · refine HRS.out _ _ _ _ (hR1.next (A':=some ⟨b,off+k,none⟩) (n':=n-k) (c':=c-k) ?_ (fun a ha=>by cases ha;exact hR1.ne ⟨b,off,none⟩ rfl)) (hu.trans (Upd.setCell w' _ rfl)) (fun a' ha'=>by cases ha';rfl)
     obtain⟨b',off',eA,hr⟩:=hR1.by_.sl.row (by omega)
     cases eA
     have hd:=hr.drop k
     rw[<-List.map_drop]at hd
     refine⟨⟨by simp[hlen],by omega,by have:=hR1.by_.sl.max;omega,fun _=>⟨b,off+k,rfl,hd⟩,fun e=>by cases e⟩,fun x hx=>hR1.by_.small x (List.mem_of_mem_drop hx)⟩
 · have hok:rOk k bs err=false:=decide_eq_false (by rw[hlen];exact ho)
   have HO:=Lib.hid ho
   clear ho
   have hres:∀(w':World),Rd br w' A n c bs (if err=0 then 40 else err)->Upd (fun b=>b=br) w w'->Took br w A k bs err (.int .u64 0) (.returned (.int .u64 0)) w':=fun w' h1 h2=>by
    unfold Took rb re
    rw[hok]
    exact⟨rfl,A,n,c,h1,h2,fun a' ha'=>⟨a',ha',rfl⟩⟩
   have hv:((rv k bs err:Nat):Int)=0:=by unfold rv;rw[hok];rfl
   rw[hv]
   have HRS:=Lib.hid hres
   clear hres
   go_enter Tryz.func271,Tryz.ntmps271
   go_wp2_with (go_at_call 290;refine P.out.mono ?_;rintro e w' ⟨_,h2,hu⟩;obtain⟨rfl,hR1⟩:=h2 HO.out;have HR1:=Lib.hid hR1;clear h2 hR1)
   go_ret
   exact HRS.out _ HR1.out hu
theorem rU64 {br:Nat} {w:World} {A:Option Addr} {n c:Nat} {bs:List Nat} {err:Nat} (hR:Rd br w A n c bs err) (hn:n<=1073741824):
 Calls Tryz.prog 244 #[.pointer (some ⟨br,0,none⟩)] w (Took br w A 8 bs err (.int .u64 (rv 8 bs err:Int))):=by
 have P:=Lib.hid (rnumber hR 8 (by omega) (by omega) hn)
 clear hR hn
 obtain⟨x,hx⟩:∃x,x=rv 8 bs err:=⟨_,rfl⟩
 rw[<-hx]at P ⊢
 have HX:=Lib.hid hx
 clear hx
 go_enter Tryz.func244,Tryz.ntmps244
 go_wp2_with (go_at_call 271;refine P.out.mono ?_;intro e w' hT;obtain⟨rfl,h2⟩:=id hT)
 go_ret
 exact hT
theorem rEnd {br:Nat} {w:World} {A:Option Addr} {n c:Nat} {bs:List Nat} {err:Nat} (hR:Rd br w A n c bs err):
 Calls Tryz.prog 232 #[.pointer (some ⟨br,0,none⟩)] w fun e w'=>e=.returned (.int .i64 ((if err=0/\0<n then 43 else err:Nat):Int))/\Upd (fun b=>b=br) w w':=by
 have hc0:=hR.cell0
 have hc1:=hR.cell1
 have P:=Lib.hid (rfails hR 43)
 by_cases h0:0<n
 · obtain⟨ef,hef⟩:∃ef,ef=(if err=0 then 43 else err):=⟨_,rfl⟩
   have e1:(if err=0/\0<n then 43 else err)=ef:=by rw[hef];by_cases h:err=0<;>simp[h,h0]
   rw[e1]
   rw[<-hef]at P
   clear e1 hef
   go_enter Tryz.func232,Tryz.ntmps232
   go_wp2_with (go_at_call 265;refine P.out.mono ?_;rintro e w' ⟨rfl,hR1,hu⟩;have hd1:=hR1.cell1)
   go_ret
   exact⟨rfl,hu⟩
 · rw[if_neg (fun h=>h0 h.2)]
   go_enter Tryz.func232,Tryz.ntmps232
   go_wp2
   go_ret
   exact⟨rfl,Upd.refl _ _⟩
theorem newReader {w:World} {A:Option Addr} {n c:Nat} {bs:List Nat} (h:By w A n c bs) (hn:n<=1073741824):
 Calls Tryz.prog 231 #[.slice A n c] w fun e w'=>∃br A' c',e=.returned (.pointer (some ⟨br,0,none⟩))/\Rd br w' A' n c' bs 0/\New w w'/\w.heap.size<=br/\∀a,A'=some a->w.heap.size<=a.block:=by
 obtain⟨i0,hi0,hz0,hz1,hz2⟩:=info_parts info5
 have hlen:=h.len
 have hs:Src w A n (bs.map u8):=Src.of_sl h.sl
 have HN:=Lib.hid hn
 have HS:=Lib.hid h.small
 clear hn h
 go_enter Tryz.func231,Tryz.ntmps231
 go_wp2_with (at_builtin
              refine wpList_append_src _ rfl _ _ _ rfl w.heap.size 5 i0 _ 1 1 Tryz.underlying113 hi0 hz0 hz1 hz2 rfl (by omega) (.slice none 0 0) 0 [] rfl (World.ownsRow_nil _ _ _ _) _ _ _ (bs.map u8) rfl (by simp[hlen]) hs (oneCell_u8 _) (by have:=HN.out;simp only[maxLen];omega) (by have:=HN.out;omega) (Nat.le_refl _) ?_
              intro A' c' w1 hown1 hg1 hat1)
 go_ret
 simp only[Nat.zero_add,List.nil_append]at hown1 hat1
 have hA:∀a,A'=some a->w.heap.size<=a.block:=fun a ha=>by
  subst ha
  rcases hat1 with e|e<;>simp[Value.ownBlock]at e
  omega
 have hu:New w w1:=Upd.of_grown hg1 (fun c hc=>by cases hc)
 refine⟨w1.heap.size,A',c',by simp,⟨⟨352,?_⟩,?_,fun a ha=>?_⟩,hu.trans (Upd.alloc _ _ _),hu.size,hA⟩
 · have:=Ex.alloc_new w1 (.cells #[.slice A' n c',.int .i64 0] 352)
   simpa using this
 · exact(By.of_own hown1 HS.out).new (by have:=Upd.alloc (fun _=>False) w1 (.cells #[.slice A' n c',.int .i64 0] 352);simpa using this)
 · subst ha
   have:=(ownsRow_lt hown1 (c:=a.block) rfl).1
   omega
end Go.Proofs.YtbhnjkegkadodaaGreatDoor

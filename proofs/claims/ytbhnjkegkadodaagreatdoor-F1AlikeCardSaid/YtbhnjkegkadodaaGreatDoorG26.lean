/- Part of the proof. -/
import Derived.Test.YtbhnjkegkadodaaGreatDoorG24
import Derived.Test.YtbhnjkegkadodaaGreatDoorG25
set_option linter.all false
set_option maxRecDepth 100000
set_option maxHeartbeats 8000000
namespace Go.Proofs.YtbhnjkegkadodaaGreatDoor
open Go Go.RowKit Go.Proofs Gl
def eightV (x:Nat):Value:=.agg ((be 8 x).map u8).toArray
theorem upto_set {bs:List Nat} {k:Nat} {v:Nat} (hk:k<8) (hb:bs.length=8) (hv:bs[k]?=some v):(bs.take k ++ List.replicate (8-k) 0).set k v=bs.take (k+1) ++ List.replicate (8-(k+1)) 0:=by
 apply List.ext_getElem?
 intro j
 rw[List.getElem?_set]
 by_cases hjk:k=j
 · subst hjk
   rw[if_pos rfl,if_pos (by rw[List.length_append,List.length_take,List.length_replicate];omega),List.getElem?_append_left (by rw[List.length_take];omega),List.getElem?_take,if_pos (by omega),hv]
 · rw[if_neg hjk]
   by_cases hj:j<k
   · rw[List.getElem?_append_left (by rw[List.length_take];omega),List.getElem?_append_left (by rw[List.length_take];omega),List.getElem?_take,List.getElem?_take,if_pos hj,if_pos (by omega)]
   · rw[List.getElem?_append_right (by rw[List.length_take];omega),List.getElem?_append_right (by rw[List.length_take];omega),List.getElem?_replicate,List.getElem?_replicate,List.length_take,List.length_take]
     by_cases hj8:j<8
     · rw[if_pos (by omega),if_pos (by omega)]
     · rw[if_neg (by omega),if_neg (by omega)]
theorem zbo {l:List Nat} (h:l.length=8):∃y0 y1 y2 y3 y4 y5 y6 y7,l=[y0,y1,y2,y3,y4,y5,y6,y7]:=by
 match l,h with
 | [y0,y1,y2,y3,y4,y5,y6,y7],_=>exact⟨_,_,_,_,_,_,_,_,rfl⟩
theorem eight_c {w:World} (x:Nat) (hx:x<18446744073709551616):Calls Tryz.prog 201 #[.int .u64 (x:Int)] w fun e w'=>e=.returned (eightV x)/\New w w':=by
 obtain⟨W1,hW1⟩:∃W1,W1=w.alloc (.cells #[.int .u8 0,.int .u8 0,.int .u8 0,.int .u8 0,.int .u8 0,.int .u8 0,.int .u8 0,.int .u8 0] 279):=⟨_,rfl⟩
 obtain⟨W2,hW2⟩:∃W2,W2=W1.alloc (.cells #[.int .u8 0,.int .u8 0,.int .u8 0,.int .u8 0,.int .u8 0,.int .u8 0,.int .u8 0,.int .u8 0] 279):=⟨_,rfl⟩
 have n1:New w W1:=by rw[hW1];exact Upd.alloc _ _ _
 have n2:New W1 W2:=by rw[hW2];exact Upd.alloc _ _ _
 have s1:W1.heap.size=w.heap.size+1:=by rw[hW1];exact zad _ _
 have s2:W2.heap.size=w.heap.size+1+1:=by rw[hW2,zad,s1]
 have b1:W2.heap[w.heap.size]?=some (.cells #[.int .u8 0,.int .u8 0,.int .u8 0,.int .u8 0,.int .u8 0,.int .u8 0,.int .u8 0,.int .u8 0] 279 (0,0)):=(n2.block _ (by omega) id).trans (by rw[hW1];exact Ex.alloc_new w _)
 have b2:W2.heap[w.heap.size+1]?=some (.cells #[.int .u8 0,.int .u8 0,.int .u8 0,.int .u8 0,.int .u8 0,.int .u8 0,.int .u8 0,.int .u8 0] 279 (0,0)):=by rw[hW2,<-s1];exact Ex.alloc_new W1 _
 have N:=zqH (n1.trans n2);have B1:=zqH b1;have B2:=zqH b2;have S2:=zqH s2;have HX:=zqH hx
 clear n1 n2 b1 b2 s1 s2 hx
 go_enter Tryz.func201,Tryz.ntmps201
 go_upto_region 2 with fail
 rw[<-hW1,<-hW2]
 clear hW1 hW2
 go_wp2
 go_loopw [5] (fun i wr=>∃k:Nat,k<=8/\i=.int .i64 (k:Int)/\Hid (wr.heap[w.heap.size+1]?=some (.cells (((be 8 x).take k ++ List.replicate (8-k) 0).map u8).toArray 279 (0,0)))/\Hid (Upd (fun b=>b=w.heap.size+1) W2 wr)) (fun i _=>8-(intOf i).toNat)
 case atStart=>exact⟨0,by omega,rfl,B2,zqH (Upd.refl _ _)⟩
 case round=>
  obtain⟨k,hk,rfl,hh,hu⟩:=hrel
  by_cases hk8:k<8
  · have hgc:∃u,wr.cell? ⟨w.heap.size+1,k,none⟩=some u:=⟨_,zaa hh.out k _ (by rw[Array.getElem?_eq_getElem (by simp[zah];omega)])⟩
    obtain⟨u,hgu⟩:=hgc
    have hgf:=zac hh.out k
    go_wp2
    have hg:=be_get 8 x k hk8
    have e1:(Value.int .u8 ((x:Int) / 2 ^ (56-8*k) % 256))=Gl.u8 (x / 2 ^ (8*(8-1-k)) % 256):=by
     rw[show 56-8*k=8*(8-1-k) by omega];congr 1
    rw[e1]
    refine⟨⟨k+1,by omega,by congr 1,zqH ?_,zqH (hu.out.trans (Upd.setCell wr _ rfl))⟩,by simp[intOf];omega⟩
    rw[zab hh.out,List.setIfInBounds_toArray,<-List.map_set,upto_set hk8 (zah 8 x) hg]
  · obtain rfl:k=8:=by omega
    have hh2:=hh.out
    rw[List.take_of_length_le (by rw[zah];exact Nat.le_refl _),Nat.sub_self,List.replicate_zero,List.append_nil]at hh2
    obtain⟨y0,y1,y2,y3,y4,y5,y6,y7,hbe⟩:∃y0 y1 y2 y3 y4 y5 y6 y7,be 8 x=[y0,y1,y2,y3,y4,y5,y6,y7]:=zbo (zah 8 x)
    rw[hbe]at hh2
    simp only[List.map_cons,List.map_nil]at hh2
    have hb0:wr.heap[w.heap.size]?=_:=(hu.out.block w.heap.size (by have:=S2.out;omega) (by omega)).trans B1.out
    have HU:=zqH hu.out;have HBE:=zqH hbe
    have l0:wr.cell? ⟨w.heap.size+1,0,none⟩=some (.int .u8 (y0:Int)):=zaa hh2 0 _ rfl
    have l1:wr.cell? ⟨w.heap.size+1,1,none⟩=some (.int .u8 (y1:Int)):=zaa hh2 1 _ rfl
    have l2:wr.cell? ⟨w.heap.size+1,2,none⟩=some (.int .u8 (y2:Int)):=zaa hh2 2 _ rfl
    have l3:wr.cell? ⟨w.heap.size+1,3,none⟩=some (.int .u8 (y3:Int)):=zaa hh2 3 _ rfl
    have l4:wr.cell? ⟨w.heap.size+1,4,none⟩=some (.int .u8 (y4:Int)):=zaa hh2 4 _ rfl
    have l5:wr.cell? ⟨w.heap.size+1,5,none⟩=some (.int .u8 (y5:Int)):=zaa hh2 5 _ rfl
    have l6:wr.cell? ⟨w.heap.size+1,6,none⟩=some (.int .u8 (y6:Int)):=zaa hh2 6 _ rfl
    have l7:wr.cell? ⟨w.heap.size+1,7,none⟩=some (.int .u8 (y7:Int)):=zaa hh2 7 _ rfl
    have c0:(wr).cell? ⟨w.heap.size,0,none⟩=some (.int .u8 0):=zaa hb0 0 _ rfl
    have z0:(wr).frozen? ⟨w.heap.size,0,none⟩=false:=zac hb0 0
    have hb1:((wr).setCell ⟨w.heap.size,0,none⟩ (.int .u8 (y0:Int))).heap[w.heap.size]?=some (.cells #[.int .u8 (y0:Int),.int .u8 0,.int .u8 0,.int .u8 0,.int .u8 0,.int .u8 0,.int .u8 0,.int .u8 0] 279 (0,0)):=by rw[zab hb0];rfl
    have c1:((wr).setCell ⟨w.heap.size,0,none⟩ (.int .u8 (y0:Int))).cell? ⟨w.heap.size,1,none⟩=some (.int .u8 0):=zaa hb1 1 _ rfl
    have z1:((wr).setCell ⟨w.heap.size,0,none⟩ (.int .u8 (y0:Int))).frozen? ⟨w.heap.size,1,none⟩=false:=zac hb1 1
    have hb2:(((wr).setCell ⟨w.heap.size,0,none⟩ (.int .u8 (y0:Int))).setCell ⟨w.heap.size,1,none⟩ (.int .u8 (y1:Int))).heap[w.heap.size]?=some (.cells #[.int .u8 (y0:Int),.int .u8 (y1:Int),.int .u8 0,.int .u8 0,.int .u8 0,.int .u8 0,.int .u8 0,.int .u8 0] 279 (0,0)):=by rw[zab hb1];rfl
    have c2:(((wr).setCell ⟨w.heap.size,0,none⟩ (.int .u8 (y0:Int))).setCell ⟨w.heap.size,1,none⟩ (.int .u8 (y1:Int))).cell? ⟨w.heap.size,2,none⟩=some (.int .u8 0):=zaa hb2 2 _ rfl
    have z2:(((wr).setCell ⟨w.heap.size,0,none⟩ (.int .u8 (y0:Int))).setCell ⟨w.heap.size,1,none⟩ (.int .u8 (y1:Int))).frozen? ⟨w.heap.size,2,none⟩=false:=zac hb2 2
    have hb3:((((wr).setCell ⟨w.heap.size,0,none⟩ (.int .u8 (y0:Int))).setCell ⟨w.heap.size,1,none⟩ (.int .u8 (y1:Int))).setCell ⟨w.heap.size,2,none⟩ (.int .u8 (y2:Int))).heap[w.heap.size]?=some (.cells #[.int .u8 (y0:Int),.int .u8 (y1:Int),.int .u8 (y2:Int),.int .u8 0,.int .u8 0,.int .u8 0,.int .u8 0,.int .u8 0] 279 (0,0)):=by rw[zab hb2];rfl
    have c3:((((wr).setCell ⟨w.heap.size,0,none⟩ (.int .u8 (y0:Int))).setCell ⟨w.heap.size,1,none⟩ (.int .u8 (y1:Int))).setCell ⟨w.heap.size,2,none⟩ (.int .u8 (y2:Int))).cell? ⟨w.heap.size,3,none⟩=some (.int .u8 0):=zaa hb3 3 _ rfl
    have z3:((((wr).setCell ⟨w.heap.size,0,none⟩ (.int .u8 (y0:Int))).setCell ⟨w.heap.size,1,none⟩ (.int .u8 (y1:Int))).setCell ⟨w.heap.size,2,none⟩ (.int .u8 (y2:Int))).frozen? ⟨w.heap.size,3,none⟩=false:=zac hb3 3
    have hb4:(((((wr).setCell ⟨w.heap.size,0,none⟩ (.int .u8 (y0:Int))).setCell ⟨w.heap.size,1,none⟩ (.int .u8 (y1:Int))).setCell ⟨w.heap.size,2,none⟩ (.int .u8 (y2:Int))).setCell ⟨w.heap.size,3,none⟩ (.int .u8 (y3:Int))).heap[w.heap.size]?=some (.cells #[.int .u8 (y0:Int),.int .u8 (y1:Int),.int .u8 (y2:Int),.int .u8 (y3:Int),.int .u8 0,.int .u8 0,.int .u8 0,.int .u8 0] 279 (0,0)):=by rw[zab hb3];rfl
    have c4:(((((wr).setCell ⟨w.heap.size,0,none⟩ (.int .u8 (y0:Int))).setCell ⟨w.heap.size,1,none⟩ (.int .u8 (y1:Int))).setCell ⟨w.heap.size,2,none⟩ (.int .u8 (y2:Int))).setCell ⟨w.heap.size,3,none⟩ (.int .u8 (y3:Int))).cell? ⟨w.heap.size,4,none⟩=some (.int .u8 0):=zaa hb4 4 _ rfl
    have z4:(((((wr).setCell ⟨w.heap.size,0,none⟩ (.int .u8 (y0:Int))).setCell ⟨w.heap.size,1,none⟩ (.int .u8 (y1:Int))).setCell ⟨w.heap.size,2,none⟩ (.int .u8 (y2:Int))).setCell ⟨w.heap.size,3,none⟩ (.int .u8 (y3:Int))).frozen? ⟨w.heap.size,4,none⟩=false:=zac hb4 4
    have hb5:((((((wr).setCell ⟨w.heap.size,0,none⟩ (.int .u8 (y0:Int))).setCell ⟨w.heap.size,1,none⟩ (.int .u8 (y1:Int))).setCell ⟨w.heap.size,2,none⟩ (.int .u8 (y2:Int))).setCell ⟨w.heap.size,3,none⟩ (.int .u8 (y3:Int))).setCell ⟨w.heap.size,4,none⟩ (.int .u8 (y4:Int))).heap[w.heap.size]?=some (.cells #[.int .u8 (y0:Int),.int .u8 (y1:Int),.int .u8 (y2:Int),.int .u8 (y3:Int),.int .u8 (y4:Int),.int .u8 0,.int .u8 0,.int .u8 0] 279 (0,0)):=by rw[zab hb4];rfl
    have c5:((((((wr).setCell ⟨w.heap.size,0,none⟩ (.int .u8 (y0:Int))).setCell ⟨w.heap.size,1,none⟩ (.int .u8 (y1:Int))).setCell ⟨w.heap.size,2,none⟩ (.int .u8 (y2:Int))).setCell ⟨w.heap.size,3,none⟩ (.int .u8 (y3:Int))).setCell ⟨w.heap.size,4,none⟩ (.int .u8 (y4:Int))).cell? ⟨w.heap.size,5,none⟩=some (.int .u8 0):=zaa hb5 5 _ rfl
    have z5:((((((wr).setCell ⟨w.heap.size,0,none⟩ (.int .u8 (y0:Int))).setCell ⟨w.heap.size,1,none⟩ (.int .u8 (y1:Int))).setCell ⟨w.heap.size,2,none⟩ (.int .u8 (y2:Int))).setCell ⟨w.heap.size,3,none⟩ (.int .u8 (y3:Int))).setCell ⟨w.heap.size,4,none⟩ (.int .u8 (y4:Int))).frozen? ⟨w.heap.size,5,none⟩=false:=zac hb5 5
    have hb6:(((((((wr).setCell ⟨w.heap.size,0,none⟩ (.int .u8 (y0:Int))).setCell ⟨w.heap.size,1,none⟩ (.int .u8 (y1:Int))).setCell ⟨w.heap.size,2,none⟩ (.int .u8 (y2:Int))).setCell ⟨w.heap.size,3,none⟩ (.int .u8 (y3:Int))).setCell ⟨w.heap.size,4,none⟩ (.int .u8 (y4:Int))).setCell ⟨w.heap.size,5,none⟩ (.int .u8 (y5:Int))).heap[w.heap.size]?=some (.cells #[.int .u8 (y0:Int),.int .u8 (y1:Int),.int .u8 (y2:Int),.int .u8 (y3:Int),.int .u8 (y4:Int),.int .u8 (y5:Int),.int .u8 0,.int .u8 0] 279 (0,0)):=by rw[zab hb5];rfl
    have c6:(((((((wr).setCell ⟨w.heap.size,0,none⟩ (.int .u8 (y0:Int))).setCell ⟨w.heap.size,1,none⟩ (.int .u8 (y1:Int))).setCell ⟨w.heap.size,2,none⟩ (.int .u8 (y2:Int))).setCell ⟨w.heap.size,3,none⟩ (.int .u8 (y3:Int))).setCell ⟨w.heap.size,4,none⟩ (.int .u8 (y4:Int))).setCell ⟨w.heap.size,5,none⟩ (.int .u8 (y5:Int))).cell? ⟨w.heap.size,6,none⟩=some (.int .u8 0):=zaa hb6 6 _ rfl
    have z6:(((((((wr).setCell ⟨w.heap.size,0,none⟩ (.int .u8 (y0:Int))).setCell ⟨w.heap.size,1,none⟩ (.int .u8 (y1:Int))).setCell ⟨w.heap.size,2,none⟩ (.int .u8 (y2:Int))).setCell ⟨w.heap.size,3,none⟩ (.int .u8 (y3:Int))).setCell ⟨w.heap.size,4,none⟩ (.int .u8 (y4:Int))).setCell ⟨w.heap.size,5,none⟩ (.int .u8 (y5:Int))).frozen? ⟨w.heap.size,6,none⟩=false:=zac hb6 6
    have hb7:((((((((wr).setCell ⟨w.heap.size,0,none⟩ (.int .u8 (y0:Int))).setCell ⟨w.heap.size,1,none⟩ (.int .u8 (y1:Int))).setCell ⟨w.heap.size,2,none⟩ (.int .u8 (y2:Int))).setCell ⟨w.heap.size,3,none⟩ (.int .u8 (y3:Int))).setCell ⟨w.heap.size,4,none⟩ (.int .u8 (y4:Int))).setCell ⟨w.heap.size,5,none⟩ (.int .u8 (y5:Int))).setCell ⟨w.heap.size,6,none⟩ (.int .u8 (y6:Int))).heap[w.heap.size]?=some (.cells #[.int .u8 (y0:Int),.int .u8 (y1:Int),.int .u8 (y2:Int),.int .u8 (y3:Int),.int .u8 (y4:Int),.int .u8 (y5:Int),.int .u8 (y6:Int),.int .u8 0] 279 (0,0)):=by rw[zab hb6];rfl
    have c7:((((((((wr).setCell ⟨w.heap.size,0,none⟩ (.int .u8 (y0:Int))).setCell ⟨w.heap.size,1,none⟩ (.int .u8 (y1:Int))).setCell ⟨w.heap.size,2,none⟩ (.int .u8 (y2:Int))).setCell ⟨w.heap.size,3,none⟩ (.int .u8 (y3:Int))).setCell ⟨w.heap.size,4,none⟩ (.int .u8 (y4:Int))).setCell ⟨w.heap.size,5,none⟩ (.int .u8 (y5:Int))).setCell ⟨w.heap.size,6,none⟩ (.int .u8 (y6:Int))).cell? ⟨w.heap.size,7,none⟩=some (.int .u8 0):=zaa hb7 7 _ rfl
    have z7:((((((((wr).setCell ⟨w.heap.size,0,none⟩ (.int .u8 (y0:Int))).setCell ⟨w.heap.size,1,none⟩ (.int .u8 (y1:Int))).setCell ⟨w.heap.size,2,none⟩ (.int .u8 (y2:Int))).setCell ⟨w.heap.size,3,none⟩ (.int .u8 (y3:Int))).setCell ⟨w.heap.size,4,none⟩ (.int .u8 (y4:Int))).setCell ⟨w.heap.size,5,none⟩ (.int .u8 (y5:Int))).setCell ⟨w.heap.size,6,none⟩ (.int .u8 (y6:Int))).frozen? ⟨w.heap.size,7,none⟩=false:=zac hb7 7
    have hb8:(((((((((wr).setCell ⟨w.heap.size,0,none⟩ (.int .u8 (y0:Int))).setCell ⟨w.heap.size,1,none⟩ (.int .u8 (y1:Int))).setCell ⟨w.heap.size,2,none⟩ (.int .u8 (y2:Int))).setCell ⟨w.heap.size,3,none⟩ (.int .u8 (y3:Int))).setCell ⟨w.heap.size,4,none⟩ (.int .u8 (y4:Int))).setCell ⟨w.heap.size,5,none⟩ (.int .u8 (y5:Int))).setCell ⟨w.heap.size,6,none⟩ (.int .u8 (y6:Int))).setCell ⟨w.heap.size,7,none⟩ (.int .u8 (y7:Int))).heap[w.heap.size]?=some (.cells #[.int .u8 (y0:Int),.int .u8 (y1:Int),.int .u8 (y2:Int),.int .u8 (y3:Int),.int .u8 (y4:Int),.int .u8 (y5:Int),.int .u8 (y6:Int),.int .u8 (y7:Int)] 279 (0,0)):=by rw[zab hb7];rfl
    have q0:(((((((((wr).setCell ⟨w.heap.size,0,none⟩ (.int .u8 (y0:Int))).setCell ⟨w.heap.size,1,none⟩ (.int .u8 (y1:Int))).setCell ⟨w.heap.size,2,none⟩ (.int .u8 (y2:Int))).setCell ⟨w.heap.size,3,none⟩ (.int .u8 (y3:Int))).setCell ⟨w.heap.size,4,none⟩ (.int .u8 (y4:Int))).setCell ⟨w.heap.size,5,none⟩ (.int .u8 (y5:Int))).setCell ⟨w.heap.size,6,none⟩ (.int .u8 (y6:Int))).setCell ⟨w.heap.size,7,none⟩ (.int .u8 (y7:Int))).cell? ⟨w.heap.size,0,none⟩=some (.int .u8 (y0:Int)):=zaa hb8 0 _ rfl
    have q1:(((((((((wr).setCell ⟨w.heap.size,0,none⟩ (.int .u8 (y0:Int))).setCell ⟨w.heap.size,1,none⟩ (.int .u8 (y1:Int))).setCell ⟨w.heap.size,2,none⟩ (.int .u8 (y2:Int))).setCell ⟨w.heap.size,3,none⟩ (.int .u8 (y3:Int))).setCell ⟨w.heap.size,4,none⟩ (.int .u8 (y4:Int))).setCell ⟨w.heap.size,5,none⟩ (.int .u8 (y5:Int))).setCell ⟨w.heap.size,6,none⟩ (.int .u8 (y6:Int))).setCell ⟨w.heap.size,7,none⟩ (.int .u8 (y7:Int))).cell? ⟨w.heap.size,1,none⟩=some (.int .u8 (y1:Int)):=zaa hb8 1 _ rfl
    have q2:(((((((((wr).setCell ⟨w.heap.size,0,none⟩ (.int .u8 (y0:Int))).setCell ⟨w.heap.size,1,none⟩ (.int .u8 (y1:Int))).setCell ⟨w.heap.size,2,none⟩ (.int .u8 (y2:Int))).setCell ⟨w.heap.size,3,none⟩ (.int .u8 (y3:Int))).setCell ⟨w.heap.size,4,none⟩ (.int .u8 (y4:Int))).setCell ⟨w.heap.size,5,none⟩ (.int .u8 (y5:Int))).setCell ⟨w.heap.size,6,none⟩ (.int .u8 (y6:Int))).setCell ⟨w.heap.size,7,none⟩ (.int .u8 (y7:Int))).cell? ⟨w.heap.size,2,none⟩=some (.int .u8 (y2:Int)):=zaa hb8 2 _ rfl
    have q3:(((((((((wr).setCell ⟨w.heap.size,0,none⟩ (.int .u8 (y0:Int))).setCell ⟨w.heap.size,1,none⟩ (.int .u8 (y1:Int))).setCell ⟨w.heap.size,2,none⟩ (.int .u8 (y2:Int))).setCell ⟨w.heap.size,3,none⟩ (.int .u8 (y3:Int))).setCell ⟨w.heap.size,4,none⟩ (.int .u8 (y4:Int))).setCell ⟨w.heap.size,5,none⟩ (.int .u8 (y5:Int))).setCell ⟨w.heap.size,6,none⟩ (.int .u8 (y6:Int))).setCell ⟨w.heap.size,7,none⟩ (.int .u8 (y7:Int))).cell? ⟨w.heap.size,3,none⟩=some (.int .u8 (y3:Int)):=zaa hb8 3 _ rfl
    have q4:(((((((((wr).setCell ⟨w.heap.size,0,none⟩ (.int .u8 (y0:Int))).setCell ⟨w.heap.size,1,none⟩ (.int .u8 (y1:Int))).setCell ⟨w.heap.size,2,none⟩ (.int .u8 (y2:Int))).setCell ⟨w.heap.size,3,none⟩ (.int .u8 (y3:Int))).setCell ⟨w.heap.size,4,none⟩ (.int .u8 (y4:Int))).setCell ⟨w.heap.size,5,none⟩ (.int .u8 (y5:Int))).setCell ⟨w.heap.size,6,none⟩ (.int .u8 (y6:Int))).setCell ⟨w.heap.size,7,none⟩ (.int .u8 (y7:Int))).cell? ⟨w.heap.size,4,none⟩=some (.int .u8 (y4:Int)):=zaa hb8 4 _ rfl
    have q5:(((((((((wr).setCell ⟨w.heap.size,0,none⟩ (.int .u8 (y0:Int))).setCell ⟨w.heap.size,1,none⟩ (.int .u8 (y1:Int))).setCell ⟨w.heap.size,2,none⟩ (.int .u8 (y2:Int))).setCell ⟨w.heap.size,3,none⟩ (.int .u8 (y3:Int))).setCell ⟨w.heap.size,4,none⟩ (.int .u8 (y4:Int))).setCell ⟨w.heap.size,5,none⟩ (.int .u8 (y5:Int))).setCell ⟨w.heap.size,6,none⟩ (.int .u8 (y6:Int))).setCell ⟨w.heap.size,7,none⟩ (.int .u8 (y7:Int))).cell? ⟨w.heap.size,5,none⟩=some (.int .u8 (y5:Int)):=zaa hb8 5 _ rfl
    have q6:(((((((((wr).setCell ⟨w.heap.size,0,none⟩ (.int .u8 (y0:Int))).setCell ⟨w.heap.size,1,none⟩ (.int .u8 (y1:Int))).setCell ⟨w.heap.size,2,none⟩ (.int .u8 (y2:Int))).setCell ⟨w.heap.size,3,none⟩ (.int .u8 (y3:Int))).setCell ⟨w.heap.size,4,none⟩ (.int .u8 (y4:Int))).setCell ⟨w.heap.size,5,none⟩ (.int .u8 (y5:Int))).setCell ⟨w.heap.size,6,none⟩ (.int .u8 (y6:Int))).setCell ⟨w.heap.size,7,none⟩ (.int .u8 (y7:Int))).cell? ⟨w.heap.size,6,none⟩=some (.int .u8 (y6:Int)):=zaa hb8 6 _ rfl
    have q7:(((((((((wr).setCell ⟨w.heap.size,0,none⟩ (.int .u8 (y0:Int))).setCell ⟨w.heap.size,1,none⟩ (.int .u8 (y1:Int))).setCell ⟨w.heap.size,2,none⟩ (.int .u8 (y2:Int))).setCell ⟨w.heap.size,3,none⟩ (.int .u8 (y3:Int))).setCell ⟨w.heap.size,4,none⟩ (.int .u8 (y4:Int))).setCell ⟨w.heap.size,5,none⟩ (.int .u8 (y5:Int))).setCell ⟨w.heap.size,6,none⟩ (.int .u8 (y6:Int))).setCell ⟨w.heap.size,7,none⟩ (.int .u8 (y7:Int))).cell? ⟨w.heap.size,7,none⟩=some (.int .u8 (y7:Int)):=zaa hb8 7 _ rfl
    have QQ:=zqH (And.intro q0 (And.intro q1 (And.intro q2 (And.intro q3 (And.intro q4 (And.intro q5 (And.intro q6 q7)))))))
    clear hbe hh2 hb0 hb1 hb2 hb3 hb4 hb5 hb6 hb7 hb8 q0 q1 q2 q3 q4 q5 q6 q7 hh hu
    go_upto_region 7 with fail
    have hne:¬(w.heap.size=w.heap.size+1):=by omega
    go_wp2
    obtain⟨q0,q1,q2,q3,q4,q5,q6,q7⟩:=QQ.out
    refine bodyPost_ret (by simp[results,Tryz.results201,go_sem,q0,q1,q2,q3,q4,q5,q6,q7];try rfl) rfl ?_
    have hset:Upd (fun b=>b=w.heap.size) wr (((((((((wr).setCell ⟨w.heap.size,0,none⟩ (.int .u8 (y0:Int))).setCell ⟨w.heap.size,1,none⟩ (.int .u8 (y1:Int))).setCell ⟨w.heap.size,2,none⟩ (.int .u8 (y2:Int))).setCell ⟨w.heap.size,3,none⟩ (.int .u8 (y3:Int))).setCell ⟨w.heap.size,4,none⟩ (.int .u8 (y4:Int))).setCell ⟨w.heap.size,5,none⟩ (.int .u8 (y5:Int))).setCell ⟨w.heap.size,6,none⟩ (.int .u8 (y6:Int))).setCell ⟨w.heap.size,7,none⟩ (.int .u8 (y7:Int))):=(((((((Upd.setCell (S:=fun b=>b=w.heap.size) wr _ rfl).trans (Upd.setCell _ _ rfl)).trans (Upd.setCell _ _ rfl)).trans (Upd.setCell _ _ rfl)).trans (Upd.setCell _ _ rfl)).trans (Upd.setCell _ _ rfl)).trans (Upd.setCell _ _ rfl)).trans (Upd.setCell _ _ rfl)
    have hs2:=S2.out
    have h1:New w wr:=N.out.then HU.out (fun b hb e=>by have e:b=w.heap.size+1:=e;omega)
    refine⟨?_,h1.then hset (fun b hb e=>by have e:b=w.heap.size:=e;omega)⟩
    unfold eightV;rw[HBE.out];rfl
def OwnR (w:World) (bs:List Nat) (e:Ending) (w':World):Prop:=∃A c,e=.returned (.slice A bs.length c)/\w'.ownsRow w.heap.size 5 1 (.slice A bs.length c) bs.length (bs.map Gl.u8)/\New w w'
theorem own_one {w W:World} {o:Obj} {v:Value} (h:W=w.alloc (.cells #[v] 5)):W.ownsRow w.heap.size 5 1 (.slice (some ⟨w.heap.size,0,none⟩) 1 1) 1 [v]:=by
 refine⟨rfl,.inr ⟨w.heap.size,1,#[v],rfl,Nat.le_refl _,by rw[h];exact Ex.alloc_new w _,Nat.le_refl _,by decide,rfl,rfl⟩⟩
theorem first_c {w:World} (hd md a:Nat) (bb:Bool) (h1:hd<256) (h2:md<256) (h0:0<md) (ha:a<18446744073709551616):
 Calls Tryz.prog 174 #[.agg #[.int .u8 (hd:Int),.int .u8 (md:Int),.bool true,.bool bb,.bool false],.int .u64 (a:Int)] w (OwnR w (hd :: be 8 a ++ [md])):=by
 obtain⟨i0,hi0,hz0,hz1,hz2⟩:=info_parts info5
 have h8:=fun W=>eight_c (w:=W) a ha
 have H8:=zqH h8;have HA:=zqH ha
 have hmd:(((md:Nat):Int) != 0)=true:=by rw[bne_iff_ne];omega
 obtain⟨y0,y1,y2,y3,y4,y5,y6,y7,hbe⟩:=zbo (zah 8 a)
 have hev:eightV a=.agg #[.int .u8 (y0:Int),.int .u8 (y1:Int),.int .u8 (y2:Int),.int .u8 (y3:Int),.int .u8 (y4:Int),.int .u8 (y5:Int),.int .u8 (y6:Int),.int .u8 (y7:Int)]:=by unfold eightV;rw[hbe];rfl
 have HEV:=zqH hev;have HBE:=zqH hbe
 clear h8 ha hev hbe
 go_enter Tryz.func174,Tryz.ntmps174
 go_upto_region 4 with fail
 obtain⟨Wa,hWa⟩:∃Wa,Wa=w.alloc (.cells #[.int .u8 (hd:Int),.int .u8 (md:Int),.bool true,.bool bb,.bool false] 254):=⟨_,rfl⟩
 obtain⟨Wb,hWb⟩:∃Wb,Wb=Wa.alloc (.cells #[.int .u8 (hd:Int)] 5):=⟨_,rfl⟩
 have na:New w Wa:=by rw[hWa];exact Upd.alloc _ _ _
 have nb:New Wa Wb:=by rw[hWb];exact Upd.alloc _ _ _
 have sa:Wa.heap.size=w.heap.size+1:=by rw[hWa];exact zad _ _
 have sb:Wb.heap.size=w.heap.size+1+1:=by rw[hWb,zad,sa]
 have ba:Wb.heap[w.heap.size]?=some (.cells #[.int .u8 (hd:Int),.int .u8 (md:Int),.bool true,.bool bb,.bool false] 254 (0,0)):=(nb.block _ (by omega) id).trans (by rw[hWa];exact Ex.alloc_new w _)
 have ho:Wb.ownsRow w.heap.size 5 1 (.slice (some ⟨w.heap.size+1,0,none⟩) 1 1) 1 [.int .u8 (hd:Int)]:=by
  have:=own_one (v:=.int .u8 (hd:Int)) (o:=.cells #[] 5) hWb
  rw[sa]at this
  obtain⟨g1,⟨g2,g3⟩|⟨g,cap,cur,g2,g3,g4⟩⟩:=this
  · cases g2
  · exact⟨g1,.inr ⟨g,cap,cur,g2,by omega,g4⟩⟩
 rw[<-hWa,<-hWb]
 clear hWa hWb
 have HO:=zqH ho;have HB:=zqH ba;have HN:=zqH (na.trans nb);have SB:=zqH sb
 clear ho ba na nb sa sb
 go_upto_region 5 with(go_at_call 201;refine(H8.out Wb).mono ?_;rintro e Wc ⟨rfl,hc⟩;rw[HEV.out];have HC:=zqH hc;clear hc)
 obtain⟨Wd,hWd⟩:∃Wd,Wd=Wc.alloc (.cells #[.int .u8 (y0:Int),.int .u8 (y1:Int),.int .u8 (y2:Int),.int .u8 (y3:Int),.int .u8 (y4:Int),.int .u8 (y5:Int),.int .u8 (y6:Int),.int .u8 (y7:Int)] 279):=⟨_,rfl⟩
 rw[<-hWd]
 have nd:New Wb Wd:=by rw[hWd];exact HC.out.trans (Upd.alloc _ _ _)
 have bd:=Ex.alloc_new Wc (.cells #[.int .u8 (y0:Int),.int .u8 (y1:Int),.int .u8 (y2:Int),.int .u8 (y3:Int),.int .u8 (y4:Int),.int .u8 (y5:Int),.int .u8 (y6:Int),.int .u8 (y7:Int)] 279)
 rw[<-hWd]at bd
 have hsrc:Gl.Src Wd (some ⟨Wc.heap.size,0,none⟩) 8 ((be 8 a).map Gl.u8):=fun _=>⟨_,_,rfl,fun j u hu=>by
  rw[HBE.out]at hu
  rw[Nat.zero_add];exact zaa bd j u (by simpa using hu)⟩
 have hod:=zae HO.out (fun b hb hl=>nd.block b hl id)
 have hbf:=(nd.block _ (by have:=SB.out;omega) id).trans HB.out
 have f1:Wd.cell? ⟨w.heap.size,1,none⟩=some (.int .u8 (md:Int)):=zaa hbf 1 _ rfl
 have f2:Wd.cell? ⟨w.heap.size,2,none⟩=some (.bool true):=zaa hbf 2 _ rfl
 have ND:=zqH (HN.out.trans nd);have HS:=zqH hsrc;have HOD:=zqH hod;have HBF:=zqH hbf
 clear hWd nd bd hsrc hod hbf
 go_upto_region 6 with fail
 go_upto_region 7 with(at_builtin;refine wpList_append_src _ rfl _ _ _ rfl w.heap.size 5 i0 _ 1 1 Tryz.underlying113 hi0 hz0 hz1 hz2 rfl (by omega) (.slice (some ⟨w.heap.size+1,0,none⟩) 1 1) 1 [.int .u8 (hd:Int)] rfl HOD.out (some ⟨Wc.heap.size,0,none⟩) 8 8 ((be 8 a).map Gl.u8) rfl (by simp only[List.length_map,zah]) HS.out (zar _) (by decide) (by decide) ND.out.size ?_;intro A' c' w1 hown1 hg1 hat1;have HW1:=zqH (And.intro hown1 (And.intro hg1 hat1));clear hown1 hg1 hat1)
 obtain⟨hown1,hg1,hat1⟩:=HW1.out
 have hu1:Upd (fun b=>b=w.heap.size+1) Wd w1:=Upd.of_grown hg1 (fun c hc=>by cases hc;rfl)
 have hn1:New w w1:=ND.out.then hu1 (fun b hb e=>by have e:b=w.heap.size+1:=e;omega)
 have hsd:=ND.out.size
 have hlt:=(zqA.1 HBF.out).1
 have hb1:=(hu1.block w.heap.size hlt (by omega)).trans HBF.out
 have g1:w1.cell? ⟨w.heap.size,1,none⟩=some (.int .u8 (md:Int)):=zaa hb1 1 _ rfl
 obtain⟨We,hWe⟩:∃We,We=w1.alloc (.cells #[.int .u8 (md:Int)] 5):=⟨_,rfl⟩
 have ne:New w1 We:=by rw[hWe];exact Upd.alloc _ _ _
 have be':=Ex.alloc_new w1 (.cells #[.int .u8 (md:Int)] 5)
 rw[<-hWe]at be'
 have hsrc2:Gl.Src We (some ⟨w1.heap.size,0,none⟩) 1 [.int .u8 (md:Int)]:=fun _=>⟨_,_,rfl,fun j u hu=>by
  rw[Nat.zero_add];exact zaa be' j u (by simpa using hu)⟩
 have hoe:=zae hown1 (fun b hb hl=>ne.block b hl id)
 have HWE:=zqH hWe;have NE:=zqH (hn1.trans ne);have HS2:=zqH hsrc2;have HOE:=zqH hoe
 clear hown1 hg1 hat1 hu1 hn1 hb1 be' hsrc2 hoe ne f1 f2 hlt hsd
 go_upto_region 8 with fail
 go_upto_region 9 with(at_builtin;rw[<-hWe];refine wpList_append_src _ rfl _ _ _ rfl w.heap.size 5 i0 _ 1 1 Tryz.underlying113 hi0 hz0 hz1 hz2 rfl (by omega) (.slice A' 9 c') 9 ([.int .u8 (hd:Int)] ++ (be 8 a).map Gl.u8) rfl HOE.out (some ⟨w1.heap.size,0,none⟩) 1 1 [.int .u8 (md:Int)] rfl rfl HS2.out (fun u hu=>by simp at hu;subst hu;rfl) (by decide) (by decide) NE.out.size ?_;intro A2 c2 w2 hown2 hg2 hat2;have HW2:=zqH (And.intro hown2 (And.intro hg2 hat2));clear hown2 hg2 hat2)
 go_wp2
 go_ret
 obtain⟨hown2,hg2,hat2⟩:=HW2.out
 have hl:(hd :: (be 8 a ++ [md])).length=10:=by simp[zah]
 have hu2:Upd (fun b=>(Value.slice A' 9 c').ownBlock=some b) We w2:=Upd.of_grown hg2 (fun c hc=>hc)
 have hn2:New w w2:=NE.out.then hu2 (fun b hb e=>by have:=(HOE.out.lt b e).1;omega)
 unfold OwnR
 rw[hl]
 exact⟨A2,c2,rfl,by simpa using hown2,hn2⟩
theorem alloc3' {w W1 W2 W3:World} {o1 o2 o3:Obj} (h1:W1=w.alloc o1) (h2:W2=W1.alloc o2) (h3:W3=W2.alloc o3):New w W3/\W3.heap.size=w.heap.size+1+1+1/\W3.heap[w.heap.size]?=some o1/\W3.heap[w.heap.size+1]?=some o2/\W3.heap[w.heap.size+1+1]?=some o3:=by
 have s1:W1.heap.size=w.heap.size+1:=by rw[h1];exact zad _ _
 have s2:W2.heap.size=w.heap.size+1+1:=by rw[h2,zad,s1]
 have n1:New w W1:=by rw[h1];exact Upd.alloc _ _ _
 have n2:New W1 W2:=by rw[h2];exact Upd.alloc _ _ _
 have n3:New W2 W3:=by rw[h3];exact Upd.alloc _ _ _
 refine⟨n1.trans (n2.trans n3),by rw[h3,zad,s2],?_,?_,?_⟩
 · exact(n3.block _ (by omega) id).trans ((n2.block _ (by omega) id).trans (by rw[h1];exact Ex.alloc_new w _))
 · exact(n3.block _ (by omega) id).trans (by rw[h2,<-s1];exact Ex.alloc_new W1 _)
 · rw[h3,<-s2];exact Ex.alloc_new W2 _
theorem used_c {w:World} (hd md:Nat) (k a b:Int):
 Calls Tryz.prog 200 #[.agg #[.int .u8 (hd:Int),.int .u8 (md:Int),.bool true,.bool true,.bool false],.agg #[.int .i64 k,.int .u64 a,.int .u64 b]] w fun e w'=>e=.returned (.agg #[.int .i64 k,.int .u64 a,.int .u64 b])/\New w w':=by
 obtain⟨W1,hW1⟩:∃W1,W1=w.alloc (.cells #[.int .u8 (hd:Int),.int .u8 (md:Int),.bool true,.bool true,.bool false] 254):=⟨_,rfl⟩
 obtain⟨W2,hW2⟩:∃W2,W2=W1.alloc (.cells #[.int .i64 k,.int .u64 a,.int .u64 b] 133):=⟨_,rfl⟩
 obtain⟨W3,hW3⟩:∃W3,W3=W2.alloc (.cells #[.int .i64 0,.int .u64 0,.int .u64 0] 133):=⟨_,rfl⟩
 obtain⟨hn,hs,b0,b1,b2⟩:=alloc3' hW1 hW2 hW3
 have f2:W3.cell? ⟨w.heap.size,2,none⟩=some (.bool true):=zaa b0 2 _ rfl
 have f3:W3.cell? ⟨w.heap.size,3,none⟩=some (.bool true):=zaa b0 3 _ rfl
 have l0:W3.cell? ⟨w.heap.size+1,0,none⟩=some (.int .i64 k):=zaa b1 0 _ rfl
 have l1:W3.cell? ⟨w.heap.size+1,1,none⟩=some (.int .u64 a):=zaa b1 1 _ rfl
 have l2:W3.cell? ⟨w.heap.size+1,2,none⟩=some (.int .u64 b):=zaa b1 2 _ rfl
 have c0:W3.cell? ⟨w.heap.size+1+1,0,none⟩=some (.int .i64 0):=zaa b2 0 _ rfl
 have z0:W3.frozen? ⟨w.heap.size+1+1,0,none⟩=false:=zac b2 0
 have hb1:(W3.setCell ⟨w.heap.size+1+1,0,none⟩ (.int .i64 k)).heap[w.heap.size+1+1]?=some (.cells #[.int .i64 k,.int .u64 0,.int .u64 0] 133 (0,0)):=by rw[zab b2];rfl
 have c1:(W3.setCell ⟨w.heap.size+1+1,0,none⟩ (.int .i64 k)).cell? ⟨w.heap.size+1+1,1,none⟩=some (.int .u64 0):=zaa hb1 1 _ rfl
 have z1:(W3.setCell ⟨w.heap.size+1+1,0,none⟩ (.int .i64 k)).frozen? ⟨w.heap.size+1+1,1,none⟩=false:=zac hb1 1
 have hb2:((W3.setCell ⟨w.heap.size+1+1,0,none⟩ (.int .i64 k)).setCell ⟨w.heap.size+1+1,1,none⟩ (.int .u64 a)).heap[w.heap.size+1+1]?=some (.cells #[.int .i64 k,.int .u64 a,.int .u64 0] 133 (0,0)):=by rw[zab hb1];rfl
 have c2:((W3.setCell ⟨w.heap.size+1+1,0,none⟩ (.int .i64 k)).setCell ⟨w.heap.size+1+1,1,none⟩ (.int .u64 a)).cell? ⟨w.heap.size+1+1,2,none⟩=some (.int .u64 0):=zaa hb2 2 _ rfl
 have z2:((W3.setCell ⟨w.heap.size+1+1,0,none⟩ (.int .i64 k)).setCell ⟨w.heap.size+1+1,1,none⟩ (.int .u64 a)).frozen? ⟨w.heap.size+1+1,2,none⟩=false:=zac hb2 2
 have hb3:(((W3.setCell ⟨w.heap.size+1+1,0,none⟩ (.int .i64 k)).setCell ⟨w.heap.size+1+1,1,none⟩ (.int .u64 a)).setCell ⟨w.heap.size+1+1,2,none⟩ (.int .u64 b)).heap[w.heap.size+1+1]?=some (.cells #[.int .i64 k,.int .u64 a,.int .u64 b] 133 (0,0)):=by rw[zab hb2];rfl
 have q0:(((W3.setCell ⟨w.heap.size+1+1,0,none⟩ (.int .i64 k)).setCell ⟨w.heap.size+1+1,1,none⟩ (.int .u64 a)).setCell ⟨w.heap.size+1+1,2,none⟩ (.int .u64 b)).cell? ⟨w.heap.size+1+1,0,none⟩=some (.int .i64 k):=zaa hb3 0 _ rfl
 have q1:(((W3.setCell ⟨w.heap.size+1+1,0,none⟩ (.int .i64 k)).setCell ⟨w.heap.size+1+1,1,none⟩ (.int .u64 a)).setCell ⟨w.heap.size+1+1,2,none⟩ (.int .u64 b)).cell? ⟨w.heap.size+1+1,1,none⟩=some (.int .u64 a):=zaa hb3 1 _ rfl
 have q2:(((W3.setCell ⟨w.heap.size+1+1,0,none⟩ (.int .i64 k)).setCell ⟨w.heap.size+1+1,1,none⟩ (.int .u64 a)).setCell ⟨w.heap.size+1+1,2,none⟩ (.int .u64 b)).cell? ⟨w.heap.size+1+1,2,none⟩=some (.int .u64 b):=zaa hb3 2 _ rfl
 have hset:Upd (fun x=>x=w.heap.size+1+1) W3 (((W3.setCell ⟨w.heap.size+1+1,0,none⟩ (.int .i64 k)).setCell ⟨w.heap.size+1+1,1,none⟩ (.int .u64 a)).setCell ⟨w.heap.size+1+1,2,none⟩ (.int .u64 b)):=((Upd.setCell (S:=fun x=>x=w.heap.size+1+1) W3 _ rfl).trans (Upd.setCell _ _ rfl)).trans (Upd.setCell _ _ rfl)
 have QQ:=zqH (And.intro q0 (And.intro q1 q2));have HN:=zqH (And.intro hn hset)
 clear hn hs b0 b1 b2 hb1 hb2 hb3 q0 q1 q2 hset
 go_enter Tryz.func200,Tryz.ntmps200
 go_upto_region 1 with fail
 rw[<-hW1,<-hW2,<-hW3]
 clear hW1 hW2 hW3
 go_wp2
 obtain⟨q0,q1,q2⟩:=QQ.out
 refine bodyPost_ret (by simp[results,Tryz.results200,go_sem,q0,q1,q2];try rfl) rfl ?_
 obtain⟨hn,hset⟩:=HN.out
 exact⟨rfl,hn.then hset (fun x hb e=>by have e:x=w.heap.size+1+1:=e;omega)⟩
def OwnT (w:World) (bs:List Nat) (e:Ending) (w':World):Prop:=∃A c,e=.returned (.tuple #[.slice A bs.length c,.int .i64 0])/\w'.ownsRow w.heap.size 5 1 (.slice A bs.length c) bs.length (bs.map Gl.u8)/\New w w'
theorem first_10 {w:World} (hd md a:Nat) (bb:Bool) (h1:hd<256) (h2:md<256) (h0:0<md) (ha:a<18446744073709551616):
 Calls Tryz.prog 174 #[.agg #[.int .u8 (hd:Int),.int .u8 (md:Int),.bool true,.bool bb,.bool false],.int .u64 (a:Int)] w fun e w'=>∃A c,e=.returned (.slice A 10 c)/\w'.ownsRow w.heap.size 5 1 (.slice A 10 c) 10 ((hd :: (be 8 a ++ [md])).map Gl.u8)/\New w w':=by
 refine(first_c hd md a bb h1 h2 h0 ha).mono ?_
 rintro e w' ⟨A,c,rfl,ho,hn⟩
 have hl:(hd :: be 8 a ++ [md]).length=10:=by simp[zah]
 rw[hl]at ho ⊢
 exact⟨A,c,rfl,ho,hn⟩
theorem make_c {w:World} (kind:Int) (hd md a b:Nat) (hf:∀W,Calls Tryz.prog 173 #[.int .i64 kind] W fun e w'=>e=.returned (.tuple #[.agg #[.int .u8 (hd:Int),.int .u8 (md:Int),.bool true,.bool true,.bool false],.bool true])/\New W w') (h1:hd<256) (h2:md<256) (h0:0<md) (ha:a<18446744073709551616) (hb:b<18446744073709551616):
 Calls Tryz.prog 135 #[.agg #[.int .i64 kind,.int .u64 (a:Int),.int .u64 (b:Int)]] w (OwnT w (hd :: be 8 a ++ [md] ++ be 8 b)):=by
 obtain⟨i0,hi0,hz0,hz1,hz2⟩:=info_parts info5
 obtain⟨W1,hW1⟩:∃W1,W1=w.alloc (.cells #[.int .i64 kind,.int .u64 (a:Int),.int .u64 (b:Int)] 133):=⟨_,rfl⟩
 have n1:New w W1:=by rw[hW1];exact Upd.alloc _ _ _
 have b1:=Ex.alloc_new w (.cells #[.int .i64 kind,.int .u64 (a:Int),.int .u64 (b:Int)] 133)
 rw[<-hW1]at b1
 have s1:W1.heap.size=w.heap.size+1:=by rw[hW1];exact zad _ _
 have l0:W1.cell? ⟨w.heap.size,0,none⟩=some (.int .i64 kind):=zaa b1 0 _ rfl
 have HF:=zqH (hf W1);have N1:=zqH n1;have B1:=zqH b1;have S1:=zqH s1
 have HFI:=zqH (fun W=>first_10 (w:=W) hd md a true h1 h2 h0 ha);have HEI:=zqH (fun W=>eight_c (w:=W) b hb);have HUS:=zqH (fun W=>used_c (w:=W) hd md kind (a:Int) (b:Int))
 obtain⟨y0,y1,y2,y3,y4,y5,y6,y7,hbe⟩:=zbo (zah 8 b)
 have hev:eightV b=.agg #[.int .u8 (y0:Int),.int .u8 (y1:Int),.int .u8 (y2:Int),.int .u8 (y3:Int),.int .u8 (y4:Int),.int .u8 (y5:Int),.int .u8 (y6:Int),.int .u8 (y7:Int)]:=by unfold eightV;rw[hbe];rfl
 have HEV:=zqH hev;have HBE:=zqH hbe
 clear hf n1 b1 s1 h1 h2 h0 ha hb hev hbe
 go_enter Tryz.func135,Tryz.ntmps135
 go_upto_region 1 with fail
 rw[<-hW1]
 clear hW1
 go_upto_region 2 with(go_at_call 173;refine HF.out.mono ?_;rintro e W2 ⟨rfl,hf2⟩;have HF2:=zqH (zay hf2);clear HF hf2)
 obtain⟨W3,hW3⟩:∃W3,W3=W2.alloc (.cells #[.int .u8 (hd:Int),.int .u8 (md:Int),.bool true,.bool true,.bool false] 254):=⟨_,rfl⟩
 rw[<-hW3]
 have n3:New W1 W3:=by rw[hW3];exact HF2.out.trans (Upd.alloc _ _ _)
 have b3:=Ex.alloc_new W2 (.cells #[.int .u8 (hd:Int),.int .u8 (md:Int),.bool true,.bool true,.bool false] 254)
 rw[<-hW3]at b3
 have hcell:∀W',New W3 W'->W'.cell? ⟨W2.heap.size,0,none⟩=some (.int .u8 (hd:Int))/\W'.cell? ⟨W2.heap.size,1,none⟩=some (.int .u8 (md:Int))/\W'.cell? ⟨W2.heap.size,2,none⟩=some (.bool true)/\W'.cell? ⟨W2.heap.size,3,none⟩=some (.bool true)/\W'.cell? ⟨W2.heap.size,4,none⟩=some (.bool false)/\W'.cell? ⟨w.heap.size,0,none⟩=some (.int .i64 kind)/\W'.cell? ⟨w.heap.size,1,none⟩=some (.int .u64 (a:Int))/\W'.cell? ⟨w.heap.size,2,none⟩=some (.int .u64 (b:Int)):=fun W' hn'=>by
  have k3:=(hn'.block _ (zqA.1 b3).1 id).trans b3
  have k1:=((n3.trans hn').block _ (zqA.1 B1.out).1 id).trans B1.out
  exact⟨zaa k3 0 _ rfl,zaa k3 1 _ rfl,zaa k3 2 _ rfl,zaa k3 3 _ rfl,zaa k3 4 _ rfl,zaa k1 0 _ rfl,zaa k1 1 _ rfl,zaa k1 2 _ rfl⟩
 obtain⟨g0,g1,g2,g3,g4,g5,g6,g7⟩:=hcell W3 (Upd.refl _ _)
 have HC:=zqH hcell;have N3:=zqH (N1.out.trans n3)
 clear hcell n3 b3 hW3 l0
 go_region_held (fun w'=>w'.cell? ⟨W2.heap.size,0,none⟩=some (.int .u8 (hd:Int))/\w'.cell? ⟨W2.heap.size,1,none⟩=some (.int .u8 (md:Int))/\w'.cell? ⟨W2.heap.size,2,none⟩=some (.bool true)/\w'.cell? ⟨W2.heap.size,3,none⟩=some (.bool true)/\w'.cell? ⟨W2.heap.size,4,none⟩=some (.bool false)/\w'.cell? ⟨w.heap.size,0,none⟩=some (.int .i64 kind)/\w'.cell? ⟨w.heap.size,1,none⟩=some (.int .u64 (a:Int))/\w'.cell? ⟨w.heap.size,2,none⟩=some (.int .u64 (b:Int))) (go_keep) (
  (go_at_call 200
   refine(HUS.out _).mono ?_
   rintro e W4 ⟨rfl,hn4⟩
   have hn4':New W3 W4:=(Upd.refl _ W3).drew.trans hn4
   obtain⟨r0,r1,r2,r3,r4,r5,r6,r7⟩:=HC.out _ hn4'
   have H4:=zqH hn4'
   clear hn4 hn4'))
 clear g0 g1 g2 g3 g4 g5 g6 g7
 go_upto_region 5 with(go_at_call 174;refine(HFI.out W4).mono ?_;rintro e W5 ⟨A5,c5,rfl,ho5,hn5⟩;have H5:=zqH (And.intro ho5 hn5);clear ho5 hn5)
 obtain⟨ho5,hn5⟩:=H5.out
 obtain⟨t0,t1,t2,t3,t4,t5,t6,t7⟩:=HC.out _ (H4.out.trans hn5)
 have HO5:=zqH ho5;have HN5:=zqH hn5
 clear r0 r1 r2 r3 r4 r5 r6 r7 ho5 hn5
 go_upto_region 6 with(go_at_call 201;refine(HEI.out W5).mono ?_;rintro e W6 ⟨rfl,hn6⟩;rw[HEV.out];have H6:=zqH hn6;clear hn6)
 obtain⟨Wd,hWd⟩:∃Wd,Wd=W6.alloc (.cells #[.int .u8 (y0:Int),.int .u8 (y1:Int),.int .u8 (y2:Int),.int .u8 (y3:Int),.int .u8 (y4:Int),.int .u8 (y5:Int),.int .u8 (y6:Int),.int .u8 (y7:Int)] 279):=⟨_,rfl⟩
 rw[<-hWd]
 have nd:New W5 Wd:=by rw[hWd];exact H6.out.trans (Upd.alloc _ _ _)
 have bd:=Ex.alloc_new W6 (.cells #[.int .u8 (y0:Int),.int .u8 (y1:Int),.int .u8 (y2:Int),.int .u8 (y3:Int),.int .u8 (y4:Int),.int .u8 (y5:Int),.int .u8 (y6:Int),.int .u8 (y7:Int)] 279)
 rw[<-hWd]at bd
 have hsrc:Gl.Src Wd (some ⟨W6.heap.size,0,none⟩) 8 ((be 8 b).map Gl.u8):=fun _=>⟨_,_,rfl,fun j u hu=>by
  rw[HBE.out]at hu
  rw[Nat.zero_add];exact zaa bd j u (by simpa using hu)⟩
 have hod:=zae HO5.out (fun b hb hl=>nd.block b hl id)
 have p3:Wd.cell? ⟨W2.heap.size,3,none⟩=some (.bool true):=(HC.out _ (H4.out.trans (HN5.out.trans nd))).2.2.2.1
 have HS:=zqH hsrc;have HOD:=zqH hod;have ND:=zqH nd
 clear hWd nd bd hsrc hod t0 t1 t2 t3 t4 t5 t6 t7
 go_upto_region 7 with fail
 go_upto_region 8 with(at_builtin;refine wpList_append_src _ rfl _ _ _ rfl W4.heap.size 5 i0 _ 1 1 Tryz.underlying113 hi0 hz0 hz1 hz2 rfl (by omega) (.slice A5 10 c5) 10 ((hd :: (be 8 a ++ [md])).map Gl.u8) rfl HOD.out (some ⟨W6.heap.size,0,none⟩) 8 8 ((be 8 b).map Gl.u8) rfl (by simp only[List.length_map,zah]) HS.out (zar _) (by decide) (by decide) (Nat.le_trans HN5.out.size ND.out.size) ?_;intro A' c' w1 hown1 hg1 hat1;have HW1:=zqH (And.intro hown1 (And.intro hg1 hat1));clear hown1 hg1 hat1)
 go_wp2
 go_ret2
 obtain⟨hown1,hg1,hat1⟩:=HW1.out
 have hu1:Upd (fun b=>(Value.slice A5 10 c5).ownBlock=some b) Wd w1:=Upd.of_grown hg1 (fun c hc=>hc)
 have hn4:New w W4:=N3.out.trans H4.out
 have hn1:New w w1:=((hn4.trans HN5.out).trans ND.out).then hu1 (fun b hb e=>by have:=(HOD.out.lt b e).1;have:=hn4.size;omega)
 have hl2:(hd :: be 8 a ++ [md] ++ be 8 b).length=18:=by simp[zah]
 have hl3:(hd :: (be 8 a ++ [md] ++ be 8 b)).length=18:=hl2
 have hbb:w1.ownsRow w.heap.size 5 1 (.slice A' 18 c') 18 ((hd :: (be 8 a ++ [md] ++ be 8 b)).map Gl.u8):=by
  obtain⟨g1,⟨g2,g3⟩|⟨g,cap,cur,g2,g3,g4⟩⟩:=hown1
  · cases g3
  · exact⟨by simpa using g1,.inr ⟨g,cap,cur,g2,Nat.le_trans hn4.size g3,by simpa using g4⟩⟩
 unfold OwnT
 rw[hl3]
 exact⟨A',c',rfl,hbb,hn1⟩
def KeyR (w:World) (bs:List Nat) (e:Ending) (w':World):Prop:=∃A c,e=.returned (.slice A 18 c)/\By w' A 18 c bs/\New w w'/\∀a,A=some a->w.heap.size<=a.block
theorem key_of {w:World} (kind:Int) (hd md a b:Nat) (hf:∀W,Calls Tryz.prog 173 #[.int .i64 kind] W fun e w'=>e=.returned (.tuple #[.agg #[.int .u8 (hd:Int),.int .u8 (md:Int),.bool true,.bool true,.bool false],.bool true])/\New W w') (h1:hd<256) (h2:md<256) (h0:0<md) (ha:a<18446744073709551616) (hb:b<18446744073709551616):
 Calls Tryz.prog 78 #[.int .i64 kind,.int .u64 (a:Int),.int .u64 (b:Int)] w (KeyR w (hd :: (be 8 a ++ md :: be 8 b))):=by
 have hm:=make_c (w:=w) kind hd md a b hf h1 h2 h0 ha hb
 have hm2:Calls Tryz.prog 135 #[.agg #[.int .i64 kind,.int .u64 (a:Int),.int .u64 (b:Int)]] w fun e w'=>∃A c,e=.returned (.tuple #[.slice A 18 c,.int .i64 0])/\By w' A 18 c (hd :: (be 8 a ++ md :: be 8 b))/\New w w'/\∀a,A=some a->w.heap.size<=a.block:=by
  refine hm.mono ?_
  rintro e w' ⟨A,c,rfl,ho,hn⟩
  have hl:(hd :: be 8 a ++ [md] ++ be 8 b).length=18:=by simp[zah]
  rw[hl]at ho ⊢
  have hs:Small (hd :: be 8 a ++ [md] ++ be 8 b):=by
   refine Small.append (Small.append (fun x hx=>?_) (fun x hx=>?_)) (be_small _ _)
   · rcases List.mem_cons.1 hx with rfl|hx
     · exact h1
     · exact be_small _ _ x hx
   · simp at hx;subst hx;exact h2
  have hby:=By.of_own ho hs
  refine⟨A,c,rfl,by simpa using hby,hn,fun a' ha'=>(ho.lt a'.block (by rw[ha'];rfl)).1⟩
 have H:=zqH hm2
 clear hm hm2 hf h1 h2 h0 ha hb
 go_enter Tryz.func78,Tryz.ntmps78
 go_wp2_with (go_at_call 135;refine H.out.mono ?_;rintro e w1 ⟨A,c,rfl,hby,hn,hat⟩;have H1:=zqH (And.intro hby (And.intro hn hat));clear hby hn hat)
 go_ret
 exact⟨A,c,rfl,H1.out.1,H1.out.2.1,H1.out.2.2⟩
theorem keyH {w:World} (p:Nat) (hp:p<18446744073709551616):Calls Tryz.prog 78 #[.int .i64 7,.int .u64 16,.int .u64 (p:Int)] w (KeyR w (F1.hk p)):=key_of 7 118 104 16 p form7 (by decide) (by decide) (by decide) (by decide) hp
theorem keyC {w:World} (p:Nat) (hp:p<18446744073709551616):Calls Tryz.prog 78 #[.int .i64 8,.int .u64 16,.int .u64 (p:Int)] w (KeyR w (F1.ck p)):=key_of 8 118 115 16 p form8 (by decide) (by decide) (by decide) (by decide) hp
end Go.Proofs.YtbhnjkegkadodaaGreatDoor
